/-
  The reference's decoding of pipes, plain: it is the program's.
-/
import Derived.Test.YtdjjfjnkkgmadaaGreatDoorPipeP
namespace Go.Proofs.YtdjjfjnkkgmadaaGreatDoor
open Go Go.RowKit

/-- The number at the beginning of bytes, and the rest. -/
def tk (l : List UInt8) : Int × List UInt8 := match Cd.dec 9 true l with
  | .ok n s => (n, l.drop s)
  | .err _ => (-1, [])

theorem tk_nat (u : Nat) (hu : u < 9223372036854775808) (r : List UInt8) : tk (Cd.nat u ++ r) = ((u : Int), r) := by
  have hd := Cd.dec_nat 9 u true r (by simpa using hu) (.inl rfl) (by omega)
  simp only [tk, hd]
  simp

/-- The reference's guess. -/
def guess (l : List UInt8) : Pp × Int × List UInt8 :=
  let a := tk l
  let b := tk a.2
  let c := tk b.2
  let d := tk c.2
  (⟨a.1, b.1, c.1, bs d.2⟩, d.1, d.2)

/-- The reference's decoding. -/
def rdec (l : List UInt8) : Pp × Int :=
  if (guess l).2.1 < 0 ∨ (guess l).2.1 ≠ ((guess l).2.2.length : Int) then (Pp.zero, 3)
  else if (guess l).1.err ≠ 0 ∨ (guess l).1.enc ≠ l then (Pp.zero, 3) else ((guess l).1, 0)

theorem guess_enc {p : Pp} (h : p.err = 0) : guess p.enc = (p, (p.b.size : Int), p.b.data.toList) := by
  obtain ⟨⟨h1, h2⟩, ⟨h3, h4⟩, ⟨h5, h6⟩, h7, h8⟩ := Pp.err_zero h
  have e : p.enc = Cd.nat p.e.toNat ++ (Cd.nat p.r.toNat ++ (Cd.nat p.w.toNat ++ (Cd.nat p.b.size ++ p.b.data.toList))) := by
    simp [Pp.enc]
  have a := tk_nat p.e.toNat (by omega)
  have b := tk_nat p.r.toNat (by omega)
  have c := tk_nat p.w.toNat (by omega)
  have d := tk_nat p.b.size (by omega)
  unfold guess
  rw [e]
  simp only [a, b, c, d]
  simp [bs_of, Int.toNat_of_nonneg h1, Int.toNat_of_nonneg h3, Int.toNat_of_nonneg h5]

theorem rnum_zero {most : Int} {l : List UInt8} {e : Nat} (h : (Cd.rnum most l e).2.2 = 0) : e = 0 ∧ l = Cd.nat (Cd.rnum most l e).1 ++ (Cd.rnum most l e).2.1 := by
  by_cases he : e = 0
  · refine ⟨he, ?_⟩
    subst he
    simp only [Cd.rnum, if_true, Cd.num] at h ⊢
    cases hd : Cd.dec 9 true l with
    | err e =>
      rw [hd] at h
      have := Cd.dec_err 9 true l e hd
      simp only at h
      omega
    | ok n s =>
      rw [hd] at h
      simp only at h ⊢
      obtain ⟨_, h2, _, r, hr⟩ := Cd.dec_ok 9 true l n s hd
      by_cases hm : most < (n : Int)
      · rw [if_pos hm] at h
        simp at h
      · rw [if_neg hm]
        simp only
        subst h2
        rw [hr]
        simp
  · simp only [Cd.rnum, if_neg he] at h
    exact absurd h he

theorem rtxt_zero {most : Int} {l : List UInt8} {e : Nat} (h : (Cd.rtxt most l e).2.2 = 0) : e = 0 ∧ l = Cd.nat (Cd.rtxt most l e).1.length ++ (Cd.rtxt most l e).1 ++ (Cd.rtxt most l e).2.1 := by
  by_cases he : e = 0
  · refine ⟨he, ?_⟩
    subst he
    simp only [Cd.rtxt, if_true, Cd.txt] at h ⊢
    cases hd : Cd.dec 9 true l with
    | err e =>
      rw [hd] at h
      have := Cd.dec_err 9 true l e hd
      simp only at h
      omega
    | ok n s =>
      rw [hd] at h
      simp only at h ⊢
      obtain ⟨_, h2, _, r, hr⟩ := Cd.dec_ok 9 true l n s hd
      by_cases hm : most < (n : Int)
      · rw [if_pos hm] at h
        simp at h
      · rw [if_neg hm] at h ⊢
        by_cases hl : l.length < s + n
        · rw [if_pos hl] at h
          simp at h
        · rw [if_neg hl]
          simp only
          have hlen : ((l.drop s).take n).length = n := by
            rw [List.length_take, List.length_drop]; omega
          rw [hlen]
          subst h2
          have hdrop : l.drop (Cd.nat n).length = r := by rw [hr]; simp
          rw [← List.drop_drop, hdrop, List.append_assoc, List.take_append_drop]
          exact hr
  · simp only [Cd.rtxt, if_neg he] at h
    exact absurd h he

theorem rclose_zero {l : List UInt8} {e : Nat} (h : Cd.rclose l e = 0) : e = 0 ∧ l = [] := by
  unfold Cd.rclose at h
  split at h
  · cases h
  · rename_i hn
    subst h
    refine ⟨rfl, ?_⟩
    cases l with
    | nil => rfl
    | cons a b => exact absurd ⟨rfl, by simp⟩ hn

theorem read_zero {l : List UInt8} (h : (Pp.read l).2 = 0) : (Pp.read l).1.enc = l := by
  unfold Pp.read at h ⊢
  simp only at h ⊢
  obtain ⟨h1, h2⟩ := rclose_zero h
  obtain ⟨h3, h4⟩ := rtxt_zero h1
  obtain ⟨h5, h6⟩ := rnum_zero h3
  obtain ⟨h7, h8⟩ := rnum_zero h5
  obtain ⟨h9, h10⟩ := rnum_zero h7
  unfold Pp.enc
  simp only [Int.toNat_natCast, bs_size, bs_list]
  rw [h2, List.append_nil] at h4
  rw [List.append_assoc, List.append_assoc, List.append_assoc, List.nil_append]
  rw [← h4, ← h6, ← h8, ← h10]

theorem rdec_eq (l : List UInt8) : rdec l = Pp.dec l := by
  by_cases h : (Pp.read l).2 = 0 ∧ (Pp.read l).1.err = 0
  · have e1 : Pp.dec l = ((Pp.read l).1, 0) := by rw [Pp.dec, if_pos h]
    have e2 := read_zero h.1
    have e3 := guess_enc h.2
    rw [e1]
    generalize (Pp.read l).1 = p at *
    subst e2
    unfold rdec
    rw [e3]
    simp only
    have hl := dl p.b
    rw [if_neg (by omega), if_neg (by simp [h.2])]
  · have e1 : Pp.dec l = (Pp.zero, 3) := by rw [Pp.dec, if_neg h]
    unfold rdec
    split
    · exact e1.symm
    · split
      · exact e1.symm
      · rename_i _ hg
        exfalso
        have h1 : (guess l).1.err = 0 := Decidable.byContradiction fun hh => hg (.inl hh)
        have h2 : (guess l).1.enc = l := Decidable.byContradiction fun hh => hg (.inr hh)
        have := read_enc h1
        rw [h2] at this
        rw [this] at h
        exact h ⟨rfl, h1⟩

theorem err_two {p : Pp} (h : p.e < 0 ∨ 1073741824 < p.e ∨ p.r < 0 ∨ 64 < p.r ∨ p.w < 0 ∨ 64 < p.w) : p.err = 2 := by
  unfold Pp.err
  by_cases a : within p.e 1073741824 = false
  · rw [if_pos a]
  · rw [if_neg a]
    by_cases b : within p.r 64 = false
    · rw [if_pos b]
    · rw [if_neg b]
      by_cases c : within p.w 64 = false
      · rw [if_pos c]
      · exfalso
        simp only [within, decide_eq_false_iff_not, Decidable.not_not] at a b c
        omega

theorem err_rest {p : Pp} (h : ¬ (p.e < 0 ∨ 1073741824 < p.e ∨ p.r < 0 ∨ 64 < p.r ∨ p.w < 0 ∨ 64 < p.w)) : p.err = if p.r + p.w = 0 then 1 else if 256 < p.b.size then 5 else 0 := by
  have a : within p.e 1073741824 = true := by simp only [within, decide_eq_true_eq]; omega
  have b : within p.r 64 = true := by simp only [within, decide_eq_true_eq]; omega
  have c : within p.w 64 = true := by simp only [within, decide_eq_true_eq]; omega
  unfold Pp.err
  rw [a, b, c]
  rfl

/-- The number of k groups. -/
def gsum (l : List UInt8) : Nat → Nat
  | 0 => 0
  | k + 1 => gsum l k + 128 ^ k * ((l.getD k 0).toNat % 128)

end Go.Proofs.YtdjjfjnkkgmadaaGreatDoor
