/-
  Ports and packets, plain: the first error, the encoding, the decoding; what is encoded is decoded, and what is decoded is the encoding.
-/
import Derived.Test.YtdjjfjnkkgmadaaGreatDoorVals0
import Derived.Test.YtdjjfjnkkgmadaaGreatDoorWord
import Derived.Test.YtdjjfjnkkgmadaaGreatDoorLin
namespace Go.Proofs.YtdjjfjnkkgmadaaGreatDoor
open Go Go.RowKit

/-- A packet. -/
structure Pk where
  f : ByteArray
  b : ByteArray
  deriving DecidableEq

/-- A port. -/
structure Po where
  o : ByteArray
  e : Int
  l : Int
  q : List Pk
  deriving DecidableEq

def Pk.err (p : Pk) : Int := if word p.f.data.toList = false then 12 else if 512 < p.b.size then 5 else 0

/-- The first error of packets. -/
def perrs : List Pk → Int
  | [] => 0
  | p :: r => if p.err ≠ 0 then p.err else perrs r

def Po.err (p : Po) : Int := if Ln.valid p.o.data.toList = false then 12 else if within p.e 1073741824 = false then 2 else if within p.l 1073741824 = false then 2 else if 16 < p.q.length then 9 else perrs p.q

def Pk.enc (p : Pk) : List UInt8 := Cd.nat p.f.size ++ p.f.data.toList ++ (Cd.nat p.b.size ++ p.b.data.toList)
def penc (l : List Pk) : List UInt8 := l.flatMap Pk.enc
def Po.enc (p : Po) : List UInt8 := Cd.nat p.o.size ++ p.o.data.toList ++ (Cd.nat p.e.toNat ++ (Cd.nat p.l.toNat ++ (Cd.nat p.q.length ++ penc p.q)))
def Po.zero : Po := ⟨⟨#[]⟩, 0, 0, []⟩

/-- So many packets are read. -/
def rpks : Nat → List UInt8 → Nat → List Pk × List UInt8 × Nat
  | 0, l, e => ([], l, e)
  | n + 1, l, e =>
    let f := Cd.rtxt 32 l e
    let b := Cd.rtxt 512 f.2.1 f.2.2
    let r := rpks n b.2.1 b.2.2
    (⟨bs f.1, bs b.1⟩ :: r.1, r.2)

/-- What decoding reads, ahead of the checks. -/
def Po.read (l : List UInt8) : Po × Nat :=
  let a := Cd.rtxt 64 l 0
  let b := Cd.rnum 1073741824 a.2.1 a.2.2
  let c := Cd.rnum 1073741824 b.2.1 b.2.2
  let d := Cd.rnum 16 c.2.1 c.2.2
  let r := rpks d.1 d.2.1 d.2.2
  (⟨bs a.1, b.1, c.1, r.1⟩, Cd.rclose r.2.1 r.2.2)

/-- The port of a value, or the error. -/
def Po.dec (l : List UInt8) : Po × Int := if (Po.read l).2 ≠ 0 then (Po.zero, (Po.read l).2) else if (Po.read l).1.err ≠ 0 then (Po.zero, (Po.read l).1.err) else ((Po.read l).1, 0)

theorem rtxt_nat' {most : Int} {t : List UInt8} (h1 : (t.length : Int) ≤ most) (h2 : t.length ≤ 1073741824) (r : List UInt8) : Cd.rtxt most (Cd.nat t.length ++ t ++ r) 0 = (t, r, 0) := by
  rw [List.append_assoc]
  have hd := Cd.dec_nat 9 t.length true (t ++ r) (by omega) (.inl rfl) (by omega)
  simp only [Cd.rtxt, if_true, Cd.txt, hd]
  rw [if_neg (by omega), if_neg (by simp)]
  simp

theorem word_len {l : List UInt8} (h : word l = true) : l.length ≤ 32 := by
  simp only [word, Bool.and_eq_true, decide_eq_true_eq] at h
  exact h.1.2

theorem Pk.err_zero {p : Pk} (h : p.err = 0) : word p.f.data.toList = true ∧ p.f.size ≤ 32 ∧ p.b.size ≤ 512 := by
  unfold Pk.err at h
  cases hw : word p.f.data.toList with
  | false => rw [hw] at h; simp at h
  | true =>
    rw [hw] at h
    have h1 := word_len hw
    rw [dl] at h1
    refine ⟨rfl, h1, ?_⟩
    by_cases h2 : 512 < p.b.size
    · rw [if_neg (by simp), if_pos h2] at h
      exact absurd h (by decide)
    · omega

theorem perrs_zero {l : List Pk} (h : perrs l = 0) : ∀ p ∈ l, p.err = 0 := by
  induction l with
  | nil => intro p hp; cases hp
  | cons a r ih =>
    rw [perrs] at h
    by_cases ha : a.err ≠ 0
    · rw [if_pos ha] at h
      exact absurd h ha
    · rw [if_neg ha] at h
      intro p hp
      rcases List.mem_cons.1 hp with rfl | hp
      · exact Decidable.not_not.1 ha
      · exact ih h p hp

theorem parts_small (k : Nat) : ∀ n a r, n + k = 9 → ((Ln.parts k n a r).all fun p => p.e = 0) = true → 0 < k → r.length + 1 ≤ 7 * (8 - n) := by
  induction k with
  | zero => intro n a r _ _ h; omega
  | succ k ih =>
    intro n a r hn h _
    rw [Ln.parts] at h
    by_cases hp : Ln.perr n r ≠ 0
    · rw [if_pos hp] at h
      simp at h
      exact absurd h hp
    · rw [if_neg hp] at h
      have hp' : Ln.perr n r = 0 := Decidable.not_not.1 hp
      have hn8 : n ≠ 8 := by
        intro hh
        simp [Ln.perr, hh] at hp'
      have hd : Ln.digs r ≤ 6 := by
        apply Nat.le_of_not_lt
        intro hh
        unfold Ln.perr at hp'
        rw [if_neg hn8] at hp'
        split at hp'
        · simp at hp'
        · split at hp'
          · simp at hp'
          · split at hp'
            · simp at hp'
            · exact absurd hp' (by decide)
      have hlen : r.length = Ln.digs r + (r.drop (Ln.digs r)).length := by
        have := Ln.digs_le r
        rw [List.length_drop]; omega
      cases hr : r.drop (Ln.digs r) with
      | nil =>
        rw [hr] at hlen
        simp at hlen
        omega
      | cons c r' =>
        rw [hr] at h hlen
        simp only at h
        by_cases hc : c.toNat ≠ 46
        · rw [if_pos hc] at h
          simp at h
        · rw [if_neg hc] at h
          simp only [List.all_cons, Bool.and_eq_true] at h
          have hk : 0 < k := by omega
          have := ih (n + 1) (a + Ln.digs r + 1) r' (by omega) h.2 hk
          simp at hlen
          omega

theorem valid_len {s : List UInt8} (h : Ln.valid s = true) : s.length ≤ 64 := by
  unfold Ln.valid Ln.all at h
  by_cases h0 : s = []
  · subst h0; simp
  · rw [if_neg h0] at h
    have := parts_small 9 0 0 s rfl h (by omega)
    omega

theorem Po.err_zero {p : Po} (h : p.err = 0) : Ln.valid p.o.data.toList = true ∧ p.o.size ≤ 64 ∧ (0 ≤ p.e ∧ p.e ≤ 1073741824) ∧ (0 ≤ p.l ∧ p.l ≤ 1073741824) ∧ p.q.length ≤ 16 ∧ perrs p.q = 0 := by
  unfold Po.err at h
  cases hv : Ln.valid p.o.data.toList with
  | false => rw [hv] at h; simp at h
  | true =>
    rw [hv, if_neg (by simp)] at h
    have h1 := valid_len hv
    rw [dl] at h1
    cases h2 : within p.e 1073741824 with
    | false => rw [h2] at h; simp at h
    | true =>
      rw [h2, if_neg (by simp)] at h
      cases h3 : within p.l 1073741824 with
      | false => rw [h3] at h; simp at h
      | true =>
        rw [h3, if_neg (by simp)] at h
        by_cases h4 : 16 < p.q.length
        · rw [if_pos h4] at h; simp at h
        · rw [if_neg h4] at h
          simp only [within, decide_eq_true_eq] at h2 h3
          exact ⟨rfl, h1, h2, h3, by omega, h⟩

theorem rpks_enc (q : List Pk) (h : ∀ p ∈ q, p.err = 0) : rpks q.length (penc q) 0 = (q, [], 0) := by
  induction q with
  | nil => rfl
  | cons a r ih =>
    have ha := Pk.err_zero (h a (by simp))
    have e : penc (a :: r) = Cd.nat a.f.data.toList.length ++ a.f.data.toList ++ (Cd.nat a.b.data.toList.length ++ a.b.data.toList ++ penc r) := by
      rw [dl, dl]; simp [penc, Pk.enc]
    have h1 := rtxt_nat' (most := 32) (t := a.f.data.toList) (by rw [dl]; omega) (by rw [dl]; omega)
    have h2 := rtxt_nat' (most := 512) (t := a.b.data.toList) (by rw [dl]; omega) (by rw [dl]; omega)
    rw [List.length_cons, rpks, e]
    simp only [h1, h2, ih fun p hp => h p (by simp [hp]), bs_of]

theorem Po.read_enc {p : Po} (h : p.err = 0) : Po.read p.enc = (p, 0) := by
  obtain ⟨_, h1, ⟨h2, h3⟩, ⟨h4, h5⟩, h6, h7⟩ := Po.err_zero h
  have hl := dl p.o
  have e : p.enc = Cd.nat p.o.data.toList.length ++ p.o.data.toList ++ (Cd.nat p.e.toNat ++ (Cd.nat p.l.toNat ++ (Cd.nat p.q.length ++ penc p.q))) := by
    rw [hl]; rfl
  have a := rtxt_nat' (most := 64) (t := p.o.data.toList) (by omega) (by omega)
  have b := rnum_nat (most := 1073741824) (u := p.e.toNat) (by omega) (by omega)
  have c := rnum_nat (most := 1073741824) (u := p.l.toNat) (by omega) (by omega)
  have d := rnum_nat (most := 16) (u := p.q.length) (by omega) (by omega)
  have r := rpks_enc p.q (perrs_zero h7)
  unfold Po.read
  rw [e]
  simp only [a, b, c, d, r]
  simp [Cd.rclose, bs_of, Int.toNat_of_nonneg h2, Int.toNat_of_nonneg h4]

theorem Po.dec_enc {p : Po} (h : p.err = 0) : Po.dec p.enc = (p, 0) := by
  simp [Po.dec, Po.read_enc h, h]

theorem rpks_zero (n : Nat) : ∀ (l : List UInt8) (e : Nat), (rpks n l e).2.2 = 0 → e = 0 ∧ l = penc (rpks n l e).1 ++ (rpks n l e).2.1 ∧ (rpks n l e).1.length = n := by
  induction n with
  | zero => intro l e h; exact ⟨h, by simp [rpks, penc], rfl⟩
  | succ n ih =>
    intro l e h
    simp only [rpks] at h ⊢
    obtain ⟨h1, h2, h3⟩ := ih _ _ h
    obtain ⟨h4, h5⟩ := rtxt_zero h1
    obtain ⟨h6, h7⟩ := rtxt_zero h4
    refine ⟨h6, ?_, by simp [h3]⟩
    have e1 : penc ((⟨bs (Cd.rtxt 32 l e).1, bs (Cd.rtxt 512 (Cd.rtxt 32 l e).2.1 (Cd.rtxt 32 l e).2.2).1⟩ : Pk) :: (rpks n (Cd.rtxt 512 (Cd.rtxt 32 l e).2.1 (Cd.rtxt 32 l e).2.2).2.1 (Cd.rtxt 512 (Cd.rtxt 32 l e).2.1 (Cd.rtxt 32 l e).2.2).2.2).1)
        = Cd.nat (Cd.rtxt 32 l e).1.length ++ (Cd.rtxt 32 l e).1 ++ (Cd.nat (Cd.rtxt 512 (Cd.rtxt 32 l e).2.1 (Cd.rtxt 32 l e).2.2).1.length ++ (Cd.rtxt 512 (Cd.rtxt 32 l e).2.1 (Cd.rtxt 32 l e).2.2).1) ++ penc (rpks n (Cd.rtxt 512 (Cd.rtxt 32 l e).2.1 (Cd.rtxt 32 l e).2.2).2.1 (Cd.rtxt 512 (Cd.rtxt 32 l e).2.1 (Cd.rtxt 32 l e).2.2).2.2).1 := by
      simp [penc, Pk.enc, bs_size, bs_list]
    rw [e1, List.append_assoc, List.append_assoc, ← h2, ← h5]
    exact h7

theorem Po.read_zero {l : List UInt8} (h : (Po.read l).2 = 0) : (Po.read l).1.enc = l := by
  unfold Po.read at h ⊢
  simp only at h ⊢
  obtain ⟨h1, h2⟩ := rclose_zero h
  obtain ⟨h3, h4, hn⟩ := rpks_zero _ _ _ h1
  obtain ⟨h5, h6⟩ := rnum_zero h3
  obtain ⟨h7, h8⟩ := rnum_zero h5
  obtain ⟨h9, h10⟩ := rnum_zero h7
  obtain ⟨h11, h12⟩ := rtxt_zero h9
  unfold Po.enc
  simp only [Int.toNat_natCast, bs_size, bs_list]
  rw [h2, List.append_nil] at h4
  rw [hn, ← h4, ← h6, ← h8, ← h10]
  exact h12.symm

theorem Po.dec_zero {l : List UInt8} (h : (Po.dec l).2 = 0) : (Po.dec l).1.err = 0 ∧ (Po.dec l).1.enc = l := by
  unfold Po.dec at h ⊢
  by_cases h1 : (Po.read l).2 ≠ 0
  · rw [if_pos h1] at h
    simp at h
    exact absurd h h1
  · rw [if_neg h1] at h ⊢
    by_cases h2 : (Po.read l).1.err ≠ 0
    · rw [if_pos h2] at h
      exact absurd h h2
    · rw [if_neg h2]
      exact ⟨Decidable.not_not.1 h2, Po.read_zero (Decidable.not_not.1 h1)⟩

end Go.Proofs.YtdjjfjnkkgmadaaGreatDoor
