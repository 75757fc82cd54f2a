/-
  The steps of PipeOrder: what an operation in epoch 1 does to the bytes.
-/
import Derived.Test.YtdjjfjnkkgmadaaGreatDoorEnds0
namespace Go.Proofs.YtdjjfjnkkgmadaaGreatDoor
open Go Go.RowKit

/-- The value of a result. -/
def resV (e n : Int) (s : ByteArray) (p : Pp) : Value := .agg #[.int .i64 e, .int .i64 n, .string s, .int .i64 p.e, .int .i64 p.r, .int .i64 p.w, .string p.b]
/-- The value of an operation. -/
def opV (kd ep n : Int) (s : ByteArray) (b : Bool) : Value := .agg #[.int .u8 kd, .int .i64 ep, .int .i64 n, .string s, .bool b]
/-- A pipe of epoch 1 of which both sides have ends. -/
def OQ (q : Pp) : Prop := q.e = 1 ∧ 1 ≤ q.r ∧ 1 ≤ q.w ∧ q.err = 0
/-- What an operation does to the bytes. -/
def Did (kd : Nat) (s : ByteArray) (n : Int) (out : ByteArray) (q q' : Pp) : Prop :=
  (¬(kd % 8 = 3 ∨ kd % 8 = 4) ∧ q.b = out ++ q'.b) ∨ ((kd % 8 = 3 ∨ kd % 8 = 4) ∧ out = ⟨#[]⟩ ∧ ∃ c : Nat, n = c ∧ c ≤ s.size ∧ q'.b = q.b ++ s.extract 0 c)

theorem OQ.size {q : Pp} (h : OQ q) : q.b.size ≤ 256 := (Pp.err_zero h.2.2.2).2.2.2.2
theorem empty_append (b : ByteArray) : (⟨#[]⟩ : ByteArray) ++ b = b := ByteArray.empty_append
theorem append_none (b : ByteArray) : b ++ (⟨#[]⟩ : ByteArray) = b := ByteArray.append_empty
theorem OQ.fresh : OQ (Pp.fresh 1) := ⟨rfl, by decide, by decide, by decide⟩

theorem OQ.same {q q' : Pp} (h : OQ q) (he : q'.e = q.e) (hr : q'.r = q.r) (hw : q'.w = q.w) (hb : q'.b.size ≤ 256) : OQ q' := by
  obtain ⟨h1, h2, h3, h4⟩ := h
  have hz := Pp.err_zero h4
  refine ⟨by rw [he, h1], by rw [hr]; exact h2, by rw [hw]; exact h3, Pp.of_zero ⟨by rw [he]; exact hz.1, by rw [hr]; exact hz.2.1, by rw [hw]; exact hz.2.2.1, by rw [hr, hw]; exact hz.2.2.2.1, hb⟩⟩

theorem aft_OQ {q q' : Pp} (ch : Bool) (h : OQ q') : aft q q' ch = some (if ch then q' else q) := by
  have h1 := h.2.1
  have h2 := h.2.2.1
  have : q'.r + q'.w ≠ 0 := by omega
  cases ch <;> simp [aft, this]

theorem ck_le (k : Nat) (ch : Bool) : k ≤ ck k ch ∧ ck k ch ≤ k + 1 := by cases ch <;> simp [ck]

theorem rd_OQ (W : World) (v : VW) (k : Nat) (q : Pp) (h : HP W v k (some q)) (hk : k < 1000000) (hq : OQ q) (n : Int) :
    Calls Tryz.prog 37 #[v.p, oneV, .int .i64 1, .int .i64 n] W fun e w' => ∃ (c : ByteArray) (f : Int) (q' : Pp) (k' : Nat), e = .returned (.tuple #[.string c, .int .i64 f]) ∧ HP w' v k' (some q') ∧ OQ q' ∧ k ≤ k' ∧ k' ≤ k + 1 ∧ Fr v.S W w' ∧ q.b = c ++ q'.b := by
  have h1 := read_hp W v k q h hk 1 hq.1 n
  have hw := hq.2.2.1
  by_cases hn : n < 0
  · have e : rdF q n = (false, 2, q, ⟨#[]⟩) := by rw [rdF, if_pos hn]
    rw [e] at h1
    refine h1.mono ?_
    rintro e w' ⟨rfl, h2, h3⟩
    exact ⟨_, 2, q, k, rfl, h2, hq, Nat.le_refl _, Nat.le_succ _, h3, (empty_append _).symm⟩
  · by_cases h0 : n = 0
    · have e : rdF q n = (false, 0, q, ⟨#[]⟩) := by rw [rdF, if_neg hn, if_pos h0]
      rw [e] at h1
      refine h1.mono ?_
      rintro e w' ⟨rfl, h2, h3⟩
      exact ⟨_, 0, q, k, rfl, h2, hq, Nat.le_refl _, Nat.le_succ _, h3, (empty_append _).symm⟩
    · by_cases hb : q.b.size = 0
      · have e : rdF q n = (false, 19, q, ⟨#[]⟩) := by
          rw [rdF, if_neg hn, if_neg h0, if_pos ⟨hb, by omega⟩]
        rw [e] at h1
        refine h1.mono ?_
        rintro e w' ⟨rfl, h2, h3⟩
        exact ⟨_, 19, q, k, rfl, h2, hq, Nat.le_refl _, Nat.le_succ _, h3, (empty_append _).symm⟩
      · have e : rdF q n = (true, 0, { q with b := q.b.extract (min n.toNat q.b.size) q.b.size }, q.b.extract 0 (min n.toNat q.b.size)) := by
          rw [rdF, if_neg hn, if_neg h0, if_neg (fun h => hb h.1)]
          have : decide (0 < min n.toNat q.b.size) = true := by simp; omega
          rw [this]
        rw [e] at h1
        have hsz : (q.b.extract (min n.toNat q.b.size) q.b.size).size ≤ 256 := by
          have := hq.size
          simp only [ByteArray.size_extract]
          omega
        have hq' : OQ { q with b := q.b.extract (min n.toNat q.b.size) q.b.size } := hq.same rfl rfl rfl hsz
        refine h1.mono ?_
        rintro e w' ⟨rfl, h2, h3⟩
        simp only [aft_OQ _ hq'] at h2
        refine ⟨_, 0, _, k + 1, rfl, h2, hq', Nat.le_succ _, Nat.le_refl _, h3, ?_⟩
        show q.b = q.b.extract 0 (min n.toNat q.b.size) ++ q.b.extract (min n.toNat q.b.size) q.b.size
        rw [ByteArray.extract_append_extract]
        simp

theorem wr_OQ (W : World) (v : VW) (k : Nat) (q : Pp) (h : HP W v k (some q)) (hk : k < 1000000) (hq : OQ q) (s : ByteArray) (hs : s.size ≤ 600) :
    Calls Tryz.prog 38 #[v.p, oneV, .int .i64 1, .string s] W fun e w' => ∃ (c : Nat) (f : Int) (q' : Pp) (k' : Nat), e = .returned (.tuple #[.int .i64 c, .int .i64 f]) ∧ HP w' v k' (some q') ∧ OQ q' ∧ k ≤ k' ∧ k' ≤ k + 1 ∧ Fr v.S W w' ∧ c ≤ s.size ∧ q'.b = q.b ++ s.extract 0 c := by
  have h1 := wrt_hp W v k q h hk 1 hq.1 s (by omega)
  have hr := hq.2.1
  have h00 : q.b = q.b ++ s.extract 0 0 := by simp
  by_cases hs0 : s.size = 0
  · have e : wrF q s = (false, 0, q, 0) := by rw [wrF, if_pos hs0]
    rw [e] at h1
    refine h1.mono ?_
    rintro e w' ⟨rfl, h2, h3⟩
    exact ⟨0, 0, q, k, rfl, h2, hq, Nat.le_refl _, Nat.le_succ _, h3, Nat.zero_le _, h00⟩
  · by_cases hb : 256 ≤ q.b.size
    · have e : wrF q s = (false, 19, q, 0) := by
        rw [wrF, if_neg hs0, if_neg (by omega), if_pos hb]
      rw [e] at h1
      refine h1.mono ?_
      rintro e w' ⟨rfl, h2, h3⟩
      exact ⟨0, 19, q, k, rfl, h2, hq, Nat.le_refl _, Nat.le_succ _, h3, Nat.zero_le _, h00⟩
    · have e : wrF q s = (true, 0, { q with b := q.b ++ s.extract 0 (min s.size (256 - q.b.size)) }, min s.size (256 - q.b.size)) := by
        rw [wrF, if_neg hs0, if_neg (by omega), if_neg hb]
      rw [e] at h1
      have hsz : (q.b ++ s.extract 0 (min s.size (256 - q.b.size))).size ≤ 256 := by
        simp only [ByteArray.size_append, ByteArray.size_extract]
        omega
      have hq' : OQ { q with b := q.b ++ s.extract 0 (min s.size (256 - q.b.size)) } := hq.same rfl rfl rfl hsz
      refine h1.mono ?_
      rintro e w' ⟨rfl, h2, h3⟩
      simp only [aft_OQ _ hq'] at h2
      exact ⟨_, 0, _, k + 1, rfl, h2, hq', Nat.le_succ _, Nat.le_refl _, h3, Nat.min_le_left _ _, rfl⟩

theorem jn_OQ (W : World) (v : VW) (k : Nat) (q : Pp) (h : HP W v k (some q)) (hk : k < 1000000) (hq : OQ q) (b : Bool) :
    Calls Tryz.prog 65 #[v.p, oneV, .int .i64 1, .bool b] W fun e w' => ∃ (f : Int) (q' : Pp) (k' : Nat), e = .returned (.int .i64 f) ∧ HP w' v k' (some q') ∧ OQ q' ∧ k ≤ k' ∧ k' ≤ k + 1 ∧ Fr v.S W w' ∧ q'.b = q.b := by
  have h1 := join_hp W v k q h hk 1 hq.1 b
  have hz := Pp.err_zero hq.2.2.2
  have h2 := hq.2.1
  have h3 := hq.2.2.1
  have hq' : OQ (jnF q b).2.2 := by
    unfold jnF
    split
    · exact hq
    · split
      · exact hq
      · rename_i n0 n64
        cases b
        · simp only [Pp.side, Bool.false_eq_true, if_false] at n0 n64
          exact ⟨hq.1, by show 1 ≤ q.r + 1; omega, h3, Pp.of_zero ⟨hz.1, by show 0 ≤ q.r + 1 ∧ q.r + 1 ≤ 64; omega, hz.2.2.1, by show q.r + 1 + q.w ≠ 0; omega, hz.2.2.2.2⟩⟩
        · simp only [Pp.side, if_true] at n0 n64
          exact ⟨hq.1, h2, by show 1 ≤ q.w + 1; omega, Pp.of_zero ⟨hz.1, hz.2.1, by show 0 ≤ q.w + 1 ∧ q.w + 1 ≤ 64; omega, by show q.r + (q.w + 1) ≠ 0; omega, hz.2.2.2.2⟩⟩
  have hb : (jnF q b).2.2.b = q.b := by
    unfold jnF
    split
    · rfl
    · split
      · rfl
      · cases b <;> rfl
  refine h1.mono ?_
  rintro e w' ⟨rfl, h4, h5⟩
  rw [aft_OQ _ hq'] at h4
  refine ⟨_, _, _, rfl, h4, ?_, (ck_le _ _).1, (ck_le _ _).2, h5, ?_⟩
  · split
    · exact hq'
    · exact hq
  · split
    · exact hb
    · rfl

theorem mk_OQ (W : World) (v : VW) (k : Nat) (q : Pp) (h : HP W v k (some q)) :
    Calls Tryz.prog 34 #[v.p, oneV, .int .i64 1] W fun e w' => e = .returned (.int .i64 13) ∧ HP w' v k (some q) ∧ Fr v.S W w' := make_hp_there W v k q h 1 (by decide)

end Go.Proofs.YtdjjfjnkkgmadaaGreatDoor
