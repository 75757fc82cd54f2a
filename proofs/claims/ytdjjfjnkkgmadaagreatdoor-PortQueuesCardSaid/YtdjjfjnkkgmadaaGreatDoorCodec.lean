/-! The plain mathematics of the codec: natural numbers in groups of seven bits. -/
namespace Go.Proofs.YtdjjfjnkkgmadaaGreatDoor
namespace Cd

/-- The encoding of a natural number. -/
def nat (u : Nat) : List UInt8 := if h : u < 128 then [UInt8.ofNat u] else UInt8.ofNat (u % 128 + 128) :: nat (u / 128)
termination_by u
decreasing_by omega

/-- What parsing gives: a number and its length, or an error's number. -/
inductive PR where
  | ok (n s : Nat)
  | err (e : Nat)
  deriving DecidableEq, Repr

/-- One group more ahead. -/
def PR.more (d : Nat) : PR → PR
  | .ok n s => .ok (d + 128 * n) (s + 1)
  | .err e => .err e

/-- The number at the beginning of bytes with at most k groups; first: no group came before. -/
def dec : Nat → Bool → List UInt8 → PR
  | 0, _, _ => .err 3
  | _ + 1, _, [] => .err 28
  | k + 1, first, c :: r =>
    if c.toNat < 128 then (if c.toNat = 0 ∧ first = false then .err 3 else .ok c.toNat 1)
    else (dec k false r).more (c.toNat - 128)

theorem nat_small {u : Nat} (h : u < 128) : nat u = [UInt8.ofNat u] := by rw [nat]; simp [h]
theorem nat_big {u : Nat} (h : ¬ u < 128) : nat u = UInt8.ofNat (u % 128 + 128) :: nat (u / 128) := by rw [nat]; simp [h]

theorem nat_ne (u : Nat) : nat u ≠ [] := by
  by_cases h : u < 128
  · simp [nat_small h]
  · simp [nat_big h]

theorem nat_len_pos (u : Nat) : 0 < (nat u).length := List.length_pos_iff.2 (nat_ne u)

theorem nat_len_le (k : Nat) : ∀ u, u < 128 ^ k → 0 < k → (nat u).length ≤ k := by
  induction k with
  | zero => intro u _ h; omega
  | succ k ih =>
    intro u hu _
    by_cases h : u < 128
    · simp [nat_small h]
    · rw [nat_big h]
      have hk : 0 < k := by
        cases k with
        | zero => simp at hu; omega
        | succ k => omega
      have := ih (u / 128) (by rw [Nat.pow_succ] at hu; omega) hk
      simp; omega

theorem toNat_ofNat {n : Nat} (h : n < 256) : (UInt8.ofNat n).toNat = n := by
  simp; omega

/-- Decoding what was encoded. -/
theorem dec_nat (k : Nat) : ∀ (u : Nat) (first : Bool) (r : List UInt8), u < 128 ^ k → (first = true ∨ u ≠ 0) → 0 < k → dec k first (nat u ++ r) = .ok u (nat u).length := by
  induction k with
  | zero => intro u _ _ _ _ h; omega
  | succ k ih =>
    intro u first r hu hf _
    by_cases h : u < 128
    · rw [nat_small h]
      simp only [List.cons_append, List.nil_append, dec, toNat_ofNat (show u < 256 by omega), if_pos h]
      rw [if_neg]
      · simp
      · rintro ⟨h0, h1⟩
        rcases hf with hf | hf
        · rw [hf] at h1; cases h1
        · exact hf h0
    · rw [nat_big h]
      have hk : 0 < k := by
        cases k with
        | zero => simp at hu; omega
        | succ k => omega
      have := ih (u / 128) false r (by rw [Nat.pow_succ] at hu; omega) (.inr (by omega)) hk
      simp only [List.cons_append, dec, toNat_ofNat (show u % 128 + 128 < 256 by omega), if_neg (show ¬ u % 128 + 128 < 128 by omega), this, List.length_cons, PR.more]
      congr 1
      omega

/-- What is decoded is canonical. -/
theorem dec_ok (k : Nat) : ∀ (first : Bool) (b : List UInt8) (n s : Nat), dec k first b = .ok n s →
    n < 128 ^ k ∧ s = (nat n).length ∧ (first = true ∨ n ≠ 0) ∧ ∃ r, b = nat n ++ r := by
  induction k with
  | zero => intro first b n s h; simp [dec] at h
  | succ k ih =>
    intro first b n s h
    cases b with
    | nil => simp [dec] at h
    | cons c r =>
      simp only [dec] at h
      by_cases hc : c.toNat < 128
      · rw [if_pos hc] at h
        by_cases h0 : c.toNat = 0 ∧ first = false
        · rw [if_pos h0] at h; cases h
        · rw [if_neg h0] at h
          injection h with h1 h2
          subst h1 h2
          refine ⟨?_, by simp [nat_small hc], ?_, r, ?_⟩
          · have : 1 ≤ 128 ^ k := Nat.one_le_pow _ _ (by omega)
            rw [Nat.pow_succ]; omega
          · cases first
            · right; intro h; exact h0 ⟨h, rfl⟩
            · exact .inl rfl
          · simp [nat_small hc]
      · rw [if_neg hc] at h
        cases hd : dec k false r with
        | err e => rw [hd] at h; simp [PR.more] at h
        | ok n' s' =>
          rw [hd] at h
          simp only [PR.more] at h
          injection h with h1 h2
          obtain ⟨g1, g2, g3, r', g4⟩ := ih false r n' s' hd
          have hb := c.toNat_lt
          have hn' : n' ≠ 0 := by
            rcases g3 with g3 | g3
            · cases g3
            · exact g3
          have hge : ¬ n < 128 := by omega
          have e1 : n % 128 + 128 = c.toNat := by omega
          have e2 : n / 128 = n' := by omega
          refine ⟨?_, ?_, .inr (by omega), r', ?_⟩
          · rw [Nat.pow_succ]; omega
          · rw [nat_big hge, e2, List.length_cons, ← g2, h2]
          · rw [nat_big hge, e1, e2, g4]
            simp

/-- The errors of parsing. -/
theorem dec_err (k : Nat) : ∀ (first : Bool) (b : List UInt8) (e : Nat), dec k first b = .err e → e = 3 ∨ e = 28 := by
  induction k with
  | zero => intro first b e h; simp [dec] at h; omega
  | succ k ih =>
    intro first b e h
    cases b with
    | nil => simp [dec] at h; omega
    | cons c r =>
      rw [dec] at h
      split at h
      · split at h
        · injection h; omega
        · cases h
      · cases hd : dec k false r with
        | ok n s => rw [hd] at h; simp [PR.more] at h
        | err e' =>
          rw [hd] at h
          simp only [PR.more] at h
          injection h with h
          rw [← h]
          exact ih false r e' hd

/-- A number that is at most 'most' at the beginning of bytes. -/
def num (most : Int) (l : List UInt8) : PR := match dec 9 true l with
  | .ok n s => if most < (n : Int) then .err 2 else .ok n s
  | .err e => .err e

/-- What reading a text gives. -/
inductive TR where
  | ok (t : List UInt8) (s : Nat)
  | err (e : Nat)
  deriving DecidableEq, Repr

/-- A text of at most 'most' bytes at the beginning of bytes. -/
def txt (most : Int) (l : List UInt8) : TR := match dec 9 true l with
  | .ok n s => if most < (n : Int) then .err 5 else if l.length < s + n then .err 28 else .ok ((l.drop s).take n) (s + n)
  | .err e => .err e

/-- One reading of a number: the number, what is left, the error. -/
def rnum (most : Int) (l : List UInt8) (e : Nat) : Nat × List UInt8 × Nat :=
  if e = 0 then (match num most l with
    | .ok n s => (n, l.drop s, 0)
    | .err e => (0, l, e)) else (0, l, e)

/-- One reading of a text. -/
def rtxt (most : Int) (l : List UInt8) (e : Nat) : List UInt8 × List UInt8 × Nat :=
  if e = 0 then (match txt most l with
    | .ok t s => (t, l.drop s, 0)
    | .err e => ([], l, e)) else ([], l, e)

end Cd
end Go.Proofs.YtdjjfjnkkgmadaaGreatDoor
