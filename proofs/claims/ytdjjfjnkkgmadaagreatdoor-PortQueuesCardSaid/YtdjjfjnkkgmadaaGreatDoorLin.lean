/-! The plain mathematics of names of processes: the parts of a text, and its ordinals. -/
namespace Go.Proofs.YtdjjfjnkkgmadaaGreatDoor
namespace Ln

def isDig (c : UInt8) : Bool := 48 ≤ c.toNat && c.toNat ≤ 57

/-- How many digits stand at the beginning. -/
def digs : List UInt8 → Nat
  | [] => 0
  | c :: r => if isDig c then digs r + 1 else 0

/-- The number of digits. -/
def val (l : List UInt8) : Nat := l.foldl (fun x c => x * 10 + (c.toNat - 48)) 0

theorem digs_le (l : List UInt8) : digs l ≤ l.length := by
  induction l with
  | nil => simp [digs]
  | cons c r ih => simp only [digs]; split <;> simp <;> omega

theorem digs_dig (l : List UInt8) : ∀ i (h : i < digs l), isDig (l[i]'(Nat.lt_of_lt_of_le h (digs_le l))) = true := by
  induction l with
  | nil => intro i h; simp [digs] at h
  | cons c r ih =>
    intro i h
    by_cases hc : isDig c = true
    · cases i with
      | zero => exact hc
      | succ i =>
        have : i < digs r := by simp [digs, hc] at h; omega
        exact ih i this
    · simp [digs, hc] at h

theorem digs_stop (l : List UInt8) (h : digs l < l.length) : isDig l[digs l] = false := by
  induction l with
  | nil => simp at h
  | cons c r ih =>
    by_cases hc : isDig c = true
    · have e : digs (c :: r) = digs r + 1 := by simp [digs, hc]
      have h2 : digs r < r.length := by rw [e] at h; simp at h; omega
      have := ih h2
      simp only [e, List.getElem_cons_succ]
      exact this
    · have e : digs (c :: r) = 0 := by simp [digs, hc]
      simp only [e, List.getElem_cons_zero]
      simpa using hc

theorem val_snoc (l : List UInt8) (c : UInt8) : val (l ++ [c]) = val l * 10 + (c.toNat - 48) := by simp [val]

theorem val_aux (l : List UInt8) (h : ∀ c ∈ l, isDig c = true) : ∀ a : Nat, l.foldl (fun x c => x * 10 + (c.toNat - 48)) a + 1 ≤ (a + 1) * 10 ^ l.length := by
  induction l with
  | nil => intro a; simp
  | cons c r ih =>
    intro a
    have hc := h c (by simp)
    simp [isDig] at hc
    have h1 := ih (fun x hx => h x (by simp [hx])) (a * 10 + (c.toNat - 48))
    have h2 : (a * 10 + (c.toNat - 48) + 1) * 10 ^ r.length ≤ ((a + 1) * 10) * 10 ^ r.length := Nat.mul_le_mul_right _ (by omega)
    rw [List.length_cons, Nat.pow_succ, Nat.mul_comm (10 ^ r.length) 10, ← Nat.mul_assoc]
    exact Nat.le_trans h1 h2

theorem val_lt (l : List UInt8) (h : ∀ c ∈ l, isDig c = true) : val l < 10 ^ l.length := by
  have := val_aux l h 0
  unfold val
  omega

/-- A part of a text: an ordinal, or the place and the kind of an error. -/
structure Part where
  ord : Int
  at_ : Int
  e : Int
  deriving DecidableEq, Repr

/-- The error of the n-th part, where r is left. -/
def perr (n : Nat) (r : List UInt8) : Int :=
  if n = 8 then 9 else if r = [] then 4 else if digs r = 0 then 6 else if r.head? = some 48 then 3 else if 6 < digs r then 2 else 0

/-- The parts of what is left, the n-th first, which begins at a place. -/
def parts : Nat → Nat → Nat → List UInt8 → List Part
  | 0, _, _, _ => []
  | k + 1, n, a, r =>
    if perr n r ≠ 0 then [⟨0, a, perr n r⟩]
    else match r.drop (digs r) with
      | [] => [⟨val (r.take (digs r)), a, 0⟩]
      | c :: r' => if c.toNat ≠ 46 then [⟨val (r.take (digs r)), a, 0⟩, ⟨0, a + digs r, 6⟩] else ⟨val (r.take (digs r)), a, 0⟩ :: parts k (n + 1) (a + digs r + 1) r'

/-- The parts of a text. -/
def all (s : List UInt8) : List Part := if s = [] then [] else parts 9 0 0 s

/-- The ordinals of a text, if it is a name. -/
def ords (s : List UInt8) : Option (List Int) := if (all s).all (fun p => p.e = 0) then some ((all s).map (·.ord)) else none

def valid (s : List UInt8) : Bool := (all s).all (fun p => p.e = 0)

theorem parts_len (k : Nat) : ∀ n a r, n + k = 9 → (parts k n a r).length ≤ k := by
  induction k with
  | zero => intro n a r _; simp [parts]
  | succ k ih =>
    intro n a r hn
    rw [parts]
    split
    · simp
    · rename_i hp
      have hn8 : n ≠ 8 := by
        intro h
        apply hp
        simp [perr, h]
      split
      · simp
      · split
        · simp; omega
        · have := ih (n + 1) (a + digs r + 1) (by assumption) (by omega)
          simp; omega

theorem all_len (s : List UInt8) : (all s).length ≤ 9 := by
  unfold all
  split
  · simp
  · exact parts_len 9 0 0 s rfl

end Ln
end Go.Proofs.YtdjjfjnkkgmadaaGreatDoor
