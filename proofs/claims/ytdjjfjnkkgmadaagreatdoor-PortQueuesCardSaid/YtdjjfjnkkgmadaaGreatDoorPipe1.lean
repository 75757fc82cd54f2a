/-
  pipe: Check, Encode, Decode.
-/
import Derived.Test.YtdjjfjnkkgmadaaGreatDoorWriter
import Derived.Test.YtdjjfjnkkgmadaaGreatDoorReaderM
import Derived.Test.YtdjjfjnkkgmadaaGreatDoorObject
namespace Go.Proofs.YtdjjfjnkkgmadaaGreatDoor
open Go Go.RowKit

/-- A pipe. -/
structure Pp where
  e : Int
  r : Int
  w : Int
  b : ByteArray
  deriving DecidableEq

def Pp.v (p : Pp) : Value := .agg #[.int .i64 p.e, .int .i64 p.r, .int .i64 p.w, .string p.b]
def within (n most : Int) : Bool := decide (0 ≤ n ∧ n ≤ most)
/-- The first error of a pipe. -/
def Pp.err (p : Pp) : Int := if within p.e 1073741824 = false then 2 else if within p.r 64 = false then 2 else if within p.w 64 = false then 2 else if p.r + p.w = 0 then 1 else if 256 < p.b.size then 5 else 0
def Pp.zero : Pp := ⟨0, 0, 0, ⟨#[]⟩⟩
/-- The value of a pipe. -/
def Pp.enc (p : Pp) : List UInt8 := [] ++ Cd.nat p.e.toNat ++ Cd.nat p.r.toNat ++ Cd.nat p.w.toNat ++ Cd.nat p.b.size ++ p.b.data.toList

theorem within_any (n most : Int) (w : World) : Calls Tryz.prog 113 #[.int .i64 n, .int .i64 most] w fun e w' => e = .returned (.bool (within n most)) ∧ w = w' := by
  by_cases h1 : 0 ≤ n
  · by_cases h2 : n ≤ most
    · have e : within n most = true := by simp [within, h1, h2]
      rw [e]
      go_enter Tryz.func113, Tryz.ntmps113
      go_wp2
      go_ret
      exact ⟨by simp, rfl⟩
    · have e : within n most = false := by simp [within]; omega
      rw [e]
      go_enter Tryz.func113, Tryz.ntmps113
      go_wp2
      go_ret
      exact ⟨by simp, rfl⟩
  · have e : within n most = false := by simp [within]; omega
    rw [e]
    go_enter Tryz.func113, Tryz.ntmps113
    go_wp2
    go_ret
    exact ⟨by simp, rfl⟩

theorem blk4 {w : World} {b : Nat} {x0 x1 x2 x3 : Value} {t : TypeId} (h : w.heap[b]? = some (.cells #[x0, x1, x2, x3] t (0, 0))) :
    w.cell? ⟨b, 0, none⟩ = some x0 ∧ w.cell? ⟨b, 1, none⟩ = some x1 ∧ w.cell? ⟨b, 2, none⟩ = some x2 ∧ w.cell? ⟨b, 3, none⟩ = some x3 :=
  ⟨blk_cell h 0, blk_cell h 1, blk_cell h 2, blk_cell h 3⟩

set_option maxRecDepth 100000 in
set_option maxHeartbeats 4000000 in
theorem pipeCheck_any (p : Pp) (w : World) : Calls Tryz.prog 30 #[p.v] w fun e w' => e = .returned (.int .i64 p.err) ∧ Below w.heap.size w w' := by
  have hB := (Below.refl w.heap.size w).alloc (Nat.le_refl _) (.cells #[.int .i64 p.e, .int .i64 p.r, .int .i64 p.w, .string p.b] 28)
  have a1 := fun w => within_any p.e 1073741824 w
  have a2 := fun w => within_any p.r 64 w
  have a3 := fun w => within_any p.w 64 w
  unfold Pp.err Pp.v
  cases h1 : within p.e 1073741824 with
  | false =>
    rw [h1] at a1
    clear h1
    go_enter Tryz.func30, Tryz.ntmps30
    go_wp2_with (go_at_call 113; refine (a1 _).mono ?_; rintro e w' ⟨rfl, rfl⟩)
    go_ret
    exact ⟨rfl, hB⟩
  | true =>
    rw [h1] at a1
    clear h1
    cases h2 : within p.r 64 with
    | false =>
      rw [h2] at a2
      clear h2
      go_enter Tryz.func30, Tryz.ntmps30
      go_wp2_with (first | (go_at_call 113; (with_reducible refine (a1 _).mono ?_); rintro e w' ⟨rfl, rfl⟩) | (go_at_call 113; (with_reducible refine (a2 _).mono ?_); rintro e w' ⟨rfl, rfl⟩))
      go_ret
      exact ⟨rfl, hB⟩
    | true =>
      rw [h2] at a2
      cases h3 : within p.w 64 with
      | false =>
        rw [h3] at a3
        clear h2 h3
        go_enter Tryz.func30, Tryz.ntmps30
        go_wp2_with (first | (go_at_call 113; (with_reducible refine (a1 _).mono ?_); rintro e w' ⟨rfl, rfl⟩) | (go_at_call 113; (with_reducible refine (a2 _).mono ?_); rintro e w' ⟨rfl, rfl⟩) | (go_at_call 113; (with_reducible refine (a3 _).mono ?_); rintro e w' ⟨rfl, rfl⟩))
        go_ret
        exact ⟨rfl, hB⟩
      | true =>
        rw [h3] at a3
        simp only [within, decide_eq_true_eq] at h2 h3
        obtain ⟨h4, h5⟩ := h2
        obtain ⟨h6, h7⟩ := h3
        by_cases h8 : p.r + p.w = 0
        · have e1 : p.r = 0 := by omega
          have e2 : p.w = 0 := by omega
          rw [if_neg (by simp), if_neg (by simp), if_neg (by simp), if_pos h8]
          rw [e1] at a2 hB ⊢
          rw [e2] at a3 hB ⊢
          clear h4 h5 h6 h7 h8 e1 e2
          go_enter Tryz.func30, Tryz.ntmps30
          go_wp2_with (first | (go_at_call 113; (with_reducible refine (a1 _).mono ?_); rintro e w' ⟨rfl, rfl⟩) | (go_at_call 113; (with_reducible refine (a2 _).mono ?_); rintro e w' ⟨rfl, rfl⟩) | (go_at_call 113; (with_reducible refine (a3 _).mono ?_); rintro e w' ⟨rfl, rfl⟩))
          go_ret
          exact ⟨rfl, hB⟩
        · rw [if_neg (by simp), if_neg (by simp), if_neg (by simp), if_neg h8]
          have h9 : (p.r + p.w == 0) = false := by simpa using h8
          by_cases h10 : 256 < p.b.size
          · rw [if_pos h10]
            go_enter Tryz.func30, Tryz.ntmps30
            go_wp2_with (first | (go_at_call 113; (with_reducible refine (a1 _).mono ?_); rintro e w' ⟨rfl, rfl⟩) | (go_at_call 113; (with_reducible refine (a2 _).mono ?_); rintro e w' ⟨rfl, rfl⟩) | (go_at_call 113; (with_reducible refine (a3 _).mono ?_); rintro e w' ⟨rfl, rfl⟩))
            go_ret
            exact ⟨rfl, hB⟩
          · rw [if_neg h10]
            go_enter Tryz.func30, Tryz.ntmps30
            go_wp2_with (first | (go_at_call 113; (with_reducible refine (a1 _).mono ?_); rintro e w' ⟨rfl, rfl⟩) | (go_at_call 113; (with_reducible refine (a2 _).mono ?_); rintro e w' ⟨rfl, rfl⟩) | (go_at_call 113; (with_reducible refine (a3 _).mono ?_); rintro e w' ⟨rfl, rfl⟩))
            go_ret
            exact ⟨rfl, hB⟩

end Go.Proofs.YtdjjfjnkkgmadaaGreatDoor
