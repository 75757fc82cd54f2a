/-
  object: births and names.
-/
import Derived.Test.YtdjjfjnkkgmadaaGreatDoorParse
import Derived.Test.YtdjjfjnkkgmadaaGreatDoorWord
import Derived.Test.YtdjjfjnkkgmadaaGreatDoorUses
namespace Go.Proofs.YtdjjfjnkkgmadaaGreatDoor
open Go Go.RowKit

/-- A number that a birth or a name may have. -/
def numOk (n : Int) : Bool := decide (0 ≤ n ∧ n ≤ 1073741824)

/-- A birth, as a value. -/
def birthV (m : ByteArray) (n : Int) : Value := .agg #[.string m, .int .i64 n]
/-- A name, as a value. -/
def nameV (k : Int) (o : ByteArray) (n i : Int) (t : ByteArray) : Value := .agg #[.int .i64 k, .string o, .int .i64 n, .int .i64 i, .string t]
/-- The error of a birth. -/
def birthErr (m : ByteArray) (n : Int) : Int := if Ln.valid m.data.toList = false then 12 else if numOk n = false then 2 else 0

theorem blk2 {w : World} {b : Nat} {x y : Value} {t : TypeId} (h : w.heap[b]? = some (.cells #[x, y] t (0, 0))) : w.cell? ⟨b, 0, none⟩ = some x ∧ w.cell? ⟨b, 1, none⟩ = some y :=
  ⟨blk_cell h 0, blk_cell h 1⟩
theorem blk_new1 (w : World) (o o' : Obj) : ((w.alloc o).alloc o').heap[w.heap.size + 1]? = some o' := by
  have := blk_new (w.alloc o) o'
  rwa [World.size_alloc] at this

theorem numOk_any (n : Int) (w : World) : Calls Tryz.prog 135 #[.int .i64 n] w fun e w' => e = .returned (.bool (numOk n)) ∧ w = w' := by
  by_cases h1 : 0 ≤ n
  · by_cases h2 : n ≤ 1073741824
    · have e : numOk n = true := by simp [numOk, h1, h2]
      rw [e]
      have h1' : decide (0 ≤ n) = true := by simpa using h1
      go_enter Tryz.func135, Tryz.ntmps135
      go_wp2
      go_ret
      exact ⟨by simp, rfl⟩
    · have e : numOk n = false := by simp [numOk]; omega
      rw [e]
      go_enter Tryz.func135, Tryz.ntmps135
      go_wp2
      go_ret
      exact ⟨by simp, rfl⟩
  · have e : numOk n = false := by simp [numOk]; omega
    rw [e]
    go_enter Tryz.func135, Tryz.ntmps135
    go_wp2
    go_ret
    exact ⟨by simp, rfl⟩

set_option maxRecDepth 100000 in
theorem birthCheck_any (m : ByteArray) (hm : m.size ≤ maxLen) (n : Int) (w : World) :
    Calls Tryz.prog 60 #[birthV m n] w fun e w' => e = .returned (.int .i64 (birthErr m n)) ∧ Below w.heap.size w w' := by
  have hv := fun w => valid_any m hm w
  unfold birthV birthErr
  cases h1 : Ln.valid m.data.toList with
  | false =>
    rw [h1] at hv
    rw [if_pos rfl]
    clear h1
    go_enter Tryz.func60, Tryz.ntmps60
    go_wp2_with (go_at_call 83; refine (hv _).mono ?_; rintro e w' ⟨hB, rfl⟩)
    go_ret
    exact ⟨rfl, ((Below.refl _ w).alloc (Nat.le_refl _) _).trans' hB⟩
  | true =>
    rw [h1] at hv
    rw [if_neg (by simp)]
    clear h1
    have hn := fun w => numOk_any n w
    cases h2 : numOk n with
    | false =>
      rw [h2] at hn
      rw [if_pos rfl]
      clear h2
      go_enter Tryz.func60, Tryz.ntmps60
      go_wp2_with (first | (go_at_call 83; refine (hv _).mono ?_; rintro e w' ⟨hB, rfl⟩; obtain ⟨_, c1⟩ := blk2 (hB.heapS (blk_new w _))) | (go_at_call 135; refine (hn _).mono ?_; rintro e w2 ⟨rfl, rfl⟩))
      go_ret
      exact ⟨rfl, ((Below.refl _ w).alloc (Nat.le_refl _) _).trans' hB⟩
    | true =>
      rw [h2] at hn
      rw [if_neg (by simp)]
      clear h2
      go_enter Tryz.func60, Tryz.ntmps60
      go_wp2_with (first | (go_at_call 83; refine (hv _).mono ?_; rintro e w' ⟨hB, rfl⟩; obtain ⟨_, c1⟩ := blk2 (hB.heapS (blk_new w _))) | (go_at_call 135; refine (hn _).mono ?_; rintro e w2 ⟨rfl, rfl⟩))
      go_ret
      exact ⟨rfl, ((Below.refl _ w).alloc (Nat.le_refl _) _).trans' hB⟩

set_option maxRecDepth 100000 in
theorem of_any (m : ByteArray) (n k i : Int) (t : ByteArray) (w : World) :
    Calls Tryz.prog 137 #[birthV m n, .int .i64 k, .int .i64 i, .string t] w fun e w' => e = .returned (nameV k m n i t) ∧ Below w.heap.size w w' := by
  unfold birthV nameV
  go_enter Tryz.func137, Tryz.ntmps137
  go_wp2
  refine bodyPost_ret (v := .agg #[.int .i64 k, .string m, .int .i64 n, .int .i64 i, .string t]) (results_cell_row rfl _ _ (w.heap.size + 1) 91 _ (0, 0) _ rfl (blk_new1 w _ _) Tryz.underlying91 rfl (by kernel_rfl)) rfl ⟨rfl, ?_⟩
  exact ((Below.refl _ w).alloc (Nat.le_refl _) _).alloc (by simp) _

theorem empty_list : (ByteArray.empty).data.toList = [] := rfl

theorem _root_.Go.RowKit.Below.setRow {B : Nat} {w w' : World} (h : Below B w w') {g : Nat} (hg : B ≤ g) (cs : Array Value) : Below B w (w'.setRow g cs) :=
  ⟨h.os, h.tape, h.output, by simp [World.setRow]; exact h.size, fun k hk => (setRow_other _ _ k _ (by omega)).trans (h.block k hk)⟩
theorem below_new2 (w : World) (o o' : Obj) : Below w.heap.size w ((w.alloc o).alloc o') := ((Below.refl _ w).alloc (Nat.le_refl _) _).alloc (by simp) _

set_option maxRecDepth 100000 in
theorem ofPipe_any (m : ByteArray) (n : Int) (w : World) :
    Calls Tryz.prog 68 #[birthV m n] w fun e w' => e = .returned (nameV 11 m n 0 ⟨#[]⟩) ∧ Below w.heap.size w w' := by
  have h := fun w => of_any m n 11 0 ⟨#[]⟩ w
  unfold birthV nameV at *
  go_enter Tryz.func68, Tryz.ntmps68
  go_wp2_with (first | (go_at_call 137; refine (h _).mono ?_; rintro e w' ⟨rfl, hB⟩; have hX := hB.heapS (blk_new1 w _ _)) | (refine wpList_store_row rfl 91 _ _ rfl (w.heap.size + 1) #[.int .i64 11, .string m, .int .i64 n, .int .i64 0, .string ⟨#[]⟩] rfl rfl 91 _ hX (by kernel_rfl) rfl (by simp [Value.oneCell']) ?_))
  refine bodyPost_ret (v := .agg #[.int .i64 11, .string m, .int .i64 n, .int .i64 0, .string ⟨#[]⟩]) (results_cell_row rfl _ _ (w.heap.size + 1) 91 _ (0, 0) _ rfl (setRow_heap _ _ _ _ _ _ hX) Tryz.underlying91 rfl (by kernel_rfl)) rfl ⟨rfl, ?_⟩
  exact ((below_new2 w _ _).trans' hB).setRow (by simp) _

set_option maxRecDepth 100000 in
theorem ofNode_any (m : ByteArray) (n : Int) (w : World) :
    Calls Tryz.prog 62 #[birthV m n] w fun e w' => e = .returned (nameV 7 m n 0 ⟨#[]⟩) ∧ Below w.heap.size w w' := by
  have h := fun w => of_any m n 7 0 ⟨#[]⟩ w
  unfold birthV nameV at *
  go_enter Tryz.func62, Tryz.ntmps62
  go_wp2_with (first | (go_at_call 137; refine (h _).mono ?_; rintro e w' ⟨rfl, hB⟩; have hX := hB.heapS (blk_new1 w _ _)) | (refine wpList_store_row rfl 91 _ _ rfl (w.heap.size + 1) #[.int .i64 7, .string m, .int .i64 n, .int .i64 0, .string ⟨#[]⟩] rfl rfl 91 _ hX (by kernel_rfl) rfl (by simp [Value.oneCell']) ?_))
  refine bodyPost_ret (v := .agg #[.int .i64 7, .string m, .int .i64 n, .int .i64 0, .string ⟨#[]⟩]) (results_cell_row rfl _ _ (w.heap.size + 1) 91 _ (0, 0) _ rfl (setRow_heap _ _ _ _ _ _ hX) Tryz.underlying91 rfl (by kernel_rfl)) rfl ⟨rfl, ?_⟩
  exact ((below_new2 w _ _).trans' hB).setRow (by simp) _

set_option maxRecDepth 100000 in
theorem ofPort_any (n : Int) (w : World) :
    Calls Tryz.prog 85 #[.int .i64 n] w fun e w' => e = .returned (nameV 16 ⟨#[]⟩ n 0 ⟨#[]⟩) ∧ Below w.heap.size w w' := by
  unfold nameV
  go_enter Tryz.func85, Tryz.ntmps85
  go_wp2
  refine bodyPost_ret (v := .agg #[.int .i64 16, .string ⟨#[]⟩, .int .i64 n, .int .i64 0, .string ⟨#[]⟩]) (results_cell_row rfl _ _ w.heap.size 91 _ (0, 0) _ rfl (blk_new w _) Tryz.underlying91 rfl (by kernel_rfl)) rfl ⟨rfl, ?_⟩
  exact (Below.refl _ w).alloc (Nat.le_refl _) _

end Go.Proofs.YtdjjfjnkkgmadaaGreatDoor
