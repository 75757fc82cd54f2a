/-
  object.uses: the table of the kinds of objects.
-/
import Derived.Test.YtdjjfjnkkgmadaaGreatDoorBase
namespace Go.Proofs.YtdjjfjnkkgmadaaGreatDoor
open Go Go.RowKit

/-- The table of the kinds: word, owner, number, text, most. -/
def useRows : List (List UInt8 × Bool × Bool × Bool × Int) := [
  ([], false, false, false, 0),
  ([112, 114, 111, 99, 101, 115, 115], true, false, false, -1),
  ([114, 101, 103, 105, 115, 116, 101, 114, 115], true, false, false, -1),
  ([112, 97, 103, 101], true, false, false, 63),
  ([116, 97, 98, 108, 101], true, false, false, -1),
  ([99, 111, 117, 110, 116, 101, 114], true, false, false, -1),
  ([112, 101, 110, 100, 105, 110, 103], true, false, false, -1),
  ([110, 111, 100, 101], true, true, false, -1),
  ([98, 108, 111, 99, 107], true, true, false, 63),
  ([101, 110, 116, 114, 121], true, true, true, -1),
  ([108, 105, 115, 116, 105, 110, 103], true, true, false, -1),
  ([112, 105, 112, 101], true, true, false, -1),
  ([108, 111, 99, 107], true, true, false, -1),
  ([116, 101, 114, 109, 105, 110, 97, 108], false, true, false, -1),
  ([97, 99, 99, 111, 117, 110, 116], false, false, true, -1),
  ([99, 108, 111, 99, 107], false, false, false, -1),
  ([112, 111, 114, 116], false, true, false, -1),
  ([98, 111, 120], false, false, true, -1),
  ([111, 117, 116], true, true, false, 1073741824),
  ([115, 104, 101, 108, 108], true, false, false, -1),
  ([101, 112, 111, 99, 104], false, false, false, -1)
]

def useCells (r : List UInt8 × Bool × Bool × Bool × Int) : List Value := [.string ⟨r.1.toArray⟩, .bool r.2.1, .bool r.2.2.1, .bool r.2.2.2.1, .int .i64 r.2.2.2.2]

theorem wpList_build_to {P : Program} {ops : Array Oper} {rest : List Oper} {o : Oper} {a : Act} {w : World} {Q : Exit → Act → World → Prop} (hg : o.guard = none) (t : TypeId) (parts : Array (Nat × Operand)) (ho : o.op = .build t parts)
    (cells : Array Value) (hf : P.built t (parts.map fun (i, x) => (i, a.eval x)).toList = some cells) (h : wpList P ops Q rest (a.put o.dst (.agg cells)) w) : wpList P ops Q (o :: rest) a w :=
  wpList_build hg t parts ho (by rw [hf]; rfl) (by rw [hf]; exact h)

def useCellsAll : Array Value := (useRows.flatMap useCells).toArray

set_option maxRecDepth 100000 in
set_option maxHeartbeats 4000000 in
theorem uses_any (w : World) :
    Calls Tryz.prog 189 #[] w fun e w' => e = .returned (.agg useCellsAll) ∧ Below w.heap.size w w' := by
  go_enter Tryz.func189, Tryz.ntmps189
  go_wp2_with (first | (refine wpList_build_to rfl 290 _ rfl useCellsAll (by kernel_rfl) ?_) | (refine wpList_store_row rfl 290 _ _ rfl w.heap.size useCellsAll rfl rfl 290 _ (blk_new w _) (by kernel_rfl) (by kernel_rfl) (by kernel_rfl) ?_))
  have h1 := setRow_heap (w.alloc (.cells Tryz.zeroCells290 290)) w.heap.size _ useCellsAll 290 (0, 0) (blk_new w _)
  refine bodyPost_ret (v := .agg useCellsAll) (results_cell_row rfl _ _ w.heap.size 290 useCellsAll (0, 0) _ rfl h1 Tryz.underlying290 rfl (by kernel_rfl)) rfl ⟨rfl, ?_⟩
  exact ⟨rfl, rfl, rfl, by simp, fun k hk => (setRow_other _ _ k _ (by omega)).trans (Below.heap_alloc w _ k hk)⟩

end Go.Proofs.YtdjjfjnkkgmadaaGreatDoor
