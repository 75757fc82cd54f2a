/-
  state: the empty state; what a view needs of its base.
-/
import Derived.Test.YtdjjfjnkkgmadaaGreatDoorMaps
namespace Go.Proofs.YtdjjfjnkkgmadaaGreatDoor
open Go Go.RowKit

/-- The blocks of states. -/
def StT (t : TypeId) : Prop := t = 197 ∨ t = 287

/-- A pointer to a state that has these values. -/
def Base (w : World) (p : Value) (g : Nm → Option ByteArray) : Prop :=
  (∃ a, p = .pointer (some a)) ∧ ∀ W, KeepT StT w W → ∀ x : Nm, x.ok →
    Calls Tryz.prog 154 #[p, x.v] W fun e W' => e = .returned (.tuple #[.string ((g x).getD ⟨#[]⟩), .bool (g x).isSome]) ∧ Below W.heap.size W W'

theorem Base.keep {w w' : World} {p : Value} {g : Nm → Option ByteArray} (h : Base w p g) (hk : KeepT StT w w') : Base w' p g :=
  ⟨h.1, fun W hW x hx => h.2 W (hk.trans hW) x hx⟩

theorem stateNew_any (w : World) :
    Calls Tryz.prog 33 #[] w fun e w' => e = .returned (.pointer (some ⟨w.heap.size, 0, none⟩)) ∧ w' = w.alloc (.cells #[.pointer none] 197) := by
  go_enter Tryz.func33, Tryz.ntmps33
  go_wp2
  go_ret
  exact ⟨rfl, rfl⟩

theorem stateTree_any (w : World) (b : Nat) (q : Value) (hb : w.heap[b]? = some (.cells #[q] 197 (0, 0))) (hq : ∃ a, q = .pointer a) :
    Calls Tryz.prog 188 #[.pointer (some ⟨b, 0, none⟩)] w fun e w' => e = .returned q ∧ w = w' := by
  obtain ⟨a, rfl⟩ := hq
  have hc := blk_cell hb 0
  simp only [List.getElem?_toArray, List.getElem?_cons_zero] at hc
  go_enter Tryz.func188, Tryz.ntmps188
  go_wp2
  go_ret
  exact ⟨rfl, rfl⟩

set_option maxRecDepth 100000 in
theorem stateGet_empty (w : World) (b : Nat) (hb : w.heap[b]? = some (.cells #[.pointer none] 197 (0, 0))) (x : Nm) :
    Calls Tryz.prog 154 #[.pointer (some ⟨b, 0, none⟩), x.v] w fun e w' => e = .returned (.tuple #[.string ⟨#[]⟩, .bool false]) ∧ Below w.heap.size w w' := by
  unfold Nm.v
  have ht := stateTree_any (w.alloc (.cells #[.int .i64 x.k, .string x.o, .int .i64 x.n, .int .i64 x.i, .string x.t] 91)) b _ (blk_alloc hb _) ⟨_, rfl⟩
  go_enter Tryz.func154, Tryz.ntmps154
  go_wp2_with (go_at_call 188; refine ht.mono ?_; rintro e w' ⟨rfl, rfl⟩)
  refine wp_loop_rounds 1 ?_
  rw [rounds_succ]
  go_wp2
  go_ret2
  exact ⟨rfl, (Below.refl _ w).alloc (Nat.le_refl _) _⟩

theorem base_new (w : World) : Base (w.alloc (.cells #[.pointer none] 197)) (.pointer (some ⟨w.heap.size, 0, none⟩)) (fun _ => none) :=
  ⟨⟨_, rfl⟩, fun W hW x _ => stateGet_empty W _ (hW _ _ _ _ (blk_new w _) (.inl rfl)) x⟩

end Go.Proofs.YtdjjfjnkkgmadaaGreatDoor
