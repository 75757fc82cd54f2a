/-
  Ports: small.
-/
import Derived.Test.YtdjjfjnkkgmadaaGreatDoorPortB
import Derived.Test.YtdjjfjnkkgmadaaGreatDoorPipe3
namespace Go.Proofs.YtdjjfjnkkgmadaaGreatDoor
open Go Go.RowKit

/-- A packet, limited. -/
def Pk.small (p : Pk) : Pk := ⟨p.f.extract 0 (min p.f.size 60), p.b.extract 0 (min p.b.size 600)⟩

set_option maxRecDepth 100000 in
set_option maxHeartbeats 4000000 in
theorem small_any (p : Pk) (w : World) : Calls Tryz.prog 76 #[p.v] w fun e w' => e = .returned p.small.v ∧ Below w.heap.size w w' := by
  have hX := blk_alloc (blk_new w (.cells #[.string p.f, .string p.b] 123)) (.cells #[.string ⟨#[]⟩, .string ⟨#[]⟩] 123)
  have hZ := blk_new1 w (.cells #[.string p.f, .string p.b] 123) (.cells #[.string ⟨#[]⟩, .string ⟨#[]⟩] 123)
  have hA := below_new2 w (.cells #[.string p.f, .string p.b] 123) (.cells #[.string ⟨#[]⟩, .string ⟨#[]⟩] 123)
  have m1 : (if (60 : Int) < (p.f.size : Int) then (60 : Int) else (p.f.size : Int)) = ((min p.f.size 60 : Nat) : Int) := by split <;> omega
  have m2 : (if (600 : Int) < (p.b.size : Int) then (600 : Int) else (p.b.size : Int)) = ((min p.b.size 600 : Nat) : Int) := by split <;> omega
  have n1 : min p.f.size 60 ≤ p.f.size := Nat.min_le_left _ _
  have n2 : min p.b.size 600 ≤ p.b.size := Nat.min_le_left _ _
  unfold Pk.small Pk.v
  generalize min p.f.size 60 = k1 at *
  generalize min p.b.size 600 = k2 at *
  obtain ⟨c0, c1⟩ := blk2 hX
  go_enter Tryz.func76, Tryz.ntmps76
  go_wp2_with fail
  generalize (w.alloc (.cells #[.string p.f, .string p.b] 123)).alloc (.cells #[.string ⟨#[]⟩, .string ⟨#[]⟩] 123) = W at *
  have hlt : w.heap.size < W.heap.size := lt_of_block hX
  go_still_tail 15, (by kernel_rfl)
  change wpList _ _ _ _ _ W.drew
  have hZd : W.drew.heap[w.heap.size + 1]? = some (.cells #[.string ⟨#[]⟩, .string ⟨#[]⟩] 123) := hZ
  go_wp2_with (refine wpList_store_row rfl 123 _ _ rfl (w.heap.size + 1) #[.string (p.f.extract 0 k1), .string (p.b.extract 0 k2)] rfl rfl 123 _ hZd (by kernel_rfl) rfl (by simp [Value.oneCell']) ?_)
  refine bodyPost_ret (v := .agg #[.string (p.f.extract 0 k1), .string (p.b.extract 0 k2)]) (results_cell_row rfl _ _ (w.heap.size + 1) 123 _ (0, 0) _ rfl (setRow_heap _ _ _ _ _ _ hZd) Tryz.underlying123 rfl (by kernel_rfl)) rfl ⟨rfl, hA.drew.setRow (Nat.le_succ _) _⟩

end Go.Proofs.YtdjjfjnkkgmadaaGreatDoor
