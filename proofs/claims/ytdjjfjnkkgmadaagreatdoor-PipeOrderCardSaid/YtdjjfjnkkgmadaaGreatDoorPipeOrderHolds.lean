/-
  PROVED: for every slice of operations, replevinlaw32.PipeOrder of the given program returns true, and leaves what was there as it was (the listed package-level variables tied to the program's text).
-/
import Derived.Test.YtdjjfjnkkgmadaaGreatDoorTie
import Derived.Test.YtdjjfjnkkgmadaaGreatDoorCards
import Derived.Test.YtdjjfjnkkgmadaaGreatDoorPipeOrderLift
import Derived.Test.YtdjjfjnkkgmadaaGreatDoorPipeOrderFactsA
import Derived.Test.YtdjjfjnkkgmadaaGreatDoorPipeOrderFactsB
import Derived.Test.YtdjjfjnkkgmadaaGreatDoorEnter
import Derived.ProofKit
import Derived.OpenShut
import Derived.ShutString
import Derived.ChangeOld
import Derived.LaidMore
import Derived.Lay
import Derived.MakeChecks
import Derived.SevenTiedAt
namespace Go.Proofs.YtdjjfjnkkgmadaaGreatDoor
open Go Go.ChangeShapes Go.WideShapes Go.ChangeAt Go.RowKit
open Go.ChangeMaps (open_string shut_string)


theorem pipeOrder_and2 {a b : Bool} (ha : a = true) (hb : b = true) : (a && b) = true := by rw [ha, hb]; rfl

theorem pipeOrder_facts : joinedFacts Tryz.prog 7 Tryz.f7 Rows.pipeOrderSpec Rows.pipeOrderRow = true := by
  unfold joinedFacts
  exact (pipeOrder_and2 (pipeOrder_and2 (pipeOrder_and2 (pipeOrder_and2 (pipeOrder_and2 (pipeOrder_and2 (pipeOrder_and2 (pipeOrder_and2 (pipeOrder_and2 (pipeOrder_and2 (pipeOrder_and2 (pipeOrder_and2 (pipeOrder_and2 (pipeOrder_and2 (pipeOrder_and2 (pipeOrder_and2 (pipeOrder_and2 (pipeOrder_and2 (pipeOrder_and2 (pipeOrder_and2 (pipeOrder_and2 (pipeOrder_and2 (pipeOrder_and2 (pipeOrder_and2 (pipeOrder_and2 (pipeOrder_and2 (pipeOrder_and2 (pipeOrder_and2 (pipeOrder_and2 (pipeOrder_and2 (pipeOrder_and2 pok0 pok1) pok2) pok3) pok4) pok5) pok6) pok7) pok8) pok9) pok10) pok11) pok12) pok13) pok14) pok15) pok16) pok17) pok18) pok19) pok20) pok21) pok22) pok23) pok24) mayEnter) pok26) pok27) (by kernel_rfl)) pok29) pok30) pok31)

theorem pipeOrder_holds : Rows.PipeOrderSaid :=
  OpenClaim.holds_of_wide 7 Tryz.f7 rfl rfl rfl rfl rfl rfl rfl ⟨rfl, rfl, rfl, rfl, rfl⟩ rfl rfl rfl rfl rfl (by kernel_rfl) Tryz.func7 pipeOrder_facts
    (of_decide_eq_true (by kernel_rfl)) (by unfold Func.isWrapper; first | (rw [if_pos (by decide +kernel)]; kernel_rfl) | (rw [if_neg (by decide +kernel)]; exact ⟨rfl, rfl⟩))
    (fun os started H enc _ => pipeOrder_lifted os started H enc)


end Go.Proofs.YtdjjfjnkkgmadaaGreatDoor
