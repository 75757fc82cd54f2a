/-
  PROVED: for every pipe of the reference and every string, replevinlaw32.PipeValues of the given program returns true, and leaves what was there as it was (the listed package-level variables tied to the program's text).
-/
import Derived.Test.YtdjjfjnkkgmadaaGreatDoorTie
import Derived.Test.YtdjjfjnkkgmadaaGreatDoorCards
import Derived.Test.YtdjjfjnkkgmadaaGreatDoorPipeValuesLift
import Derived.Test.YtdjjfjnkkgmadaaGreatDoorPipeValuesFactsA
import Derived.Test.YtdjjfjnkkgmadaaGreatDoorPipeValuesFactsB
import Derived.Test.YtdjjfjnkkgmadaaGreatDoorEnter
import Derived.ProofKit
import Derived.OpenShut
import Derived.ShutString
import Derived.ChangeOld
import Derived.LaidMore
import Derived.Lay
import Derived.MakeChecks
import Derived.SevenTiedAt
namespace Go.Proofs.YtdjjfjnkkgmadaaGreatDoor
open Go Go.ChangeShapes Go.WideShapes Go.ChangeAt Go.RowKit
open Go.ChangeMaps (open_string shut_string)


theorem pipeValues_and2 {a b : Bool} (ha : a = true) (hb : b = true) : (a && b) = true := by rw [ha, hb]; rfl

theorem pipeValues_facts : joinedFacts Tryz.prog 3 Tryz.f3 Rows.pipeValuesSpec Rows.pipeValuesRow = true := by
  unfold joinedFacts
  exact (pipeValues_and2 (pipeValues_and2 (pipeValues_and2 (pipeValues_and2 (pipeValues_and2 (pipeValues_and2 (pipeValues_and2 (pipeValues_and2 (pipeValues_and2 (pipeValues_and2 (pipeValues_and2 (pipeValues_and2 (pipeValues_and2 (pipeValues_and2 (pipeValues_and2 (pipeValues_and2 (pipeValues_and2 (pipeValues_and2 (pipeValues_and2 (pipeValues_and2 (pipeValues_and2 (pipeValues_and2 (pipeValues_and2 (pipeValues_and2 (pipeValues_and2 (pipeValues_and2 (pipeValues_and2 (pipeValues_and2 (pipeValues_and2 (pipeValues_and2 (pipeValues_and2 pvk0 pvk1) pvk2) pvk3) pvk4) pvk5) pvk6) pvk7) pvk8) pvk9) pvk10) pvk11) pvk12) pvk13) pvk14) pvk15) pvk16) pvk17) pvk18) pvk19) pvk20) pvk21) pvk22) pvk23) pvk24) mayEnter) pvk26) pvk27) (by kernel_rfl)) pvk29) pvk30) pvk31)

theorem pipeValues_holds : Rows.PipeValuesSaid :=
  OpenClaim.holds_of_wide 3 Tryz.f3 rfl rfl rfl rfl rfl rfl rfl ⟨rfl, rfl, rfl, rfl, rfl⟩ rfl rfl rfl rfl rfl (by kernel_rfl) Tryz.func3 pipeValues_facts
    (of_decide_eq_true (by kernel_rfl)) (by unfold Func.isWrapper; first | (rw [if_pos (by decide +kernel)]; kernel_rfl) | (rw [if_neg (by decide +kernel)]; exact ⟨rfl, rfl⟩))
    (fun os started H enc _ => pipeValues_lifted os started H enc)


end Go.Proofs.YtdjjfjnkkgmadaaGreatDoor
