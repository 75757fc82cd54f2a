/-
  PROVED: for every three numbers, replevinlaw37.PortEpochs of the given program returns true, and leaves what was there as it was (the listed package-level variables tied to the program's text).
-/
import Derived.Test.YtdjjfjnkkgmadaaGreatDoorTie
import Derived.Test.YtdjjfjnkkgmadaaGreatDoorCards
import Derived.Test.YtdjjfjnkkgmadaaGreatDoorPortEpochsLift
import Derived.Test.YtdjjfjnkkgmadaaGreatDoorPortEpochsFactsA
import Derived.Test.YtdjjfjnkkgmadaaGreatDoorPortEpochsFactsB
import Derived.Test.YtdjjfjnkkgmadaaGreatDoorEnter
import Derived.ProofKit
import Derived.OpenShut
import Derived.ShutString
import Derived.ChangeOld
import Derived.LaidMore
import Derived.Lay
import Derived.MakeChecks
import Derived.SevenTiedAt
namespace Go.Proofs.YtdjjfjnkkgmadaaGreatDoor
open Go Go.ChangeShapes Go.WideShapes Go.ChangeAt Go.RowKit
open Go.ChangeMaps (open_string shut_string)


theorem portEpochs_and2 {a b : Bool} (ha : a = true) (hb : b = true) : (a && b) = true := by rw [ha, hb]; rfl

theorem portEpochs_facts : joinedFacts Tryz.prog 12 Tryz.f12 Rows.portEpochsSpec Rows.portEpochsRow = true := by
  unfold joinedFacts
  exact (portEpochs_and2 (portEpochs_and2 (portEpochs_and2 (portEpochs_and2 (portEpochs_and2 (portEpochs_and2 (portEpochs_and2 (portEpochs_and2 (portEpochs_and2 (portEpochs_and2 (portEpochs_and2 (portEpochs_and2 (portEpochs_and2 (portEpochs_and2 (portEpochs_and2 (portEpochs_and2 (portEpochs_and2 (portEpochs_and2 (portEpochs_and2 (portEpochs_and2 (portEpochs_and2 (portEpochs_and2 (portEpochs_and2 (portEpochs_and2 (portEpochs_and2 (portEpochs_and2 (portEpochs_and2 (portEpochs_and2 (portEpochs_and2 (portEpochs_and2 (portEpochs_and2 ppk0 ppk1) ppk2) ppk3) ppk4) ppk5) ppk6) ppk7) ppk8) ppk9) ppk10) ppk11) ppk12) ppk13) ppk14) ppk15) ppk16) ppk17) ppk18) ppk19) ppk20) ppk21) ppk22) ppk23) ppk24) mayEnter) ppk26) ppk27) (by kernel_rfl)) ppk29) ppk30) ppk31)

theorem portEpochs_holds : Rows.PortEpochsSaid :=
  OpenClaim.holds_of_wide 12 Tryz.f12 rfl rfl rfl rfl rfl rfl rfl ⟨rfl, rfl, rfl, rfl, rfl⟩ rfl rfl rfl rfl rfl (by kernel_rfl) Tryz.func12 portEpochs_facts
    (of_decide_eq_true (by kernel_rfl)) (by unfold Func.isWrapper; first | (rw [if_pos (by decide +kernel)]; kernel_rfl) | (rw [if_neg (by decide +kernel)]; exact ⟨rfl, rfl⟩))
    (fun os started H enc _ => portEpochs_lifted os started H enc)


end Go.Proofs.YtdjjfjnkkgmadaaGreatDoor
