/-
  PROVED: for every string and every uint16, replevinlaw32.PipeBusy of the given program returns true, and leaves what was there as it was (the listed package-level variables tied to the program's text).
-/
import Derived.Test.YtdjjfjnkkgmadaaGreatDoorTie
import Derived.Test.YtdjjfjnkkgmadaaGreatDoorCards
import Derived.Test.YtdjjfjnkkgmadaaGreatDoorPipeBusyLift
import Derived.Test.YtdjjfjnkkgmadaaGreatDoorPipeBusyFactsA
import Derived.Test.YtdjjfjnkkgmadaaGreatDoorPipeBusyFactsB
import Derived.Test.YtdjjfjnkkgmadaaGreatDoorEnter
import Derived.ProofKit
import Derived.OpenShut
import Derived.ShutString
import Derived.ChangeOld
import Derived.LaidMore
import Derived.Lay
import Derived.MakeChecks
import Derived.SevenTiedAt
namespace Go.Proofs.YtdjjfjnkkgmadaaGreatDoor
open Go Go.ChangeShapes Go.WideShapes Go.ChangeAt Go.RowKit
open Go.ChangeMaps (open_string shut_string)


theorem pipeBusy_and2 {a b : Bool} (ha : a = true) (hb : b = true) : (a && b) = true := by rw [ha, hb]; rfl

theorem pipeBusy_facts : joinedFacts Tryz.prog 4 Tryz.f4 Rows.pipeBusySpec Rows.pipeBusyRow = true := by
  unfold joinedFacts
  exact (pipeBusy_and2 (pipeBusy_and2 (pipeBusy_and2 (pipeBusy_and2 (pipeBusy_and2 (pipeBusy_and2 (pipeBusy_and2 (pipeBusy_and2 (pipeBusy_and2 (pipeBusy_and2 (pipeBusy_and2 (pipeBusy_and2 (pipeBusy_and2 (pipeBusy_and2 (pipeBusy_and2 (pipeBusy_and2 (pipeBusy_and2 (pipeBusy_and2 (pipeBusy_and2 (pipeBusy_and2 (pipeBusy_and2 (pipeBusy_and2 (pipeBusy_and2 (pipeBusy_and2 (pipeBusy_and2 (pipeBusy_and2 (pipeBusy_and2 (pipeBusy_and2 (pipeBusy_and2 (pipeBusy_and2 (pipeBusy_and2 pbk0 pbk1) pbk2) pbk3) pbk4) pbk5) pbk6) pbk7) pbk8) pbk9) pbk10) pbk11) pbk12) pbk13) pbk14) pbk15) pbk16) pbk17) pbk18) pbk19) pbk20) pbk21) pbk22) pbk23) pbk24) mayEnter) pbk26) pbk27) (by kernel_rfl)) pbk29) pbk30) pbk31)

theorem pipeBusy_holds : Rows.PipeBusySaid :=
  OpenClaim.holds_of_wide 4 Tryz.f4 rfl rfl rfl rfl rfl rfl rfl ⟨rfl, rfl, rfl, rfl, rfl⟩ rfl rfl rfl rfl rfl (by kernel_rfl) Tryz.func4 pipeBusy_facts
    (of_decide_eq_true (by kernel_rfl)) (by unfold Func.isWrapper; first | (rw [if_pos (by decide +kernel)]; kernel_rfl) | (rw [if_neg (by decide +kernel)]; exact ⟨rfl, rfl⟩))
    (fun os started H enc _ => pipeBusy_lifted os started H enc)


end Go.Proofs.YtdjjfjnkkgmadaaGreatDoor
