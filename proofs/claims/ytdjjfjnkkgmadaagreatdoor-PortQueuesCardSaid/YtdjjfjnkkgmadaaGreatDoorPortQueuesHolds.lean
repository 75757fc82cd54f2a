/-
  PROVED: for all packets and all truth values, replevinlaw37.PortQueues of the given program returns true, and leaves what was there as it was (the listed package-level variables tied to the program's text).
-/
import Derived.Test.YtdjjfjnkkgmadaaGreatDoorTie
import Derived.Test.YtdjjfjnkkgmadaaGreatDoorCards
import Derived.Test.YtdjjfjnkkgmadaaGreatDoorPortQueuesLift
import Derived.Test.YtdjjfjnkkgmadaaGreatDoorPortQueuesFactsA
import Derived.Test.YtdjjfjnkkgmadaaGreatDoorPortQueuesFactsB
import Derived.Test.YtdjjfjnkkgmadaaGreatDoorEnter
import Derived.ProofKit
import Derived.OpenShut
import Derived.ShutString
import Derived.ChangeOld
import Derived.LaidMore
import Derived.Lay
import Derived.MakeChecks
import Derived.SevenTiedAt
namespace Go.Proofs.YtdjjfjnkkgmadaaGreatDoor
open Go Go.ChangeShapes Go.WideShapes Go.ChangeAt Go.RowKit
open Go.ChangeMaps (open_string shut_string)


theorem portQueues_and2 {a b : Bool} (ha : a = true) (hb : b = true) : (a && b) = true := by rw [ha, hb]; rfl

theorem portQueues_facts : joinedFacts Tryz.prog 11 Tryz.f11 Rows.portQueuesSpec Rows.portQueuesRow = true := by
  unfold joinedFacts
  exact (portQueues_and2 (portQueues_and2 (portQueues_and2 (portQueues_and2 (portQueues_and2 (portQueues_and2 (portQueues_and2 (portQueues_and2 (portQueues_and2 (portQueues_and2 (portQueues_and2 (portQueues_and2 (portQueues_and2 (portQueues_and2 (portQueues_and2 (portQueues_and2 (portQueues_and2 (portQueues_and2 (portQueues_and2 (portQueues_and2 (portQueues_and2 (portQueues_and2 (portQueues_and2 (portQueues_and2 (portQueues_and2 (portQueues_and2 (portQueues_and2 (portQueues_and2 (portQueues_and2 (portQueues_and2 (portQueues_and2 pqk0 pqk1) pqk2) pqk3) pqk4) pqk5) pqk6) pqk7) pqk8) pqk9) pqk10) pqk11) pqk12) pqk13) pqk14) pqk15) pqk16) pqk17) pqk18) pqk19) pqk20) pqk21) pqk22) pqk23) pqk24) mayEnter) pqk26) pqk27) (by kernel_rfl)) pqk29) pqk30) pqk31)

theorem portQueues_holds : Rows.PortQueuesSaid :=
  OpenClaim.holds_of_wide 11 Tryz.f11 rfl rfl rfl rfl rfl rfl rfl ⟨rfl, rfl, rfl, rfl, rfl⟩ rfl rfl rfl rfl rfl (by kernel_rfl) Tryz.func11 portQueues_facts
    (of_decide_eq_true (by kernel_rfl)) (by unfold Func.isWrapper; first | (rw [if_pos (by decide +kernel)]; kernel_rfl) | (rw [if_neg (by decide +kernel)]; exact ⟨rfl, rfl⟩))
    (fun os started H enc _ => portQueues_lifted os started H enc)


end Go.Proofs.YtdjjfjnkkgmadaaGreatDoor
