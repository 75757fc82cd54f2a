/-
  PROVED: for every operation and every string, replevinlaw37.PortNil of the given program returns true, and leaves what was there as it was (the listed package-level variables tied to the program's text).
-/
import Derived.Test.YtdjjfjnkkgmadaaGreatDoorTie
import Derived.Test.YtdjjfjnkkgmadaaGreatDoorCards
import Derived.Test.YtdjjfjnkkgmadaaGreatDoorPortNilLift
import Derived.Test.YtdjjfjnkkgmadaaGreatDoorPortNilFactsA
import Derived.Test.YtdjjfjnkkgmadaaGreatDoorPortNilFactsB
import Derived.Test.YtdjjfjnkkgmadaaGreatDoorEnter
import Derived.ProofKit
import Derived.OpenShut
import Derived.ShutString
import Derived.ChangeOld
import Derived.LaidMore
import Derived.Lay
import Derived.MakeChecks
import Derived.SevenTiedAt
namespace Go.Proofs.YtdjjfjnkkgmadaaGreatDoor
open Go Go.ChangeShapes Go.WideShapes Go.ChangeAt Go.RowKit
open Go.ChangeMaps (open_string shut_string)


theorem portNil_and2 {a b : Bool} (ha : a = true) (hb : b = true) : (a && b) = true := by rw [ha, hb]; rfl

theorem portNil_facts : joinedFacts Tryz.prog 13 Tryz.f13 Rows.portNilSpec Rows.portNilRow = true := by
  unfold joinedFacts
  exact (portNil_and2 (portNil_and2 (portNil_and2 (portNil_and2 (portNil_and2 (portNil_and2 (portNil_and2 (portNil_and2 (portNil_and2 (portNil_and2 (portNil_and2 (portNil_and2 (portNil_and2 (portNil_and2 (portNil_and2 (portNil_and2 (portNil_and2 (portNil_and2 (portNil_and2 (portNil_and2 (portNil_and2 (portNil_and2 (portNil_and2 (portNil_and2 (portNil_and2 (portNil_and2 (portNil_and2 (portNil_and2 (portNil_and2 (portNil_and2 (portNil_and2 pnk0 pnk1) pnk2) pnk3) pnk4) pnk5) pnk6) pnk7) pnk8) pnk9) pnk10) pnk11) pnk12) pnk13) pnk14) pnk15) pnk16) pnk17) pnk18) pnk19) pnk20) pnk21) pnk22) pnk23) pnk24) mayEnter) pnk26) pnk27) (by kernel_rfl)) pnk29) pnk30) pnk31)

theorem portNil_holds : Rows.PortNilSaid :=
  OpenClaim.holds_of_wide 13 Tryz.f13 rfl rfl rfl rfl rfl rfl rfl ⟨rfl, rfl, rfl, rfl, rfl⟩ rfl rfl rfl rfl rfl (by kernel_rfl) Tryz.func13 portNil_facts
    (of_decide_eq_true (by kernel_rfl)) (by unfold Func.isWrapper; first | (rw [if_pos (by decide +kernel)]; kernel_rfl) | (rw [if_neg (by decide +kernel)]; exact ⟨rfl, rfl⟩))
    (fun os started H enc _ => portNil_lifted os started H enc)


end Go.Proofs.YtdjjfjnkkgmadaaGreatDoor
