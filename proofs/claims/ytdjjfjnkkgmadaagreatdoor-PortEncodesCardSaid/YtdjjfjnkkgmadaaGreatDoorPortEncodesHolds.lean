/-
  PROVED: for every port, replevinlaw37.PortEncodes of the given program returns true, and leaves what was there as it was (the listed package-level variables tied to the program's text).
-/
import Derived.Test.YtdjjfjnkkgmadaaGreatDoorTie
import Derived.Test.YtdjjfjnkkgmadaaGreatDoorCards
import Derived.Test.YtdjjfjnkkgmadaaGreatDoorPortEncodesLift
import Derived.Test.YtdjjfjnkkgmadaaGreatDoorPortEncodesFactsA
import Derived.Test.YtdjjfjnkkgmadaaGreatDoorPortEncodesFactsB
import Derived.Test.YtdjjfjnkkgmadaaGreatDoorEnter
import Derived.ProofKit
import Derived.OpenShut
import Derived.ShutString
import Derived.ChangeOld
import Derived.LaidMore
import Derived.Lay
import Derived.MakeChecks
import Derived.SevenTiedAt
namespace Go.Proofs.YtdjjfjnkkgmadaaGreatDoor
open Go Go.ChangeShapes Go.WideShapes Go.ChangeAt Go.RowKit
open Go.ChangeMaps (open_string shut_string)


theorem portEncodes_and2 {a b : Bool} (ha : a = true) (hb : b = true) : (a && b) = true := by rw [ha, hb]; rfl

theorem portEncodes_facts : joinedFacts Tryz.prog 5 Tryz.f5 Rows.portEncodesSpec Rows.portEncodesRow = true := by
  unfold joinedFacts
  exact (portEncodes_and2 (portEncodes_and2 (portEncodes_and2 (portEncodes_and2 (portEncodes_and2 (portEncodes_and2 (portEncodes_and2 (portEncodes_and2 (portEncodes_and2 (portEncodes_and2 (portEncodes_and2 (portEncodes_and2 (portEncodes_and2 (portEncodes_and2 (portEncodes_and2 (portEncodes_and2 (portEncodes_and2 (portEncodes_and2 (portEncodes_and2 (portEncodes_and2 (portEncodes_and2 (portEncodes_and2 (portEncodes_and2 (portEncodes_and2 (portEncodes_and2 (portEncodes_and2 (portEncodes_and2 (portEncodes_and2 (portEncodes_and2 (portEncodes_and2 (portEncodes_and2 pck0 pck1) pck2) pck3) pck4) pck5) pck6) pck7) pck8) pck9) pck10) pck11) pck12) pck13) pck14) pck15) pck16) pck17) pck18) pck19) pck20) pck21) pck22) pck23) pck24) mayEnter) pck26) pck27) (by kernel_rfl)) pck29) pck30) pck31)

theorem portEncodes_holds : Rows.PortEncodesSaid :=
  OpenClaim.holds_of_wide 5 Tryz.f5 rfl rfl rfl rfl rfl rfl rfl ⟨rfl, rfl, rfl, rfl, rfl⟩ rfl rfl rfl rfl rfl (by kernel_rfl) Tryz.func5 portEncodes_facts
    (of_decide_eq_true (by kernel_rfl)) (by unfold Func.isWrapper; first | (rw [if_pos (by decide +kernel)]; kernel_rfl) | (rw [if_neg (by decide +kernel)]; exact ⟨rfl, rfl⟩))
    (fun os started H enc _ => portEncodes_lifted os started H enc)


end Go.Proofs.YtdjjfjnkkgmadaaGreatDoor
