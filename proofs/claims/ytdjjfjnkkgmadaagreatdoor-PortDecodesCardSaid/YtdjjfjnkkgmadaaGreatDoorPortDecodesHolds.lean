/-
  PROVED: for every string, replevinlaw37.PortDecodes of the given program returns true, and leaves what was there as it was (the listed package-level variables tied to the program's text).
-/
import Derived.Test.YtdjjfjnkkgmadaaGreatDoorTie
import Derived.Test.YtdjjfjnkkgmadaaGreatDoorCards
import Derived.Test.YtdjjfjnkkgmadaaGreatDoorPortDecodesLift
import Derived.Test.YtdjjfjnkkgmadaaGreatDoorPortDecodesFactsA
import Derived.Test.YtdjjfjnkkgmadaaGreatDoorPortDecodesFactsB
import Derived.Test.YtdjjfjnkkgmadaaGreatDoorEnter
import Derived.ProofKit
import Derived.OpenShut
import Derived.ShutString
import Derived.ChangeOld
import Derived.LaidMore
import Derived.Lay
import Derived.MakeChecks
import Derived.SevenTiedAt
namespace Go.Proofs.YtdjjfjnkkgmadaaGreatDoor
open Go Go.ChangeShapes Go.WideShapes Go.ChangeAt Go.RowKit
open Go.ChangeMaps (open_string shut_string)


theorem portDecodes_and2 {a b : Bool} (ha : a = true) (hb : b = true) : (a && b) = true := by rw [ha, hb]; rfl

theorem portDecodes_facts : joinedFacts Tryz.prog 6 Tryz.f6 Rows.portDecodesSpec Rows.portDecodesRow = true := by
  unfold joinedFacts
  exact (portDecodes_and2 (portDecodes_and2 (portDecodes_and2 (portDecodes_and2 (portDecodes_and2 (portDecodes_and2 (portDecodes_and2 (portDecodes_and2 (portDecodes_and2 (portDecodes_and2 (portDecodes_and2 (portDecodes_and2 (portDecodes_and2 (portDecodes_and2 (portDecodes_and2 (portDecodes_and2 (portDecodes_and2 (portDecodes_and2 (portDecodes_and2 (portDecodes_and2 (portDecodes_and2 (portDecodes_and2 (portDecodes_and2 (portDecodes_and2 (portDecodes_and2 (portDecodes_and2 (portDecodes_and2 (portDecodes_and2 (portDecodes_and2 (portDecodes_and2 (portDecodes_and2 pdk0 pdk1) pdk2) pdk3) pdk4) pdk5) pdk6) pdk7) pdk8) pdk9) pdk10) pdk11) pdk12) pdk13) pdk14) pdk15) pdk16) pdk17) pdk18) pdk19) pdk20) pdk21) pdk22) pdk23) pdk24) mayEnter) pdk26) pdk27) (by kernel_rfl)) pdk29) pdk30) pdk31)

theorem portDecodes_holds : Rows.PortDecodesSaid :=
  OpenClaim.holds_of_wide 6 Tryz.f6 rfl rfl rfl rfl rfl rfl rfl ⟨rfl, rfl, rfl, rfl, rfl⟩ rfl rfl rfl rfl rfl (by kernel_rfl) Tryz.func6 portDecodes_facts
    (of_decide_eq_true (by kernel_rfl)) (by unfold Func.isWrapper; first | (rw [if_pos (by decide +kernel)]; kernel_rfl) | (rw [if_neg (by decide +kernel)]; exact ⟨rfl, rfl⟩))
    (fun os started H enc _ => portDecodes_lifted os started H enc)


end Go.Proofs.YtdjjfjnkkgmadaaGreatDoor
