/-
  PROVED: for every bool and every uint8, replevinlaw32.PipeEnds of the given program returns true, and leaves what was there as it was (the listed package-level variables tied to the program's text).
-/
import Derived.Test.YtdjjfjnkkgmadaaGreatDoorTie
import Derived.Test.YtdjjfjnkkgmadaaGreatDoorCards
import Derived.Test.YtdjjfjnkkgmadaaGreatDoorPipeEndsLift
import Derived.Test.YtdjjfjnkkgmadaaGreatDoorPipeEndsFactsA
import Derived.Test.YtdjjfjnkkgmadaaGreatDoorPipeEndsFactsB
import Derived.Test.YtdjjfjnkkgmadaaGreatDoorEnter
import Derived.ProofKit
import Derived.OpenShut
import Derived.ShutString
import Derived.ChangeOld
import Derived.LaidMore
import Derived.Lay
import Derived.MakeChecks
import Derived.SevenTiedAt
namespace Go.Proofs.YtdjjfjnkkgmadaaGreatDoor
open Go Go.ChangeShapes Go.WideShapes Go.ChangeAt Go.RowKit
open Go.ChangeMaps (open_string shut_string)


theorem pipeEnds_and2 {a b : Bool} (ha : a = true) (hb : b = true) : (a && b) = true := by rw [ha, hb]; rfl

theorem pipeEnds_facts : joinedFacts Tryz.prog 9 Tryz.f9 Rows.pipeEndsSpec Rows.pipeEndsRow = true := by
  unfold joinedFacts
  exact (pipeEnds_and2 (pipeEnds_and2 (pipeEnds_and2 (pipeEnds_and2 (pipeEnds_and2 (pipeEnds_and2 (pipeEnds_and2 (pipeEnds_and2 (pipeEnds_and2 (pipeEnds_and2 (pipeEnds_and2 (pipeEnds_and2 (pipeEnds_and2 (pipeEnds_and2 (pipeEnds_and2 (pipeEnds_and2 (pipeEnds_and2 (pipeEnds_and2 (pipeEnds_and2 (pipeEnds_and2 (pipeEnds_and2 (pipeEnds_and2 (pipeEnds_and2 (pipeEnds_and2 (pipeEnds_and2 (pipeEnds_and2 (pipeEnds_and2 (pipeEnds_and2 (pipeEnds_and2 (pipeEnds_and2 (pipeEnds_and2 pek0 pek1) pek2) pek3) pek4) pek5) pek6) pek7) pek8) pek9) pek10) pek11) pek12) pek13) pek14) pek15) pek16) pek17) pek18) pek19) pek20) pek21) pek22) pek23) pek24) mayEnter) pek26) pek27) (by kernel_rfl)) pek29) pek30) pek31)

theorem pipeEnds_holds : Rows.PipeEndsSaid :=
  OpenClaim.holds_of_wide 9 Tryz.f9 rfl rfl rfl rfl rfl rfl rfl ⟨rfl, rfl, rfl, rfl, rfl⟩ rfl rfl rfl rfl rfl (by kernel_rfl) Tryz.func9 pipeEnds_facts
    (of_decide_eq_true (by kernel_rfl)) (by unfold Func.isWrapper; first | (rw [if_pos (by decide +kernel)]; kernel_rfl) | (rw [if_neg (by decide +kernel)]; exact ⟨rfl, rfl⟩))
    (fun os started H enc _ => pipeEnds_lifted os started H enc)


end Go.Proofs.YtdjjfjnkkgmadaaGreatDoor
