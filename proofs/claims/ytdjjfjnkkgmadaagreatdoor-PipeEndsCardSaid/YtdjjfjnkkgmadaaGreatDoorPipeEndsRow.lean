/-
  PROVED: for every bool and every uint8, replevinlaw32.PipeEnds of the given program returns true, and leaves what was there as it was (the listed package-level variables tied to the program's text).
-/
import Derived.Test.YtdjjfjnkkgmadaaGreatDoorTie
import Derived.Test.YtdjjfjnkkgmadaaGreatDoorCards
import Derived.Test.YtdjjfjnkkgmadaaGreatDoorMain
import Derived.Test.YtdjjfjnkkgmadaaGreatDoorPipeEndsFactsC
import Derived.Test.YtdjjfjnkkgmadaaGreatDoorPipeEndsHolds
import Derived.SevenTiedAt
namespace Go.Proofs.YtdjjfjnkkgmadaaGreatDoor
open Go

theorem pipeEnds_card_holds : Rows.PipeEndsCardSaid :=
  Claim7.holds_tied_plain_at .later [] [.data, .data, .data, .sentinel, .sentinel] true (true, "01d9390c779121418bffdd38619da0e0589022fe073f05aca4c221008ea5f8e4") true pipeEnds_holds (fun _ h => by cases h) pek40 (fun _ h => by cases h) pipeEnds_row_tie rfl ⟨rfl, rfl⟩ main_is rfl
    (fun f fn hf hfn => by
      obtain rfl : f = 9 := Option.some.inj (pek41.symm.trans hf) |>.symm
      obtain rfl : fn = Tryz.f9 := (Option.some.inj (Tryz.func9.symm.trans hfn)).symm
      exact ⟨pek42, fun j t ht => by
        rw [Tryz.params9] at ht
        have hm : t ∈ [4, 5] := by simpa using Array.mem_of_getElem? ht
        exact (show Tryz.prog.wantsStandIn t = false by simpa using List.all_eq_true.1 pek43 t hm)⟩)
    pek44
#print axioms pipeEnds_card_holds
end Go.Proofs.YtdjjfjnkkgmadaaGreatDoor
