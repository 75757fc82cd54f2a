/-
  PROVED: for every slice of operations, replevinlaw32.PipeOrder of the given program returns true, and leaves what was there as it was (the listed package-level variables tied to the program's text).
-/
import Derived.Test.YtdjjfjnkkgmadaaGreatDoorTie
import Derived.Test.YtdjjfjnkkgmadaaGreatDoorCards
import Derived.Test.YtdjjfjnkkgmadaaGreatDoorMain
import Derived.Test.YtdjjfjnkkgmadaaGreatDoorPipeOrderFactsC
import Derived.Test.YtdjjfjnkkgmadaaGreatDoorPipeOrderHolds
import Derived.SevenTiedAt
namespace Go.Proofs.YtdjjfjnkkgmadaaGreatDoor
open Go

theorem pipeOrder_card_holds : Rows.PipeOrderCardSaid :=
  Claim7.holds_tied_plain_at .later [] [.data, .data, .data, .sentinel, .sentinel] true (true, "01d9390c779121418bffdd38619da0e0589022fe073f05aca4c221008ea5f8e4") true pipeOrder_holds (fun _ h => by cases h) pok40 (fun _ h => by cases h) pipeOrder_row_tie rfl ⟨rfl, rfl⟩ main_is rfl
    (fun f fn hf hfn => by
      obtain rfl : f = 7 := Option.some.inj (pok41.symm.trans hf) |>.symm
      obtain rfl : fn = Tryz.f7 := (Option.some.inj (Tryz.func7.symm.trans hfn)).symm
      exact ⟨pok42, fun j t ht => by
        rw [Tryz.params7] at ht
        have hm : t ∈ [66] := by simpa using Array.mem_of_getElem? ht
        exact (show Tryz.prog.wantsStandIn t = false by simpa using List.all_eq_true.1 pok43 t hm)⟩)
    pok44
#print axioms pipeOrder_card_holds
end Go.Proofs.YtdjjfjnkkgmadaaGreatDoor
