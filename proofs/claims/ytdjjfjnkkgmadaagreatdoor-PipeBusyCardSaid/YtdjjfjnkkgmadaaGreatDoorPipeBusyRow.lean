/-
  PROVED: for every string and every uint16, replevinlaw32.PipeBusy of the given program returns true, and leaves what was there as it was (the listed package-level variables tied to the program's text).
-/
import Derived.Test.YtdjjfjnkkgmadaaGreatDoorTie
import Derived.Test.YtdjjfjnkkgmadaaGreatDoorCards
import Derived.Test.YtdjjfjnkkgmadaaGreatDoorMain
import Derived.Test.YtdjjfjnkkgmadaaGreatDoorPipeBusyFactsC
import Derived.Test.YtdjjfjnkkgmadaaGreatDoorPipeBusyHolds
import Derived.SevenTiedAt
namespace Go.Proofs.YtdjjfjnkkgmadaaGreatDoor
open Go

theorem pipeBusy_card_holds : Rows.PipeBusyCardSaid :=
  Claim7.holds_tied_plain_at .later [] [.data, .data, .data, .sentinel, .sentinel] true (true, "01d9390c779121418bffdd38619da0e0589022fe073f05aca4c221008ea5f8e4") true pipeBusy_holds (fun _ h => by cases h) pbk40 (fun _ h => by cases h) pipeBusy_row_tie rfl ⟨rfl, rfl⟩ main_is rfl
    (fun f fn hf hfn => by
      obtain rfl : f = 4 := Option.some.inj (pbk41.symm.trans hf) |>.symm
      obtain rfl : fn = Tryz.f4 := (Option.some.inj (Tryz.func4.symm.trans hfn)).symm
      exact ⟨pbk42, fun j t ht => by
        rw [Tryz.params4] at ht
        have hm : t ∈ [9, 39] := by simpa using Array.mem_of_getElem? ht
        exact (show Tryz.prog.wantsStandIn t = false by simpa using List.all_eq_true.1 pbk43 t hm)⟩)
    pbk44
#print axioms pipeBusy_card_holds
end Go.Proofs.YtdjjfjnkkgmadaaGreatDoor
