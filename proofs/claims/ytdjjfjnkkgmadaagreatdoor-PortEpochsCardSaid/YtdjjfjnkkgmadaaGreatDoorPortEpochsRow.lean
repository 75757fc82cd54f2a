/-
  PROVED: for every three numbers, replevinlaw37.PortEpochs of the given program returns true, and leaves what was there as it was (the listed package-level variables tied to the program's text).
-/
import Derived.Test.YtdjjfjnkkgmadaaGreatDoorTie
import Derived.Test.YtdjjfjnkkgmadaaGreatDoorCards
import Derived.Test.YtdjjfjnkkgmadaaGreatDoorMain
import Derived.Test.YtdjjfjnkkgmadaaGreatDoorPortEpochsFactsC
import Derived.Test.YtdjjfjnkkgmadaaGreatDoorPortEpochsHolds
import Derived.SevenTiedAt
namespace Go.Proofs.YtdjjfjnkkgmadaaGreatDoor
open Go

theorem portEpochs_card_holds : Rows.PortEpochsCardSaid :=
  Claim7.holds_tied_plain_at .later [] [.data, .data, .data, .sentinel, .sentinel] true (true, "01d9390c779121418bffdd38619da0e0589022fe073f05aca4c221008ea5f8e4") true portEpochs_holds (fun _ h => by cases h) ppk40 (fun _ h => by cases h) portEpochs_row_tie rfl ⟨rfl, rfl⟩ main_is rfl
    (fun f fn hf hfn => by
      obtain rfl : f = 12 := Option.some.inj (ppk41.symm.trans hf) |>.symm
      obtain rfl : fn = Tryz.f12 := (Option.some.inj (Tryz.func12.symm.trans hfn)).symm
      exact ⟨ppk42, fun j t ht => by
        rw [Tryz.params12] at ht
        have hm : t ∈ [3, 3, 3] := by simpa using Array.mem_of_getElem? ht
        exact (show Tryz.prog.wantsStandIn t = false by simpa using List.all_eq_true.1 ppk43 t hm)⟩)
    ppk44
#print axioms portEpochs_card_holds
end Go.Proofs.YtdjjfjnkkgmadaaGreatDoor
