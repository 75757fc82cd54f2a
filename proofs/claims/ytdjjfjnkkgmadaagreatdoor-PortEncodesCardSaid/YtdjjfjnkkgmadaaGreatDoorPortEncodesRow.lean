/-
  PROVED: for every port, replevinlaw37.PortEncodes of the given program returns true, and leaves what was there as it was (the listed package-level variables tied to the program's text).
-/
import Derived.Test.YtdjjfjnkkgmadaaGreatDoorTie
import Derived.Test.YtdjjfjnkkgmadaaGreatDoorCards
import Derived.Test.YtdjjfjnkkgmadaaGreatDoorMain
import Derived.Test.YtdjjfjnkkgmadaaGreatDoorPortEncodesFactsC
import Derived.Test.YtdjjfjnkkgmadaaGreatDoorPortEncodesHolds
import Derived.SevenTiedAt
namespace Go.Proofs.YtdjjfjnkkgmadaaGreatDoor
open Go

theorem portEncodes_card_holds : Rows.PortEncodesCardSaid :=
  Claim7.holds_tied_plain_at .later [] [.data, .data, .data, .sentinel, .sentinel] true (true, "01d9390c779121418bffdd38619da0e0589022fe073f05aca4c221008ea5f8e4") true portEncodes_holds (fun _ h => by cases h) pck40 (fun _ h => by cases h) portEncodes_row_tie rfl ⟨rfl, rfl⟩ main_is rfl
    (fun f fn hf hfn => by
      obtain rfl : f = 5 := Option.some.inj (pck41.symm.trans hf) |>.symm
      obtain rfl : fn = Tryz.f5 := (Option.some.inj (Tryz.func5.symm.trans hfn)).symm
      exact ⟨pck42, fun j t ht => by
        rw [Tryz.params5] at ht
        have hm : t ∈ [56] := by simpa using Array.mem_of_getElem? ht
        exact (show Tryz.prog.wantsStandIn t = false by simpa using List.all_eq_true.1 pck43 t hm)⟩)
    pck44
#print axioms portEncodes_card_holds
end Go.Proofs.YtdjjfjnkkgmadaaGreatDoor
