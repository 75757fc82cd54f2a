/-
  PROVED: for every string, replevinlaw37.PortDecodes of the given program returns true, and leaves what was there as it was (the listed package-level variables tied to the program's text).
-/
import Derived.Test.YtdjjfjnkkgmadaaGreatDoorTie
import Derived.Test.YtdjjfjnkkgmadaaGreatDoorCards
import Derived.Test.YtdjjfjnkkgmadaaGreatDoorMain
import Derived.Test.YtdjjfjnkkgmadaaGreatDoorPortDecodesFactsC
import Derived.Test.YtdjjfjnkkgmadaaGreatDoorPortDecodesHolds
import Derived.SevenTiedAt
namespace Go.Proofs.YtdjjfjnkkgmadaaGreatDoor
open Go

theorem portDecodes_card_holds : Rows.PortDecodesCardSaid :=
  Claim7.holds_tied_plain_at .later [] [.data, .data, .data, .sentinel, .sentinel] true (true, "01d9390c779121418bffdd38619da0e0589022fe073f05aca4c221008ea5f8e4") true portDecodes_holds (fun _ h => by cases h) pdk40 (fun _ h => by cases h) portDecodes_row_tie rfl ⟨rfl, rfl⟩ main_is rfl
    (fun f fn hf hfn => by
      obtain rfl : f = 6 := Option.some.inj (pdk41.symm.trans hf) |>.symm
      obtain rfl : fn = Tryz.f6 := (Option.some.inj (Tryz.func6.symm.trans hfn)).symm
      exact ⟨pdk42, fun j t ht => by
        rw [Tryz.params6] at ht
        have hm : t ∈ [9] := by simpa using Array.mem_of_getElem? ht
        exact (show Tryz.prog.wantsStandIn t = false by simpa using List.all_eq_true.1 pdk43 t hm)⟩)
    pdk44
#print axioms portDecodes_card_holds
end Go.Proofs.YtdjjfjnkkgmadaaGreatDoor
