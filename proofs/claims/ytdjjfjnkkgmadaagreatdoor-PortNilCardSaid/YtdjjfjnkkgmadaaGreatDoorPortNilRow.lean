/-
  PROVED: for every operation and every string, replevinlaw37.PortNil of the given program returns true, and leaves what was there as it was (the listed package-level variables tied to the program's text).
-/
import Derived.Test.YtdjjfjnkkgmadaaGreatDoorTie
import Derived.Test.YtdjjfjnkkgmadaaGreatDoorCards
import Derived.Test.YtdjjfjnkkgmadaaGreatDoorMain
import Derived.Test.YtdjjfjnkkgmadaaGreatDoorPortNilFactsC
import Derived.Test.YtdjjfjnkkgmadaaGreatDoorPortNilHolds
import Derived.SevenTiedAt
namespace Go.Proofs.YtdjjfjnkkgmadaaGreatDoor
open Go

theorem portNil_card_holds : Rows.PortNilCardSaid :=
  Claim7.holds_tied_plain_at .later [] [.data, .data, .data, .sentinel, .sentinel] true (true, "01d9390c779121418bffdd38619da0e0589022fe073f05aca4c221008ea5f8e4") true portNil_holds (fun _ h => by cases h) pnk40 (fun _ h => by cases h) portNil_row_tie rfl ⟨rfl, rfl⟩ main_is rfl
    (fun f fn hf hfn => by
      obtain rfl : f = 13 := Option.some.inj (pnk41.symm.trans hf) |>.symm
      obtain rfl : fn = Tryz.f13 := (Option.some.inj (Tryz.func13.symm.trans hfn)).symm
      exact ⟨pnk42, fun j t ht => by
        rw [Tryz.params13] at ht
        have hm : t ∈ [135, 9] := by simpa using Array.mem_of_getElem? ht
        exact (show Tryz.prog.wantsStandIn t = false by simpa using List.all_eq_true.1 pnk43 t hm)⟩)
    pnk44
#print axioms portNil_card_holds
end Go.Proofs.YtdjjfjnkkgmadaaGreatDoor
