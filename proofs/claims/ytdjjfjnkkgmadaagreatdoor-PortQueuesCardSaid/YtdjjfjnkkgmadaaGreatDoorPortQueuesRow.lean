/-
  PROVED: for all packets and all truth values, replevinlaw37.PortQueues of the given program returns true, and leaves what was there as it was (the listed package-level variables tied to the program's text).
-/
import Derived.Test.YtdjjfjnkkgmadaaGreatDoorTie
import Derived.Test.YtdjjfjnkkgmadaaGreatDoorCards
import Derived.Test.YtdjjfjnkkgmadaaGreatDoorMain
import Derived.Test.YtdjjfjnkkgmadaaGreatDoorPortQueuesFactsC
import Derived.Test.YtdjjfjnkkgmadaaGreatDoorPortQueuesHolds
import Derived.SevenTiedAt
namespace Go.Proofs.YtdjjfjnkkgmadaaGreatDoor
open Go

theorem portQueues_card_holds : Rows.PortQueuesCardSaid :=
  Claim7.holds_tied_plain_at .later [] [.data, .data, .data, .sentinel, .sentinel] true (true, "01d9390c779121418bffdd38619da0e0589022fe073f05aca4c221008ea5f8e4") true portQueues_holds (fun _ h => by cases h) pqk40 (fun _ h => by cases h) portQueues_row_tie rfl ⟨rfl, rfl⟩ main_is rfl
    (fun f fn hf hfn => by
      obtain rfl : f = 11 := Option.some.inj (pqk41.symm.trans hf) |>.symm
      obtain rfl : fn = Tryz.f11 := (Option.some.inj (Tryz.func11.symm.trans hfn)).symm
      exact ⟨pqk42, fun j t ht => by
        rw [Tryz.params11] at ht
        have hm : t ∈ [54, 117] := by simpa using Array.mem_of_getElem? ht
        exact (show Tryz.prog.wantsStandIn t = false by simpa using List.all_eq_true.1 pqk43 t hm)⟩)
    pqk44
#print axioms portQueues_card_holds
end Go.Proofs.YtdjjfjnkkgmadaaGreatDoor
