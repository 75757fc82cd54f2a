/-
  PortEpochs: the closed facts of its card.
-/
import Derived.Test.YtdjjfjnkkgmadaaGreatDoorCards
import Derived.KernelRfl
namespace Go.Proofs.YtdjjfjnkkgmadaaGreatDoor
open Go
theorem ppk40 : Rows.portEpochsRow.wfByText (OpenSpec.ofChange Rows.portEpochsSpec) = true := by kernel_rfl
theorem ppk41 : Tryz.prog.funcNamed "replevin/replevinlaw37.PortEpochs" = some 12 := by kernel_rfl
theorem ppk42 : true = Tryz.prog.looks [] := by kernel_rfl
theorem ppk43 : ([3, 3, 3].all fun u => !Tryz.prog.wantsStandIn u) = true := by kernel_rfl
theorem ppk44 : false = Rows.portEpochsRow.goesBy Tryz.prog := by kernel_rfl
end Go.Proofs.YtdjjfjnkkgmadaaGreatDoor
