/-
  PipeBusy: the closed facts of its card.
-/
import Derived.Test.YtdjjfjnkkgmadaaGreatDoorCards
import Derived.KernelRfl
namespace Go.Proofs.YtdjjfjnkkgmadaaGreatDoor
open Go
theorem pbk40 : Rows.pipeBusyRow.wfByText (OpenSpec.ofChange Rows.pipeBusySpec) = true := by kernel_rfl
theorem pbk41 : Tryz.prog.funcNamed "replevin/replevinlaw32.PipeBusy" = some 4 := by kernel_rfl
theorem pbk42 : true = Tryz.prog.looks [] := by kernel_rfl
theorem pbk43 : ([9, 39].all fun u => !Tryz.prog.wantsStandIn u) = true := by kernel_rfl
theorem pbk44 : false = Rows.pipeBusyRow.goesBy Tryz.prog := by kernel_rfl
end Go.Proofs.YtdjjfjnkkgmadaaGreatDoor
