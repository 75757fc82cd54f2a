/-
  PipeOrder: the closed facts of its card.
-/
import Derived.Test.YtdjjfjnkkgmadaaGreatDoorCards
import Derived.KernelRfl
namespace Go.Proofs.YtdjjfjnkkgmadaaGreatDoor
open Go
theorem pok40 : Rows.pipeOrderRow.wfByText (OpenSpec.ofChange Rows.pipeOrderSpec) = true := by kernel_rfl
theorem pok41 : Tryz.prog.funcNamed "replevin/replevinlaw32.PipeOrder" = some 7 := by kernel_rfl
theorem pok42 : true = Tryz.prog.looks [] := by kernel_rfl
theorem pok43 : ([66].all fun u => !Tryz.prog.wantsStandIn u) = true := by kernel_rfl
theorem pok44 : false = Rows.pipeOrderRow.goesBy Tryz.prog := by kernel_rfl
end Go.Proofs.YtdjjfjnkkgmadaaGreatDoor
