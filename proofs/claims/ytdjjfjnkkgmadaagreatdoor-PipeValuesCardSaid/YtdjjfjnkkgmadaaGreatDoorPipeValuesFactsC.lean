/-
  PipeValues: the closed facts of its card.
-/
import Derived.Test.YtdjjfjnkkgmadaaGreatDoorCards
import Derived.KernelRfl
namespace Go.Proofs.YtdjjfjnkkgmadaaGreatDoor
open Go
theorem pvk40 : Rows.pipeValuesRow.wfByText (OpenSpec.ofChange Rows.pipeValuesSpec) = true := by kernel_rfl
theorem pvk41 : Tryz.prog.funcNamed "replevin/replevinlaw32.PipeValues" = some 3 := by kernel_rfl
theorem pvk42 : true = Tryz.prog.looks [] := by kernel_rfl
theorem pvk43 : ([23, 9].all fun u => !Tryz.prog.wantsStandIn u) = true := by kernel_rfl
theorem pvk44 : false = Rows.pipeValuesRow.goesBy Tryz.prog := by kernel_rfl
end Go.Proofs.YtdjjfjnkkgmadaaGreatDoor
