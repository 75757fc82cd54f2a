/-
  PipeEnds: the closed facts of its card.
-/
import Derived.Test.YtdjjfjnkkgmadaaGreatDoorCards
import Derived.KernelRfl
namespace Go.Proofs.YtdjjfjnkkgmadaaGreatDoor
open Go
theorem pek40 : Rows.pipeEndsRow.wfByText (OpenSpec.ofChange Rows.pipeEndsSpec) = true := by kernel_rfl
theorem pek41 : Tryz.prog.funcNamed "replevin/replevinlaw32.PipeEnds" = some 9 := by kernel_rfl
theorem pek42 : true = Tryz.prog.looks [] := by kernel_rfl
theorem pek43 : ([4, 5].all fun u => !Tryz.prog.wantsStandIn u) = true := by kernel_rfl
theorem pek44 : false = Rows.pipeEndsRow.goesBy Tryz.prog := by kernel_rfl
end Go.Proofs.YtdjjfjnkkgmadaaGreatDoor
