/-
  PortQueues: the closed facts of its card.
-/
import Derived.Test.YtdjjfjnkkgmadaaGreatDoorCards
import Derived.KernelRfl
namespace Go.Proofs.YtdjjfjnkkgmadaaGreatDoor
open Go
theorem pqk40 : Rows.portQueuesRow.wfByText (OpenSpec.ofChange Rows.portQueuesSpec) = true := by kernel_rfl
theorem pqk41 : Tryz.prog.funcNamed "replevin/replevinlaw37.PortQueues" = some 11 := by kernel_rfl
theorem pqk42 : true = Tryz.prog.looks [] := by kernel_rfl
theorem pqk43 : ([54, 117].all fun u => !Tryz.prog.wantsStandIn u) = true := by kernel_rfl
theorem pqk44 : false = Rows.portQueuesRow.goesBy Tryz.prog := by kernel_rfl
end Go.Proofs.YtdjjfjnkkgmadaaGreatDoor
