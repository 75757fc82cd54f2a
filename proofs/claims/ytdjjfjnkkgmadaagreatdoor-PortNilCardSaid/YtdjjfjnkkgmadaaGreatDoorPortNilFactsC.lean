/-
  PortNil: the closed facts of its card.
-/
import Derived.Test.YtdjjfjnkkgmadaaGreatDoorCards
import Derived.KernelRfl
namespace Go.Proofs.YtdjjfjnkkgmadaaGreatDoor
open Go
theorem pnk40 : Rows.portNilRow.wfByText (OpenSpec.ofChange Rows.portNilSpec) = true := by kernel_rfl
theorem pnk41 : Tryz.prog.funcNamed "replevin/replevinlaw37.PortNil" = some 13 := by kernel_rfl
theorem pnk42 : true = Tryz.prog.looks [] := by kernel_rfl
theorem pnk43 : ([135, 9].all fun u => !Tryz.prog.wantsStandIn u) = true := by kernel_rfl
theorem pnk44 : false = Rows.portNilRow.goesBy Tryz.prog := by kernel_rfl
end Go.Proofs.YtdjjfjnkkgmadaaGreatDoor
