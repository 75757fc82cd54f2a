/-
  PortEncodes: the closed facts of its card.
-/
import Derived.Test.YtdjjfjnkkgmadaaGreatDoorCards
import Derived.KernelRfl
namespace Go.Proofs.YtdjjfjnkkgmadaaGreatDoor
open Go
theorem pck40 : Rows.portEncodesRow.wfByText (OpenSpec.ofChange Rows.portEncodesSpec) = true := by kernel_rfl
theorem pck41 : Tryz.prog.funcNamed "replevin/replevinlaw37.PortEncodes" = some 5 := by kernel_rfl
theorem pck42 : true = Tryz.prog.looks [] := by kernel_rfl
theorem pck43 : ([56].all fun u => !Tryz.prog.wantsStandIn u) = true := by kernel_rfl
theorem pck44 : false = Rows.portEncodesRow.goesBy Tryz.prog := by kernel_rfl
end Go.Proofs.YtdjjfjnkkgmadaaGreatDoor
