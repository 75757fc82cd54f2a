/-
  PortDecodes: the closed facts of its card.
-/
import Derived.Test.YtdjjfjnkkgmadaaGreatDoorCards
import Derived.KernelRfl
namespace Go.Proofs.YtdjjfjnkkgmadaaGreatDoor
open Go
theorem pdk40 : Rows.portDecodesRow.wfByText (OpenSpec.ofChange Rows.portDecodesSpec) = true := by kernel_rfl
theorem pdk41 : Tryz.prog.funcNamed "replevin/replevinlaw37.PortDecodes" = some 6 := by kernel_rfl
theorem pdk42 : true = Tryz.prog.looks [] := by kernel_rfl
theorem pdk43 : ([9].all fun u => !Tryz.prog.wantsStandIn u) = true := by kernel_rfl
theorem pdk44 : false = Rows.portDecodesRow.goesBy Tryz.prog := by kernel_rfl
end Go.Proofs.YtdjjfjnkkgmadaaGreatDoor
