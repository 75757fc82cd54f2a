/-
  PortDecodes: the closed facts of its row, one by one: the second part.
-/
import Derived.Test.YtdjjfjnkkgmadaaGreatDoorRows
import Derived.JoinedOf
import Derived.KernelRfl
namespace Go.Proofs.YtdjjfjnkkgmadaaGreatDoor
open Go

theorem pdk24 : (Tryz.prog.stopsHeard) = true := by kernel_rfl
theorem pdk26 : ((Rows.portDecodesRow.lifted == Tryz.prog.liftsFinal)) = true := by kernel_rfl
theorem pdk27 : ((Tryz.prog.make == some Rows.portDecodesRow.make)) = true := by kernel_rfl
theorem pdk28 : ((Rows.portDecodesRow.kinds == (if Rows.portDecodesRow.domain.isEmpty then [] else Tryz.f6.params.toList.map fun t => match Tryz.prog.underlying t with | some (.int k) => some k | _ => none))) = true := by kernel_rfl
theorem pdk29 : ((Rows.portDecodesRow.pinned == Rows.portDecodesRow.pinnedBy)) = true := by kernel_rfl
theorem pdk30 : ((Rows.portDecodesRow.veiled == (Tryz.f6.params.toList ++ Rows.portDecodesSpec.plain.varTypes Tryz.prog ++ Tryz.f6.resultTypes.toList).any (Tryz.prog.veiledRec ·))) = true := by kernel_rfl
theorem pdk31 : (Rows.portDecodesRow.veiledFits Tryz.prog Tryz.f6.params.toList (Tryz.f6.params.toList ++ Rows.portDecodesSpec.plain.varTypes Tryz.prog ++ Tryz.f6.resultTypes.toList)) = true := by kernel_rfl

end Go.Proofs.YtdjjfjnkkgmadaaGreatDoor
