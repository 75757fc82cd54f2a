/-
  PortEncodes: the closed facts of its row, one by one: the second part.
-/
import Derived.Test.YtdjjfjnkkgmadaaGreatDoorRows
import Derived.JoinedOf
import Derived.KernelRfl
namespace Go.Proofs.YtdjjfjnkkgmadaaGreatDoor
open Go

theorem pck24 : (Tryz.prog.stopsHeard) = true := by kernel_rfl
theorem pck26 : ((Rows.portEncodesRow.lifted == Tryz.prog.liftsFinal)) = true := by kernel_rfl
theorem pck27 : ((Tryz.prog.make == some Rows.portEncodesRow.make)) = true := by kernel_rfl
theorem pck28 : ((Rows.portEncodesRow.kinds == (if Rows.portEncodesRow.domain.isEmpty then [] else Tryz.f5.params.toList.map fun t => match Tryz.prog.underlying t with | some (.int k) => some k | _ => none))) = true := by kernel_rfl
theorem pck29 : ((Rows.portEncodesRow.pinned == Rows.portEncodesRow.pinnedBy)) = true := by kernel_rfl
theorem pck30 : ((Rows.portEncodesRow.veiled == (Tryz.f5.params.toList ++ Rows.portEncodesSpec.plain.varTypes Tryz.prog ++ Tryz.f5.resultTypes.toList).any (Tryz.prog.veiledRec ·))) = true := by kernel_rfl
theorem pck31 : (Rows.portEncodesRow.veiledFits Tryz.prog Tryz.f5.params.toList (Tryz.f5.params.toList ++ Rows.portEncodesSpec.plain.varTypes Tryz.prog ++ Tryz.f5.resultTypes.toList)) = true := by kernel_rfl

end Go.Proofs.YtdjjfjnkkgmadaaGreatDoor
