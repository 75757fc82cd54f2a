/-
  PipeOrder: the closed facts of its row, one by one: the second part.
-/
import Derived.Test.YtdjjfjnkkgmadaaGreatDoorRows
import Derived.JoinedOf
import Derived.KernelRfl
namespace Go.Proofs.YtdjjfjnkkgmadaaGreatDoor
open Go

theorem pok24 : (Tryz.prog.stopsHeard) = true := by kernel_rfl
theorem pok26 : ((Rows.pipeOrderRow.lifted == Tryz.prog.liftsFinal)) = true := by kernel_rfl
theorem pok27 : ((Tryz.prog.make == some Rows.pipeOrderRow.make)) = true := by kernel_rfl
theorem pok28 : ((Rows.pipeOrderRow.kinds == (if Rows.pipeOrderRow.domain.isEmpty then [] else Tryz.f7.params.toList.map fun t => match Tryz.prog.underlying t with | some (.int k) => some k | _ => none))) = true := by kernel_rfl
theorem pok29 : ((Rows.pipeOrderRow.pinned == Rows.pipeOrderRow.pinnedBy)) = true := by kernel_rfl
theorem pok30 : ((Rows.pipeOrderRow.veiled == (Tryz.f7.params.toList ++ Rows.pipeOrderSpec.plain.varTypes Tryz.prog ++ Tryz.f7.resultTypes.toList).any (Tryz.prog.veiledRec ·))) = true := by kernel_rfl
theorem pok31 : (Rows.pipeOrderRow.veiledFits Tryz.prog Tryz.f7.params.toList (Tryz.f7.params.toList ++ Rows.pipeOrderSpec.plain.varTypes Tryz.prog ++ Tryz.f7.resultTypes.toList)) = true := by kernel_rfl

end Go.Proofs.YtdjjfjnkkgmadaaGreatDoor
