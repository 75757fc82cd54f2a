/-
  PipeValues: the closed facts of its row, one by one: the second part.
-/
import Derived.Test.YtdjjfjnkkgmadaaGreatDoorRows
import Derived.JoinedOf
import Derived.KernelRfl
namespace Go.Proofs.YtdjjfjnkkgmadaaGreatDoor
open Go

theorem pvk24 : (Tryz.prog.stopsHeard) = true := by kernel_rfl
theorem pvk26 : ((Rows.pipeValuesRow.lifted == Tryz.prog.liftsFinal)) = true := by kernel_rfl
theorem pvk27 : ((Tryz.prog.make == some Rows.pipeValuesRow.make)) = true := by kernel_rfl
theorem pvk28 : ((Rows.pipeValuesRow.kinds == (if Rows.pipeValuesRow.domain.isEmpty then [] else Tryz.f3.params.toList.map fun t => match Tryz.prog.underlying t with | some (.int k) => some k | _ => none))) = true := by kernel_rfl
theorem pvk29 : ((Rows.pipeValuesRow.pinned == Rows.pipeValuesRow.pinnedBy)) = true := by kernel_rfl
theorem pvk30 : ((Rows.pipeValuesRow.veiled == (Tryz.f3.params.toList ++ Rows.pipeValuesSpec.plain.varTypes Tryz.prog ++ Tryz.f3.resultTypes.toList).any (Tryz.prog.veiledRec ·))) = true := by kernel_rfl
theorem pvk31 : (Rows.pipeValuesRow.veiledFits Tryz.prog Tryz.f3.params.toList (Tryz.f3.params.toList ++ Rows.pipeValuesSpec.plain.varTypes Tryz.prog ++ Tryz.f3.resultTypes.toList)) = true := by kernel_rfl

end Go.Proofs.YtdjjfjnkkgmadaaGreatDoor
