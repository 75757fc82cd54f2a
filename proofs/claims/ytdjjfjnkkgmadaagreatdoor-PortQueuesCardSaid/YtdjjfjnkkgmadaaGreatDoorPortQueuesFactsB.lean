/-
  PortQueues: the closed facts of its row, one by one: the second part.
-/
import Derived.Test.YtdjjfjnkkgmadaaGreatDoorRows
import Derived.JoinedOf
import Derived.KernelRfl
namespace Go.Proofs.YtdjjfjnkkgmadaaGreatDoor
open Go

theorem pqk24 : (Tryz.prog.stopsHeard) = true := by kernel_rfl
theorem pqk26 : ((Rows.portQueuesRow.lifted == Tryz.prog.liftsFinal)) = true := by kernel_rfl
theorem pqk27 : ((Tryz.prog.make == some Rows.portQueuesRow.make)) = true := by kernel_rfl
theorem pqk28 : ((Rows.portQueuesRow.kinds == (if Rows.portQueuesRow.domain.isEmpty then [] else Tryz.f11.params.toList.map fun t => match Tryz.prog.underlying t with | some (.int k) => some k | _ => none))) = true := by kernel_rfl
theorem pqk29 : ((Rows.portQueuesRow.pinned == Rows.portQueuesRow.pinnedBy)) = true := by kernel_rfl
theorem pqk30 : ((Rows.portQueuesRow.veiled == (Tryz.f11.params.toList ++ Rows.portQueuesSpec.plain.varTypes Tryz.prog ++ Tryz.f11.resultTypes.toList).any (Tryz.prog.veiledRec ·))) = true := by kernel_rfl
theorem pqk31 : (Rows.portQueuesRow.veiledFits Tryz.prog Tryz.f11.params.toList (Tryz.f11.params.toList ++ Rows.portQueuesSpec.plain.varTypes Tryz.prog ++ Tryz.f11.resultTypes.toList)) = true := by kernel_rfl

end Go.Proofs.YtdjjfjnkkgmadaaGreatDoor
