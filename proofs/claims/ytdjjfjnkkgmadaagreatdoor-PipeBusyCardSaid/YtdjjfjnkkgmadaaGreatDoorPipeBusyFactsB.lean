/-
  PipeBusy: the closed facts of its row, one by one: the second part.
-/
import Derived.Test.YtdjjfjnkkgmadaaGreatDoorRows
import Derived.JoinedOf
import Derived.KernelRfl
namespace Go.Proofs.YtdjjfjnkkgmadaaGreatDoor
open Go

theorem pbk24 : (Tryz.prog.stopsHeard) = true := by kernel_rfl
theorem pbk26 : ((Rows.pipeBusyRow.lifted == Tryz.prog.liftsFinal)) = true := by kernel_rfl
theorem pbk27 : ((Tryz.prog.make == some Rows.pipeBusyRow.make)) = true := by kernel_rfl
theorem pbk28 : ((Rows.pipeBusyRow.kinds == (if Rows.pipeBusyRow.domain.isEmpty then [] else Tryz.f4.params.toList.map fun t => match Tryz.prog.underlying t with | some (.int k) => some k | _ => none))) = true := by kernel_rfl
theorem pbk29 : ((Rows.pipeBusyRow.pinned == Rows.pipeBusyRow.pinnedBy)) = true := by kernel_rfl
theorem pbk30 : ((Rows.pipeBusyRow.veiled == (Tryz.f4.params.toList ++ Rows.pipeBusySpec.plain.varTypes Tryz.prog ++ Tryz.f4.resultTypes.toList).any (Tryz.prog.veiledRec ·))) = true := by kernel_rfl
theorem pbk31 : (Rows.pipeBusyRow.veiledFits Tryz.prog Tryz.f4.params.toList (Tryz.f4.params.toList ++ Rows.pipeBusySpec.plain.varTypes Tryz.prog ++ Tryz.f4.resultTypes.toList)) = true := by kernel_rfl

end Go.Proofs.YtdjjfjnkkgmadaaGreatDoor
