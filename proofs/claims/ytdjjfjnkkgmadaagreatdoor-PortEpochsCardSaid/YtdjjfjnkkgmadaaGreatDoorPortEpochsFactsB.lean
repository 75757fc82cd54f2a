/-
  PortEpochs: the closed facts of its row, one by one: the second part.
-/
import Derived.Test.YtdjjfjnkkgmadaaGreatDoorRows
import Derived.JoinedOf
import Derived.KernelRfl
namespace Go.Proofs.YtdjjfjnkkgmadaaGreatDoor
open Go

theorem ppk24 : (Tryz.prog.stopsHeard) = true := by kernel_rfl
theorem ppk26 : ((Rows.portEpochsRow.lifted == Tryz.prog.liftsFinal)) = true := by kernel_rfl
theorem ppk27 : ((Tryz.prog.make == some Rows.portEpochsRow.make)) = true := by kernel_rfl
theorem ppk28 : ((Rows.portEpochsRow.kinds == (if Rows.portEpochsRow.domain.isEmpty then [] else Tryz.f12.params.toList.map fun t => match Tryz.prog.underlying t with | some (.int k) => some k | _ => none))) = true := by kernel_rfl
theorem ppk29 : ((Rows.portEpochsRow.pinned == Rows.portEpochsRow.pinnedBy)) = true := by kernel_rfl
theorem ppk30 : ((Rows.portEpochsRow.veiled == (Tryz.f12.params.toList ++ Rows.portEpochsSpec.plain.varTypes Tryz.prog ++ Tryz.f12.resultTypes.toList).any (Tryz.prog.veiledRec ·))) = true := by kernel_rfl
theorem ppk31 : (Rows.portEpochsRow.veiledFits Tryz.prog Tryz.f12.params.toList (Tryz.f12.params.toList ++ Rows.portEpochsSpec.plain.varTypes Tryz.prog ++ Tryz.f12.resultTypes.toList)) = true := by kernel_rfl

end Go.Proofs.YtdjjfjnkkgmadaaGreatDoor
