/-
  PipeEnds: the closed facts of its row, one by one: the second part.
-/
import Derived.Test.YtdjjfjnkkgmadaaGreatDoorRows
import Derived.JoinedOf
import Derived.KernelRfl
namespace Go.Proofs.YtdjjfjnkkgmadaaGreatDoor
open Go

theorem pek24 : (Tryz.prog.stopsHeard) = true := by kernel_rfl
theorem pek26 : ((Rows.pipeEndsRow.lifted == Tryz.prog.liftsFinal)) = true := by kernel_rfl
theorem pek27 : ((Tryz.prog.make == some Rows.pipeEndsRow.make)) = true := by kernel_rfl
theorem pek28 : ((Rows.pipeEndsRow.kinds == (if Rows.pipeEndsRow.domain.isEmpty then [] else Tryz.f9.params.toList.map fun t => match Tryz.prog.underlying t with | some (.int k) => some k | _ => none))) = true := by kernel_rfl
theorem pek29 : ((Rows.pipeEndsRow.pinned == Rows.pipeEndsRow.pinnedBy)) = true := by kernel_rfl
theorem pek30 : ((Rows.pipeEndsRow.veiled == (Tryz.f9.params.toList ++ Rows.pipeEndsSpec.plain.varTypes Tryz.prog ++ Tryz.f9.resultTypes.toList).any (Tryz.prog.veiledRec ·))) = true := by kernel_rfl
theorem pek31 : (Rows.pipeEndsRow.veiledFits Tryz.prog Tryz.f9.params.toList (Tryz.f9.params.toList ++ Rows.pipeEndsSpec.plain.varTypes Tryz.prog ++ Tryz.f9.resultTypes.toList)) = true := by kernel_rfl

end Go.Proofs.YtdjjfjnkkgmadaaGreatDoor
