/-
  PortNil: the closed facts of its row, one by one: the second part.
-/
import Derived.Test.YtdjjfjnkkgmadaaGreatDoorRows
import Derived.JoinedOf
import Derived.KernelRfl
namespace Go.Proofs.YtdjjfjnkkgmadaaGreatDoor
open Go

theorem pnk24 : (Tryz.prog.stopsHeard) = true := by kernel_rfl
theorem pnk26 : ((Rows.portNilRow.lifted == Tryz.prog.liftsFinal)) = true := by kernel_rfl
theorem pnk27 : ((Tryz.prog.make == some Rows.portNilRow.make)) = true := by kernel_rfl
theorem pnk28 : ((Rows.portNilRow.kinds == (if Rows.portNilRow.domain.isEmpty then [] else Tryz.f13.params.toList.map fun t => match Tryz.prog.underlying t with | some (.int k) => some k | _ => none))) = true := by kernel_rfl
theorem pnk29 : ((Rows.portNilRow.pinned == Rows.portNilRow.pinnedBy)) = true := by kernel_rfl
theorem pnk30 : ((Rows.portNilRow.veiled == (Tryz.f13.params.toList ++ Rows.portNilSpec.plain.varTypes Tryz.prog ++ Tryz.f13.resultTypes.toList).any (Tryz.prog.veiledRec ·))) = true := by kernel_rfl
theorem pnk31 : (Rows.portNilRow.veiledFits Tryz.prog Tryz.f13.params.toList (Tryz.f13.params.toList ++ Rows.portNilSpec.plain.varTypes Tryz.prog ++ Tryz.f13.resultTypes.toList)) = true := by kernel_rfl

end Go.Proofs.YtdjjfjnkkgmadaaGreatDoor
