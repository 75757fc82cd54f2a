/-
  PortQueues: the closed facts of its row, one by one: the first part.
-/
import Derived.Test.YtdjjfjnkkgmadaaGreatDoorRows
import Derived.JoinedOf
import Derived.KernelRfl
namespace Go.Proofs.YtdjjfjnkkgmadaaGreatDoor
open Go

theorem pqk0 : (Rows.portQueuesRow.wf (OpenSpec.ofChange Rows.portQueuesSpec)) = true := by kernel_rfl
theorem pqk1 : (laidOutB Tryz.prog) = true := by kernel_rfl
theorem pqk2 : (mapsRowed Tryz.prog) = true := by kernel_rfl
theorem pqk3 : (Tryz.f11.params.all (Tryz.prog.readableRec ·)) = true := by kernel_rfl
theorem pqk4 : (namedTie Tryz.prog Rows.portQueuesRow.named Rows.portQueuesSpec.vars) = true := by kernel_rfl
theorem pqk5 : ((Rows.portQueuesRow.stops == [])) = true := by kernel_rfl
theorem pqk6 : ((Tryz.prog.stops == [])) = true := by kernel_rfl
theorem pqk7 : ((Rows.portQueuesRow.knobs == [])) = true := by kernel_rfl
theorem pqk8 : ((Tryz.prog.stopKnobs == [])) = true := by kernel_rfl
theorem pqk9 : ((Rows.portQueuesRow.inPlace == Tryz.prog.inPlace 11)) = true := by kernel_rfl
theorem pqk10 : ((Rows.portQueuesRow.unfollowed == Tryz.prog.unfollowed 11)) = true := by kernel_rfl
theorem pqk11 : ((Rows.portQueuesRow.recurses == Tryz.prog.recurses 11)) = true := by kernel_rfl
theorem pqk12 : ((Rows.portQueuesRow.named == Tryz.prog.varsNamed 11)) = true := by kernel_rfl
theorem pqk13 : ((Rows.portQueuesRow.maps == (Tryz.f11.params.toList ++ Rows.portQueuesSpec.plain.varTypes Tryz.prog).any (Tryz.prog.mapsRec ·))) = true := by kernel_rfl
theorem pqk14 : ((Rows.portQueuesRow.ifaces == (Tryz.f11.params.toList ++ Rows.portQueuesSpec.plain.varTypes Tryz.prog).any (Tryz.prog.ifacesRec ·))) = true := by kernel_rfl
theorem pqk15 : ((Rows.portQueuesRow.mapsOut == Tryz.prog.mapsAmong Tryz.f11.resultTypes.toList)) = true := by kernel_rfl
theorem pqk16 : ((Rows.portQueuesRow.loops == (Tryz.f11.params.toList ++ Rows.portQueuesSpec.plain.varTypes Tryz.prog).any (Tryz.prog.loopsFrom ·))) = true := by kernel_rfl
theorem pqk17 : ((Rows.portQueuesRow.wideKeys == (Tryz.f11.params.toList ++ Rows.portQueuesSpec.plain.varTypes Tryz.prog ++ Tryz.f11.resultTypes.toList).any (Tryz.prog.wideKeysFrom ·))) = true := by kernel_rfl
theorem pqk18 : (Rows.portQueuesSpec.vars.all (Tryz.prog.varReadable ·)) = true := by kernel_rfl
theorem pqk19 : (Tryz.f11.resultTypes.all (fun t => Tryz.prog.readableRec t && decide (t < Tryz.prog.types.size))) = true := by kernel_rfl
theorem pqk20 : ((Rows.portQueuesRow.ifacesOut == Tryz.f11.resultTypes.toList.any (Tryz.prog.ifacesRec ·))) = true := by kernel_rfl
theorem pqk21 : ((Rows.portQueuesRow.loopsOut == Tryz.f11.resultTypes.toList.any (Tryz.prog.loopsFrom ·))) = true := by kernel_rfl
theorem pqk22 : ((Rows.portQueuesRow.plainKeys == Tryz.prog.plainKeys)) = true := by kernel_rfl
theorem pqk23 : (Rows.portQueuesRow.shortTexts.isNone) = true := by kernel_rfl

end Go.Proofs.YtdjjfjnkkgmadaaGreatDoor
