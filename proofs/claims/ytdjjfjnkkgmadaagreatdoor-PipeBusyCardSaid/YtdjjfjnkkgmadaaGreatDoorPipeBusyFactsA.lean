/-
  PipeBusy: the closed facts of its row, one by one: the first part.
-/
import Derived.Test.YtdjjfjnkkgmadaaGreatDoorRows
import Derived.JoinedOf
import Derived.KernelRfl
namespace Go.Proofs.YtdjjfjnkkgmadaaGreatDoor
open Go

theorem pbk0 : (Rows.pipeBusyRow.wf (OpenSpec.ofChange Rows.pipeBusySpec)) = true := by kernel_rfl
theorem pbk1 : (laidOutB Tryz.prog) = true := by kernel_rfl
theorem pbk2 : (mapsRowed Tryz.prog) = true := by kernel_rfl
theorem pbk3 : (Tryz.f4.params.all (Tryz.prog.readableRec ·)) = true := by kernel_rfl
theorem pbk4 : (namedTie Tryz.prog Rows.pipeBusyRow.named Rows.pipeBusySpec.vars) = true := by kernel_rfl
theorem pbk5 : ((Rows.pipeBusyRow.stops == [])) = true := by kernel_rfl
theorem pbk6 : ((Tryz.prog.stops == [])) = true := by kernel_rfl
theorem pbk7 : ((Rows.pipeBusyRow.knobs == [])) = true := by kernel_rfl
theorem pbk8 : ((Tryz.prog.stopKnobs == [])) = true := by kernel_rfl
theorem pbk9 : ((Rows.pipeBusyRow.inPlace == Tryz.prog.inPlace 4)) = true := by kernel_rfl
theorem pbk10 : ((Rows.pipeBusyRow.unfollowed == Tryz.prog.unfollowed 4)) = true := by kernel_rfl
theorem pbk11 : ((Rows.pipeBusyRow.recurses == Tryz.prog.recurses 4)) = true := by kernel_rfl
theorem pbk12 : ((Rows.pipeBusyRow.named == Tryz.prog.varsNamed 4)) = true := by kernel_rfl
theorem pbk13 : ((Rows.pipeBusyRow.maps == (Tryz.f4.params.toList ++ Rows.pipeBusySpec.plain.varTypes Tryz.prog).any (Tryz.prog.mapsRec ·))) = true := by kernel_rfl
theorem pbk14 : ((Rows.pipeBusyRow.ifaces == (Tryz.f4.params.toList ++ Rows.pipeBusySpec.plain.varTypes Tryz.prog).any (Tryz.prog.ifacesRec ·))) = true := by kernel_rfl
theorem pbk15 : ((Rows.pipeBusyRow.mapsOut == Tryz.prog.mapsAmong Tryz.f4.resultTypes.toList)) = true := by kernel_rfl
theorem pbk16 : ((Rows.pipeBusyRow.loops == (Tryz.f4.params.toList ++ Rows.pipeBusySpec.plain.varTypes Tryz.prog).any (Tryz.prog.loopsFrom ·))) = true := by kernel_rfl
theorem pbk17 : ((Rows.pipeBusyRow.wideKeys == (Tryz.f4.params.toList ++ Rows.pipeBusySpec.plain.varTypes Tryz.prog ++ Tryz.f4.resultTypes.toList).any (Tryz.prog.wideKeysFrom ·))) = true := by kernel_rfl
theorem pbk18 : (Rows.pipeBusySpec.vars.all (Tryz.prog.varReadable ·)) = true := by kernel_rfl
theorem pbk19 : (Tryz.f4.resultTypes.all (fun t => Tryz.prog.readableRec t && decide (t < Tryz.prog.types.size))) = true := by kernel_rfl
theorem pbk20 : ((Rows.pipeBusyRow.ifacesOut == Tryz.f4.resultTypes.toList.any (Tryz.prog.ifacesRec ·))) = true := by kernel_rfl
theorem pbk21 : ((Rows.pipeBusyRow.loopsOut == Tryz.f4.resultTypes.toList.any (Tryz.prog.loopsFrom ·))) = true := by kernel_rfl
theorem pbk22 : ((Rows.pipeBusyRow.plainKeys == Tryz.prog.plainKeys)) = true := by kernel_rfl
theorem pbk23 : (Rows.pipeBusyRow.shortTexts.isNone) = true := by kernel_rfl

end Go.Proofs.YtdjjfjnkkgmadaaGreatDoor
