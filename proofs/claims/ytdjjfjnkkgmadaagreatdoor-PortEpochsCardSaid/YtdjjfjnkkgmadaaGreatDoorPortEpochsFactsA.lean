/-
  PortEpochs: the closed facts of its row, one by one: the first part.
-/
import Derived.Test.YtdjjfjnkkgmadaaGreatDoorRows
import Derived.JoinedOf
import Derived.KernelRfl
namespace Go.Proofs.YtdjjfjnkkgmadaaGreatDoor
open Go

theorem ppk0 : (Rows.portEpochsRow.wf (OpenSpec.ofChange Rows.portEpochsSpec)) = true := by kernel_rfl
theorem ppk1 : (laidOutB Tryz.prog) = true := by kernel_rfl
theorem ppk2 : (mapsRowed Tryz.prog) = true := by kernel_rfl
theorem ppk3 : (Tryz.f12.params.all (Tryz.prog.readableRec ·)) = true := by kernel_rfl
theorem ppk4 : (namedTie Tryz.prog Rows.portEpochsRow.named Rows.portEpochsSpec.vars) = true := by kernel_rfl
theorem ppk5 : ((Rows.portEpochsRow.stops == [])) = true := by kernel_rfl
theorem ppk6 : ((Tryz.prog.stops == [])) = true := by kernel_rfl
theorem ppk7 : ((Rows.portEpochsRow.knobs == [])) = true := by kernel_rfl
theorem ppk8 : ((Tryz.prog.stopKnobs == [])) = true := by kernel_rfl
theorem ppk9 : ((Rows.portEpochsRow.inPlace == Tryz.prog.inPlace 12)) = true := by kernel_rfl
theorem ppk10 : ((Rows.portEpochsRow.unfollowed == Tryz.prog.unfollowed 12)) = true := by kernel_rfl
theorem ppk11 : ((Rows.portEpochsRow.recurses == Tryz.prog.recurses 12)) = true := by kernel_rfl
theorem ppk12 : ((Rows.portEpochsRow.named == Tryz.prog.varsNamed 12)) = true := by kernel_rfl
theorem ppk13 : ((Rows.portEpochsRow.maps == (Tryz.f12.params.toList ++ Rows.portEpochsSpec.plain.varTypes Tryz.prog).any (Tryz.prog.mapsRec ·))) = true := by kernel_rfl
theorem ppk14 : ((Rows.portEpochsRow.ifaces == (Tryz.f12.params.toList ++ Rows.portEpochsSpec.plain.varTypes Tryz.prog).any (Tryz.prog.ifacesRec ·))) = true := by kernel_rfl
theorem ppk15 : ((Rows.portEpochsRow.mapsOut == Tryz.prog.mapsAmong Tryz.f12.resultTypes.toList)) = true := by kernel_rfl
theorem ppk16 : ((Rows.portEpochsRow.loops == (Tryz.f12.params.toList ++ Rows.portEpochsSpec.plain.varTypes Tryz.prog).any (Tryz.prog.loopsFrom ·))) = true := by kernel_rfl
theorem ppk17 : ((Rows.portEpochsRow.wideKeys == (Tryz.f12.params.toList ++ Rows.portEpochsSpec.plain.varTypes Tryz.prog ++ Tryz.f12.resultTypes.toList).any (Tryz.prog.wideKeysFrom ·))) = true := by kernel_rfl
theorem ppk18 : (Rows.portEpochsSpec.vars.all (Tryz.prog.varReadable ·)) = true := by kernel_rfl
theorem ppk19 : (Tryz.f12.resultTypes.all (fun t => Tryz.prog.readableRec t && decide (t < Tryz.prog.types.size))) = true := by kernel_rfl
theorem ppk20 : ((Rows.portEpochsRow.ifacesOut == Tryz.f12.resultTypes.toList.any (Tryz.prog.ifacesRec ·))) = true := by kernel_rfl
theorem ppk21 : ((Rows.portEpochsRow.loopsOut == Tryz.f12.resultTypes.toList.any (Tryz.prog.loopsFrom ·))) = true := by kernel_rfl
theorem ppk22 : ((Rows.portEpochsRow.plainKeys == Tryz.prog.plainKeys)) = true := by kernel_rfl
theorem ppk23 : (Rows.portEpochsRow.shortTexts.isNone) = true := by kernel_rfl

end Go.Proofs.YtdjjfjnkkgmadaaGreatDoor
