/-
  PipeValues: the closed facts of its row, one by one: the first part.
-/
import Derived.Test.YtdjjfjnkkgmadaaGreatDoorRows
import Derived.JoinedOf
import Derived.KernelRfl
namespace Go.Proofs.YtdjjfjnkkgmadaaGreatDoor
open Go

theorem pvk0 : (Rows.pipeValuesRow.wf (OpenSpec.ofChange Rows.pipeValuesSpec)) = true := by kernel_rfl
theorem pvk1 : (laidOutB Tryz.prog) = true := by kernel_rfl
theorem pvk2 : (mapsRowed Tryz.prog) = true := by kernel_rfl
theorem pvk3 : (Tryz.f3.params.all (Tryz.prog.readableRec ·)) = true := by kernel_rfl
theorem pvk4 : (namedTie Tryz.prog Rows.pipeValuesRow.named Rows.pipeValuesSpec.vars) = true := by kernel_rfl
theorem pvk5 : ((Rows.pipeValuesRow.stops == [])) = true := by kernel_rfl
theorem pvk6 : ((Tryz.prog.stops == [])) = true := by kernel_rfl
theorem pvk7 : ((Rows.pipeValuesRow.knobs == [])) = true := by kernel_rfl
theorem pvk8 : ((Tryz.prog.stopKnobs == [])) = true := by kernel_rfl
theorem pvk9 : ((Rows.pipeValuesRow.inPlace == Tryz.prog.inPlace 3)) = true := by kernel_rfl
theorem pvk10 : ((Rows.pipeValuesRow.unfollowed == Tryz.prog.unfollowed 3)) = true := by kernel_rfl
theorem pvk11 : ((Rows.pipeValuesRow.recurses == Tryz.prog.recurses 3)) = true := by kernel_rfl
theorem pvk12 : ((Rows.pipeValuesRow.named == Tryz.prog.varsNamed 3)) = true := by kernel_rfl
theorem pvk13 : ((Rows.pipeValuesRow.maps == (Tryz.f3.params.toList ++ Rows.pipeValuesSpec.plain.varTypes Tryz.prog).any (Tryz.prog.mapsRec ·))) = true := by kernel_rfl
theorem pvk14 : ((Rows.pipeValuesRow.ifaces == (Tryz.f3.params.toList ++ Rows.pipeValuesSpec.plain.varTypes Tryz.prog).any (Tryz.prog.ifacesRec ·))) = true := by kernel_rfl
theorem pvk15 : ((Rows.pipeValuesRow.mapsOut == Tryz.prog.mapsAmong Tryz.f3.resultTypes.toList)) = true := by kernel_rfl
theorem pvk16 : ((Rows.pipeValuesRow.loops == (Tryz.f3.params.toList ++ Rows.pipeValuesSpec.plain.varTypes Tryz.prog).any (Tryz.prog.loopsFrom ·))) = true := by kernel_rfl
theorem pvk17 : ((Rows.pipeValuesRow.wideKeys == (Tryz.f3.params.toList ++ Rows.pipeValuesSpec.plain.varTypes Tryz.prog ++ Tryz.f3.resultTypes.toList).any (Tryz.prog.wideKeysFrom ·))) = true := by kernel_rfl
theorem pvk18 : (Rows.pipeValuesSpec.vars.all (Tryz.prog.varReadable ·)) = true := by kernel_rfl
theorem pvk19 : (Tryz.f3.resultTypes.all (fun t => Tryz.prog.readableRec t && decide (t < Tryz.prog.types.size))) = true := by kernel_rfl
theorem pvk20 : ((Rows.pipeValuesRow.ifacesOut == Tryz.f3.resultTypes.toList.any (Tryz.prog.ifacesRec ·))) = true := by kernel_rfl
theorem pvk21 : ((Rows.pipeValuesRow.loopsOut == Tryz.f3.resultTypes.toList.any (Tryz.prog.loopsFrom ·))) = true := by kernel_rfl
theorem pvk22 : ((Rows.pipeValuesRow.plainKeys == Tryz.prog.plainKeys)) = true := by kernel_rfl
theorem pvk23 : (Rows.pipeValuesRow.shortTexts.isNone) = true := by kernel_rfl

end Go.Proofs.YtdjjfjnkkgmadaaGreatDoor
