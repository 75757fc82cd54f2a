/-
  PipeOrder: the closed facts of its row, one by one: the first part.
-/
import Derived.Test.YtdjjfjnkkgmadaaGreatDoorRows
import Derived.JoinedOf
import Derived.KernelRfl
namespace Go.Proofs.YtdjjfjnkkgmadaaGreatDoor
open Go

theorem pok0 : (Rows.pipeOrderRow.wf (OpenSpec.ofChange Rows.pipeOrderSpec)) = true := by kernel_rfl
theorem pok1 : (laidOutB Tryz.prog) = true := by kernel_rfl
theorem pok2 : (mapsRowed Tryz.prog) = true := by kernel_rfl
theorem pok3 : (Tryz.f7.params.all (Tryz.prog.readableRec ·)) = true := by kernel_rfl
theorem pok4 : (namedTie Tryz.prog Rows.pipeOrderRow.named Rows.pipeOrderSpec.vars) = true := by kernel_rfl
theorem pok5 : ((Rows.pipeOrderRow.stops == [])) = true := by kernel_rfl
theorem pok6 : ((Tryz.prog.stops == [])) = true := by kernel_rfl
theorem pok7 : ((Rows.pipeOrderRow.knobs == [])) = true := by kernel_rfl
theorem pok8 : ((Tryz.prog.stopKnobs == [])) = true := by kernel_rfl
theorem pok9 : ((Rows.pipeOrderRow.inPlace == Tryz.prog.inPlace 7)) = true := by kernel_rfl
theorem pok10 : ((Rows.pipeOrderRow.unfollowed == Tryz.prog.unfollowed 7)) = true := by kernel_rfl
theorem pok11 : ((Rows.pipeOrderRow.recurses == Tryz.prog.recurses 7)) = true := by kernel_rfl
theorem pok12 : ((Rows.pipeOrderRow.named == Tryz.prog.varsNamed 7)) = true := by kernel_rfl
theorem pok13 : ((Rows.pipeOrderRow.maps == (Tryz.f7.params.toList ++ Rows.pipeOrderSpec.plain.varTypes Tryz.prog).any (Tryz.prog.mapsRec ·))) = true := by kernel_rfl
theorem pok14 : ((Rows.pipeOrderRow.ifaces == (Tryz.f7.params.toList ++ Rows.pipeOrderSpec.plain.varTypes Tryz.prog).any (Tryz.prog.ifacesRec ·))) = true := by kernel_rfl
theorem pok15 : ((Rows.pipeOrderRow.mapsOut == Tryz.prog.mapsAmong Tryz.f7.resultTypes.toList)) = true := by kernel_rfl
theorem pok16 : ((Rows.pipeOrderRow.loops == (Tryz.f7.params.toList ++ Rows.pipeOrderSpec.plain.varTypes Tryz.prog).any (Tryz.prog.loopsFrom ·))) = true := by kernel_rfl
theorem pok17 : ((Rows.pipeOrderRow.wideKeys == (Tryz.f7.params.toList ++ Rows.pipeOrderSpec.plain.varTypes Tryz.prog ++ Tryz.f7.resultTypes.toList).any (Tryz.prog.wideKeysFrom ·))) = true := by kernel_rfl
theorem pok18 : (Rows.pipeOrderSpec.vars.all (Tryz.prog.varReadable ·)) = true := by kernel_rfl
theorem pok19 : (Tryz.f7.resultTypes.all (fun t => Tryz.prog.readableRec t && decide (t < Tryz.prog.types.size))) = true := by kernel_rfl
theorem pok20 : ((Rows.pipeOrderRow.ifacesOut == Tryz.f7.resultTypes.toList.any (Tryz.prog.ifacesRec ·))) = true := by kernel_rfl
theorem pok21 : ((Rows.pipeOrderRow.loopsOut == Tryz.f7.resultTypes.toList.any (Tryz.prog.loopsFrom ·))) = true := by kernel_rfl
theorem pok22 : ((Rows.pipeOrderRow.plainKeys == Tryz.prog.plainKeys)) = true := by kernel_rfl
theorem pok23 : (Rows.pipeOrderRow.shortTexts.isNone) = true := by kernel_rfl

end Go.Proofs.YtdjjfjnkkgmadaaGreatDoor
