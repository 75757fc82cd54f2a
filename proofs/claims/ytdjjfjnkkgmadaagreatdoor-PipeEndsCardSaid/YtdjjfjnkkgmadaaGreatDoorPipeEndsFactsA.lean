/-
  PipeEnds: the closed facts of its row, one by one: the first part.
-/
import Derived.Test.YtdjjfjnkkgmadaaGreatDoorRows
import Derived.JoinedOf
import Derived.KernelRfl
namespace Go.Proofs.YtdjjfjnkkgmadaaGreatDoor
open Go

theorem pek0 : (Rows.pipeEndsRow.wf (OpenSpec.ofChange Rows.pipeEndsSpec)) = true := by kernel_rfl
theorem pek1 : (laidOutB Tryz.prog) = true := by kernel_rfl
theorem pek2 : (mapsRowed Tryz.prog) = true := by kernel_rfl
theorem pek3 : (Tryz.f9.params.all (Tryz.prog.readableRec ·)) = true := by kernel_rfl
theorem pek4 : (namedTie Tryz.prog Rows.pipeEndsRow.named Rows.pipeEndsSpec.vars) = true := by kernel_rfl
theorem pek5 : ((Rows.pipeEndsRow.stops == [])) = true := by kernel_rfl
theorem pek6 : ((Tryz.prog.stops == [])) = true := by kernel_rfl
theorem pek7 : ((Rows.pipeEndsRow.knobs == [])) = true := by kernel_rfl
theorem pek8 : ((Tryz.prog.stopKnobs == [])) = true := by kernel_rfl
theorem pek9 : ((Rows.pipeEndsRow.inPlace == Tryz.prog.inPlace 9)) = true := by kernel_rfl
theorem pek10 : ((Rows.pipeEndsRow.unfollowed == Tryz.prog.unfollowed 9)) = true := by kernel_rfl
theorem pek11 : ((Rows.pipeEndsRow.recurses == Tryz.prog.recurses 9)) = true := by kernel_rfl
theorem pek12 : ((Rows.pipeEndsRow.named == Tryz.prog.varsNamed 9)) = true := by kernel_rfl
theorem pek13 : ((Rows.pipeEndsRow.maps == (Tryz.f9.params.toList ++ Rows.pipeEndsSpec.plain.varTypes Tryz.prog).any (Tryz.prog.mapsRec ·))) = true := by kernel_rfl
theorem pek14 : ((Rows.pipeEndsRow.ifaces == (Tryz.f9.params.toList ++ Rows.pipeEndsSpec.plain.varTypes Tryz.prog).any (Tryz.prog.ifacesRec ·))) = true := by kernel_rfl
theorem pek15 : ((Rows.pipeEndsRow.mapsOut == Tryz.prog.mapsAmong Tryz.f9.resultTypes.toList)) = true := by kernel_rfl
theorem pek16 : ((Rows.pipeEndsRow.loops == (Tryz.f9.params.toList ++ Rows.pipeEndsSpec.plain.varTypes Tryz.prog).any (Tryz.prog.loopsFrom ·))) = true := by kernel_rfl
theorem pek17 : ((Rows.pipeEndsRow.wideKeys == (Tryz.f9.params.toList ++ Rows.pipeEndsSpec.plain.varTypes Tryz.prog ++ Tryz.f9.resultTypes.toList).any (Tryz.prog.wideKeysFrom ·))) = true := by kernel_rfl
theorem pek18 : (Rows.pipeEndsSpec.vars.all (Tryz.prog.varReadable ·)) = true := by kernel_rfl
theorem pek19 : (Tryz.f9.resultTypes.all (fun t => Tryz.prog.readableRec t && decide (t < Tryz.prog.types.size))) = true := by kernel_rfl
theorem pek20 : ((Rows.pipeEndsRow.ifacesOut == Tryz.f9.resultTypes.toList.any (Tryz.prog.ifacesRec ·))) = true := by kernel_rfl
theorem pek21 : ((Rows.pipeEndsRow.loopsOut == Tryz.f9.resultTypes.toList.any (Tryz.prog.loopsFrom ·))) = true := by kernel_rfl
theorem pek22 : ((Rows.pipeEndsRow.plainKeys == Tryz.prog.plainKeys)) = true := by kernel_rfl
theorem pek23 : (Rows.pipeEndsRow.shortTexts.isNone) = true := by kernel_rfl

end Go.Proofs.YtdjjfjnkkgmadaaGreatDoor
