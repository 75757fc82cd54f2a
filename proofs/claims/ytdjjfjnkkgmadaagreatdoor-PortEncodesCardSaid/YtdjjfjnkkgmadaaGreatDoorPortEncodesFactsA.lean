/-
  PortEncodes: the closed facts of its row, one by one: the first part.
-/
import Derived.Test.YtdjjfjnkkgmadaaGreatDoorRows
import Derived.JoinedOf
import Derived.KernelRfl
namespace Go.Proofs.YtdjjfjnkkgmadaaGreatDoor
open Go

theorem pck0 : (Rows.portEncodesRow.wf (OpenSpec.ofChange Rows.portEncodesSpec)) = true := by kernel_rfl
theorem pck1 : (laidOutB Tryz.prog) = true := by kernel_rfl
theorem pck2 : (mapsRowed Tryz.prog) = true := by kernel_rfl
theorem pck3 : (Tryz.f5.params.all (Tryz.prog.readableRec ·)) = true := by kernel_rfl
theorem pck4 : (namedTie Tryz.prog Rows.portEncodesRow.named Rows.portEncodesSpec.vars) = true := by kernel_rfl
theorem pck5 : ((Rows.portEncodesRow.stops == [])) = true := by kernel_rfl
theorem pck6 : ((Tryz.prog.stops == [])) = true := by kernel_rfl
theorem pck7 : ((Rows.portEncodesRow.knobs == [])) = true := by kernel_rfl
theorem pck8 : ((Tryz.prog.stopKnobs == [])) = true := by kernel_rfl
theorem pck9 : ((Rows.portEncodesRow.inPlace == Tryz.prog.inPlace 5)) = true := by kernel_rfl
theorem pck10 : ((Rows.portEncodesRow.unfollowed == Tryz.prog.unfollowed 5)) = true := by kernel_rfl
theorem pck11 : ((Rows.portEncodesRow.recurses == Tryz.prog.recurses 5)) = true := by kernel_rfl
theorem pck12 : ((Rows.portEncodesRow.named == Tryz.prog.varsNamed 5)) = true := by kernel_rfl
theorem pck13 : ((Rows.portEncodesRow.maps == (Tryz.f5.params.toList ++ Rows.portEncodesSpec.plain.varTypes Tryz.prog).any (Tryz.prog.mapsRec ·))) = true := by kernel_rfl
theorem pck14 : ((Rows.portEncodesRow.ifaces == (Tryz.f5.params.toList ++ Rows.portEncodesSpec.plain.varTypes Tryz.prog).any (Tryz.prog.ifacesRec ·))) = true := by kernel_rfl
theorem pck15 : ((Rows.portEncodesRow.mapsOut == Tryz.prog.mapsAmong Tryz.f5.resultTypes.toList)) = true := by kernel_rfl
theorem pck16 : ((Rows.portEncodesRow.loops == (Tryz.f5.params.toList ++ Rows.portEncodesSpec.plain.varTypes Tryz.prog).any (Tryz.prog.loopsFrom ·))) = true := by kernel_rfl
theorem pck17 : ((Rows.portEncodesRow.wideKeys == (Tryz.f5.params.toList ++ Rows.portEncodesSpec.plain.varTypes Tryz.prog ++ Tryz.f5.resultTypes.toList).any (Tryz.prog.wideKeysFrom ·))) = true := by kernel_rfl
theorem pck18 : (Rows.portEncodesSpec.vars.all (Tryz.prog.varReadable ·)) = true := by kernel_rfl
theorem pck19 : (Tryz.f5.resultTypes.all (fun t => Tryz.prog.readableRec t && decide (t < Tryz.prog.types.size))) = true := by kernel_rfl
theorem pck20 : ((Rows.portEncodesRow.ifacesOut == Tryz.f5.resultTypes.toList.any (Tryz.prog.ifacesRec ·))) = true := by kernel_rfl
theorem pck21 : ((Rows.portEncodesRow.loopsOut == Tryz.f5.resultTypes.toList.any (Tryz.prog.loopsFrom ·))) = true := by kernel_rfl
theorem pck22 : ((Rows.portEncodesRow.plainKeys == Tryz.prog.plainKeys)) = true := by kernel_rfl
theorem pck23 : (Rows.portEncodesRow.shortTexts.isNone) = true := by kernel_rfl

end Go.Proofs.YtdjjfjnkkgmadaaGreatDoor
