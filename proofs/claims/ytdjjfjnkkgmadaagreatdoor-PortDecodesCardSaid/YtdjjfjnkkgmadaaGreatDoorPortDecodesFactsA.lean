/-
  PortDecodes: the closed facts of its row, one by one: the first part.
-/
import Derived.Test.YtdjjfjnkkgmadaaGreatDoorRows
import Derived.JoinedOf
import Derived.KernelRfl
namespace Go.Proofs.YtdjjfjnkkgmadaaGreatDoor
open Go

theorem pdk0 : (Rows.portDecodesRow.wf (OpenSpec.ofChange Rows.portDecodesSpec)) = true := by kernel_rfl
theorem pdk1 : (laidOutB Tryz.prog) = true := by kernel_rfl
theorem pdk2 : (mapsRowed Tryz.prog) = true := by kernel_rfl
theorem pdk3 : (Tryz.f6.params.all (Tryz.prog.readableRec ·)) = true := by kernel_rfl
theorem pdk4 : (namedTie Tryz.prog Rows.portDecodesRow.named Rows.portDecodesSpec.vars) = true := by kernel_rfl
theorem pdk5 : ((Rows.portDecodesRow.stops == [])) = true := by kernel_rfl
theorem pdk6 : ((Tryz.prog.stops == [])) = true := by kernel_rfl
theorem pdk7 : ((Rows.portDecodesRow.knobs == [])) = true := by kernel_rfl
theorem pdk8 : ((Tryz.prog.stopKnobs == [])) = true := by kernel_rfl
theorem pdk9 : ((Rows.portDecodesRow.inPlace == Tryz.prog.inPlace 6)) = true := by kernel_rfl
theorem pdk10 : ((Rows.portDecodesRow.unfollowed == Tryz.prog.unfollowed 6)) = true := by kernel_rfl
theorem pdk11 : ((Rows.portDecodesRow.recurses == Tryz.prog.recurses 6)) = true := by kernel_rfl
theorem pdk12 : ((Rows.portDecodesRow.named == Tryz.prog.varsNamed 6)) = true := by kernel_rfl
theorem pdk13 : ((Rows.portDecodesRow.maps == (Tryz.f6.params.toList ++ Rows.portDecodesSpec.plain.varTypes Tryz.prog).any (Tryz.prog.mapsRec ·))) = true := by kernel_rfl
theorem pdk14 : ((Rows.portDecodesRow.ifaces == (Tryz.f6.params.toList ++ Rows.portDecodesSpec.plain.varTypes Tryz.prog).any (Tryz.prog.ifacesRec ·))) = true := by kernel_rfl
theorem pdk15 : ((Rows.portDecodesRow.mapsOut == Tryz.prog.mapsAmong Tryz.f6.resultTypes.toList)) = true := by kernel_rfl
theorem pdk16 : ((Rows.portDecodesRow.loops == (Tryz.f6.params.toList ++ Rows.portDecodesSpec.plain.varTypes Tryz.prog).any (Tryz.prog.loopsFrom ·))) = true := by kernel_rfl
theorem pdk17 : ((Rows.portDecodesRow.wideKeys == (Tryz.f6.params.toList ++ Rows.portDecodesSpec.plain.varTypes Tryz.prog ++ Tryz.f6.resultTypes.toList).any (Tryz.prog.wideKeysFrom ·))) = true := by kernel_rfl
theorem pdk18 : (Rows.portDecodesSpec.vars.all (Tryz.prog.varReadable ·)) = true := by kernel_rfl
theorem pdk19 : (Tryz.f6.resultTypes.all (fun t => Tryz.prog.readableRec t && decide (t < Tryz.prog.types.size))) = true := by kernel_rfl
theorem pdk20 : ((Rows.portDecodesRow.ifacesOut == Tryz.f6.resultTypes.toList.any (Tryz.prog.ifacesRec ·))) = true := by kernel_rfl
theorem pdk21 : ((Rows.portDecodesRow.loopsOut == Tryz.f6.resultTypes.toList.any (Tryz.prog.loopsFrom ·))) = true := by kernel_rfl
theorem pdk22 : ((Rows.portDecodesRow.plainKeys == Tryz.prog.plainKeys)) = true := by kernel_rfl
theorem pdk23 : (Rows.portDecodesRow.shortTexts.isNone) = true := by kernel_rfl

end Go.Proofs.YtdjjfjnkkgmadaaGreatDoor
