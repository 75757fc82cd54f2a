/-
  PortNil: the closed facts of its row, one by one: the first part.
-/
import Derived.Test.YtdjjfjnkkgmadaaGreatDoorRows
import Derived.JoinedOf
import Derived.KernelRfl
namespace Go.Proofs.YtdjjfjnkkgmadaaGreatDoor
open Go

theorem pnk0 : (Rows.portNilRow.wf (OpenSpec.ofChange Rows.portNilSpec)) = true := by kernel_rfl
theorem pnk1 : (laidOutB Tryz.prog) = true := by kernel_rfl
theorem pnk2 : (mapsRowed Tryz.prog) = true := by kernel_rfl
theorem pnk3 : (Tryz.f13.params.all (Tryz.prog.readableRec ·)) = true := by kernel_rfl
theorem pnk4 : (namedTie Tryz.prog Rows.portNilRow.named Rows.portNilSpec.vars) = true := by kernel_rfl
theorem pnk5 : ((Rows.portNilRow.stops == [])) = true := by kernel_rfl
theorem pnk6 : ((Tryz.prog.stops == [])) = true := by kernel_rfl
theorem pnk7 : ((Rows.portNilRow.knobs == [])) = true := by kernel_rfl
theorem pnk8 : ((Tryz.prog.stopKnobs == [])) = true := by kernel_rfl
theorem pnk9 : ((Rows.portNilRow.inPlace == Tryz.prog.inPlace 13)) = true := by kernel_rfl
theorem pnk10 : ((Rows.portNilRow.unfollowed == Tryz.prog.unfollowed 13)) = true := by kernel_rfl
theorem pnk11 : ((Rows.portNilRow.recurses == Tryz.prog.recurses 13)) = true := by kernel_rfl
theorem pnk12 : ((Rows.portNilRow.named == Tryz.prog.varsNamed 13)) = true := by kernel_rfl
theorem pnk13 : ((Rows.portNilRow.maps == (Tryz.f13.params.toList ++ Rows.portNilSpec.plain.varTypes Tryz.prog).any (Tryz.prog.mapsRec ·))) = true := by kernel_rfl
theorem pnk14 : ((Rows.portNilRow.ifaces == (Tryz.f13.params.toList ++ Rows.portNilSpec.plain.varTypes Tryz.prog).any (Tryz.prog.ifacesRec ·))) = true := by kernel_rfl
theorem pnk15 : ((Rows.portNilRow.mapsOut == Tryz.prog.mapsAmong Tryz.f13.resultTypes.toList)) = true := by kernel_rfl
theorem pnk16 : ((Rows.portNilRow.loops == (Tryz.f13.params.toList ++ Rows.portNilSpec.plain.varTypes Tryz.prog).any (Tryz.prog.loopsFrom ·))) = true := by kernel_rfl
theorem pnk17 : ((Rows.portNilRow.wideKeys == (Tryz.f13.params.toList ++ Rows.portNilSpec.plain.varTypes Tryz.prog ++ Tryz.f13.resultTypes.toList).any (Tryz.prog.wideKeysFrom ·))) = true := by kernel_rfl
theorem pnk18 : (Rows.portNilSpec.vars.all (Tryz.prog.varReadable ·)) = true := by kernel_rfl
theorem pnk19 : (Tryz.f13.resultTypes.all (fun t => Tryz.prog.readableRec t && decide (t < Tryz.prog.types.size))) = true := by kernel_rfl
theorem pnk20 : ((Rows.portNilRow.ifacesOut == Tryz.f13.resultTypes.toList.any (Tryz.prog.ifacesRec ·))) = true := by kernel_rfl
theorem pnk21 : ((Rows.portNilRow.loopsOut == Tryz.f13.resultTypes.toList.any (Tryz.prog.loopsFrom ·))) = true := by kernel_rfl
theorem pnk22 : ((Rows.portNilRow.plainKeys == Tryz.prog.plainKeys)) = true := by kernel_rfl
theorem pnk23 : (Rows.portNilRow.shortTexts.isNone) = true := by kernel_rfl

end Go.Proofs.YtdjjfjnkkgmadaaGreatDoor
