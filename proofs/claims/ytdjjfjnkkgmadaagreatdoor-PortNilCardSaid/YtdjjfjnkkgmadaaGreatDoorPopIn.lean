/-
  Operations on ports that come in as arguments.
-/
import Derived.Test.YtdjjfjnkkgmadaaGreatDoorPortNi
import Derived.Deep.Slices
import Derived.Deep.Fields
namespace Go.Proofs.YtdjjfjnkkgmadaaGreatDoor
open Go Go.ChangeShapes Go.WideShapes Go.ChangeAt Go.RowKit

theorem list7 {l : List Value} (h : l.length = 7) : ∃ a b c d e f g, l = [a, b, c, d, e, f, g] := by
  match l, h with
  | [a, b, c, d, e, f, g], _ => exact ⟨a, b, c, d, e, f, g, rfl⟩

theorem coC5 : Tryz.prog.cellsOf 5 = 1 := by kernel_rfl
theorem coC3 : Tryz.prog.cellsOf 3 = 1 := by kernel_rfl
theorem coC9 : Tryz.prog.cellsOf 9 = 1 := by kernel_rfl
theorem coC123 : Tryz.prog.cellsOf 123 = 2 := by kernel_rfl
theorem coC135 : Tryz.prog.cellsOf 135 = 7 := by kernel_rfl

set_option maxRecDepth 100000 in
theorem pop_trod {H : Type} {enc : TypeId × Value → H} {W : World} {base fuel : Nat} {spare : Nat → Bool} {held : Bool} {cs : List Value} {x : DataW H × List MemPlace}
    (h : DataW.trod enc Tryz.prog W base spare held fuel 135 cs = some x) : ∃ o : Oq, o.ok ∧ cs = o.cs.toList := by
  obtain ⟨ys, n', _, _, hlen, hys, hfd⟩ := DataW.trod_struct Tryz.underlying135 h
  obtain ⟨a0, a1, a2, a3, a4, a5, a6, rfl⟩ := list7 (hlen.trans coC135)
  have hy : ys.length = 6 := hys
  have f0 : DataW.trod enc Tryz.prog W base spare held n' 5 [a0] = ys[0]? := by have := hfd 0 _ rfl; change DataW.trod enc Tryz.prog W base spare held n' 5 (List.take (Tryz.prog.cellsOf 5) (List.drop 0 [a0, a1, a2, a3, a4, a5, a6])) = _ at this; rw [coC5] at this; exact this
  have f1 : DataW.trod enc Tryz.prog W base spare held n' 5 [a1] = ys[1]? := by have := hfd 1 _ rfl; change DataW.trod enc Tryz.prog W base spare held n' 5 (List.take (Tryz.prog.cellsOf 5) (List.drop 1 [a0, a1, a2, a3, a4, a5, a6])) = _ at this; rw [coC5] at this; exact this
  have f2 : DataW.trod enc Tryz.prog W base spare held n' 5 [a2] = ys[2]? := by have := hfd 2 _ rfl; change DataW.trod enc Tryz.prog W base spare held n' 5 (List.take (Tryz.prog.cellsOf 5) (List.drop 2 [a0, a1, a2, a3, a4, a5, a6])) = _ at this; rw [coC5] at this; exact this
  have f3 : DataW.trod enc Tryz.prog W base spare held n' 3 [a3] = ys[3]? := by have := hfd 3 _ rfl; change DataW.trod enc Tryz.prog W base spare held n' 3 (List.take (Tryz.prog.cellsOf 3) (List.drop 3 [a0, a1, a2, a3, a4, a5, a6])) = _ at this; rw [coC3] at this; exact this
  have f4 : DataW.trod enc Tryz.prog W base spare held n' 3 [a4] = ys[4]? := by have := hfd 4 _ rfl; change DataW.trod enc Tryz.prog W base spare held n' 3 (List.take (Tryz.prog.cellsOf 3) (List.drop 4 [a0, a1, a2, a3, a4, a5, a6])) = _ at this; rw [coC3] at this; exact this
  have f5 : DataW.trod enc Tryz.prog W base spare held n' 123 [a5, a6] = ys[5]? := by have := hfd 5 _ rfl; change DataW.trod enc Tryz.prog W base spare held n' 123 (List.take (Tryz.prog.cellsOf 123) (List.drop 5 [a0, a1, a2, a3, a4, a5, a6])) = _ at this; rw [coC123] at this; exact this
  rw [List.getElem?_eq_getElem (by omega)] at f0 f1 f2 f3 f4 f5
  obtain ⟨zs, n2, _, _, _, hzs, hgd⟩ := DataW.trod_struct Tryz.underlying123 f5
  have hz : zs.length = 2 := hzs
  have g0 : DataW.trod enc Tryz.prog W base spare held n2 9 [a5] = zs[0]? := by have := hgd 0 _ rfl; change DataW.trod enc Tryz.prog W base spare held n2 9 (List.take (Tryz.prog.cellsOf 9) (List.drop 0 [a5, a6])) = _ at this; rw [coC9] at this; exact this
  have g1 : DataW.trod enc Tryz.prog W base spare held n2 9 [a6] = zs[1]? := by have := hgd 1 _ rfl; change DataW.trod enc Tryz.prog W base spare held n2 9 (List.take (Tryz.prog.cellsOf 9) (List.drop 1 [a5, a6])) = _ at this; rw [coC9] at this; exact this
  rw [List.getElem?_eq_getElem (by omega)] at g0 g1
  obtain ⟨kd, e0, -, w0⟩ := DataW.trod_int Tryz.underlying5 f0
  obtain ⟨wh, e1, -, w1⟩ := DataW.trod_int Tryz.underlying5 f1
  obtain ⟨us, e2, -, w2⟩ := DataW.trod_int Tryz.underlying5 f2
  obtain ⟨nn, e3, -, _⟩ := DataW.trod_int Tryz.underlying3 f3
  obtain ⟨ep, e4, -, _⟩ := DataW.trod_int Tryz.underlying3 f4
  obtain ⟨s5, e5, -, w5⟩ := DataW.trod_string Tryz.underlying9 g0
  obtain ⟨s6, e6, -, w6⟩ := DataW.trod_string Tryz.underlying9 g1
  simp at e0 e1 e2 e3 e4 e5 e6
  subst e0 e1 e2 e3 e4 e5 e6
  have hu : ∀ z : Int, (Lit.int .u8 z).wf = true → 0 ≤ z ∧ z ≤ 255 := fun z hw => by
    simp [Lit.wf, IntKind.min, IntKind.max, IntKind.signed, IntKind.bits] at hw
    omega
  have u0 := hu _ w0
  have u1 := hu _ w1
  have u2 := hu _ w2
  obtain ⟨k0, rfl⟩ := Int.eq_ofNat_of_zero_le u0.1
  obtain ⟨k1, rfl⟩ := Int.eq_ofNat_of_zero_le u1.1
  obtain ⟨k2, rfl⟩ := Int.eq_ofNat_of_zero_le u2.1
  exact ⟨⟨k0, k1, k2, nn, ep, ⟨s5, s6⟩⟩, ⟨by show k0 < 256; omega, by show k1 < 256; omega, by show k2 < 256; omega, w5, w6⟩, rfl⟩

set_option maxRecDepth 100000 in
theorem pop_in {H : Type} {enc : TypeId × Value → H} {W : World} {r : Reach} {b0 base : Nat} {spare : Nat → Bool} {held : Bool} {v : Value} {d : DataW H} {p : List MemPlace}
    (hv : Value.okWide Tryz.prog W r b0 135 v) (h : DataW.Trod enc Tryz.prog W base spare held 135 v d p) : ∃ o : Oq, o.ok ∧ v = o.v := by
  obtain ⟨cs, rfl, _⟩ := okWide_struct Tryz.underlying135 hv
  obtain ⟨fuel, hf⟩ := h
  obtain ⟨o, ho, he⟩ := pop_trod hf
  refine ⟨o, ho, ?_⟩
  simp only [Value.cells] at he
  rw [Oq.v, ← Array.toList_inj.1 he]

end Go.Proofs.YtdjjfjnkkgmadaaGreatDoor
