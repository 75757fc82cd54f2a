/-
  Operations that come in as an argument.
-/
import Derived.Test.YtdjjfjnkkgmadaaGreatDoorOrder
import Derived.Deep.Slices
import Derived.Deep.Fields
import Derived.ProofKit
import Derived.OpenShut
import Derived.ShutString
import Derived.ChangeOld
import Derived.KernelRfl
namespace Go.Proofs.YtdjjfjnkkgmadaaGreatDoor
open Go Go.ChangeShapes Go.WideShapes Go.ChangeAt Go.RowKit

theorem ops_one : Go.Deep.oneCellFields Tryz.prog #[{ name := "Kind", type := 5, offset := 0, embedded := false, tag := "", pkgPath := "", byteOffset := 0 }, { name := "Epoch", type := 3, offset := 1, embedded := false, tag := "", pkgPath := "", byteOffset := 8 }, { name := "N", type := 3, offset := 2, embedded := false, tag := "", pkgPath := "", byteOffset := 16 }, { name := "Bytes", type := 9, offset := 3, embedded := false, tag := "", pkgPath := "", byteOffset := 24 }, { name := "Writer", type := 4, offset := 4, embedded := false, tag := "", pkgPath := "", byteOffset := 40 }] = true := by kernel_rfl

theorem list5 {l : List Value} (h : l.length = 5) : ∃ a b c d e, l = [a, b, c, d, e] := by
  match l, h with
  | [a, b, c, d, e], _ => exact ⟨a, b, c, d, e, rfl⟩

set_option maxRecDepth 100000 in
theorem ops_in {H : Type} {enc : TypeId × Value → H} {W : World} {r : Reach} {b0 : Nat} {spare : Nat → Bool} {held : Bool} {v : Value} {d : DataW H} {p : List MemPlace}
    (hv : Value.okWide Tryz.prog W r b0 66 v) (h : DataW.Trod enc Tryz.prog W 0 spare held 66 v d p) : ∃ L, OpsIn W v L := by
  obtain ⟨a0, len0, cap0, rfl⟩ := okWide_slice Tryz.underlying66 hv
  obtain ⟨fuel, hf⟩ := h
  rcases Go.Deep.open_slice Tryz.underlying66 hf with ⟨hcs, _⟩ | ⟨a, len, cap, m, n, D, Pl, hcs, _, hl, hm, hmm, _, hx⟩
  · simp [Value.cells] at hcs
    obtain ⟨rfl, rfl, rfl⟩ := hcs
    exact ⟨[], none, 0, rfl, Nat.zero_le _, fun i o h => by simp at h⟩
  · simp [Value.cells] at hcs
    obtain ⟨rfl, rfl, rfl⟩ := hcs
    have hlm : len0 ≤ m := by rw [hmm]; split <;> omega
    have hcell : Tryz.prog.cellsOf 68 = 5 := by kernel_rfl
    rw [hcell] at hx
    obtain ⟨b, off, spot⟩ := a
    have hspot : 0 < len0 → spot = none := by
      intro h
      obtain ⟨cs', hc, _⟩ := hx 0 (by omega)
      obtain ⟨_, hcl, hat⟩ := World.cells?_some hc
      have h0 := hat 0 (by omega)
      rw [List.getElem?_eq_getElem (by omega)] at h0
      have := World.cell?_spot h0
      simpa [Addr.add] using this
    have hex : ∀ i, ∃ o : OpC, i < len0 → o.kd < 256 ∧ o.s.size ≤ maxLen ∧ spot = none ∧ b < W.heap.size ∧ OpAt W b (off + i * 5) o := by
      intro i
      by_cases hi : i < len0
      · obtain ⟨cs', hc, ht⟩ := hx i (by omega)
        obtain ⟨_, hcl, hat⟩ := World.cells?_some hc
        obtain ⟨ys, n', _, _, _, hys, hfd⟩ := DataW.trod_struct Tryz.underlying68 ht
        have hone := Go.Deep.hone_of ops_one
        obtain ⟨c0, c1, c2, c3, c4, rfl⟩ := list5 hcl
        have hy : ys.length = 5 := hys
        have f0 := hfd 0 _ rfl
        have f1 := hfd 1 _ rfl
        have f2 := hfd 2 _ rfl
        have f3 := hfd 3 _ rfl
        have f4 := hfd 4 _ rfl
        rw [(hone 0 _ rfl).2, List.getElem?_eq_getElem (by omega)] at f0
        rw [(hone 1 _ rfl).2, List.getElem?_eq_getElem (by omega)] at f1
        rw [(hone 2 _ rfl).2, List.getElem?_eq_getElem (by omega)] at f2
        rw [(hone 3 _ rfl).2, List.getElem?_eq_getElem (by omega)] at f3
        rw [(hone 4 _ rfl).2, List.getElem?_eq_getElem (by omega)] at f4
        obtain ⟨kd, e0, -, w0⟩ := DataW.trod_int Tryz.underlying5 f0
        obtain ⟨ep, e1, -, _⟩ := DataW.trod_int Tryz.underlying3 f1
        obtain ⟨nn, e2, -, _⟩ := DataW.trod_int Tryz.underlying3 f2
        obtain ⟨s, e3, -, ws⟩ := DataW.trod_string Tryz.underlying9 f3
        obtain ⟨bb, e4, -⟩ := DataW.trod_bool Tryz.underlying4 f4
        simp at e0 e1 e2 e3 e4
        subst e0 e1 e2 e3 e4
        have a0 := hat 0 (by omega)
        have a1 := hat 1 (by omega)
        have a2 := hat 2 (by omega)
        have a3 := hat 3 (by omega)
        have a4 := hat 4 (by omega)
        obtain rfl := hspot (by omega)
        rw [addr_add, addr_add] at a0 a1 a2 a3 a4
        have hb : b < W.heap.size := by
          unfold World.cell? at a0
          cases hb : W.heap[b]? with
          | none => simp [hb] at a0
          | some o => exact lt_of_block hb
        have hkd : 0 ≤ kd ∧ kd ≤ 255 := by
          simp [Lit.wf, IntKind.min, IntKind.max, IntKind.signed, IntKind.bits] at w0
          omega
        obtain ⟨kn, rfl⟩ := Int.eq_ofNat_of_zero_le hkd.1
        exact ⟨⟨kn, ep, nn, s, bb⟩, fun _ => ⟨by show kn < 256; omega, ws, rfl, hb, a0, a1, a2, a3, a4⟩⟩
      · exact ⟨⟨0, 0, 0, ⟨#[]⟩, false⟩, fun h => absurd h hi⟩
    obtain ⟨f, hf'⟩ := Classical.axiomOfChoice hex
    refine ⟨(List.range len0).map f, some ⟨b, off, spot⟩, cap0, by simp, by simp; omega, ?_⟩
    intro i o hio
    have hi : i < len0 := by
      rcases Nat.lt_or_ge i len0 with h | h
      · exact h
      · simp [List.getElem?_eq_none (show ((List.range len0).map f).length ≤ i by simpa using h)] at hio
    have ho : o = f i := by
      simp [List.getElem?_map, List.getElem?_range hi] at hio
      exact hio.symm
    subst ho
    obtain ⟨g1, g2, g3, g4, g5⟩ := hf' i hi
    exact ⟨g1, g2, b, off, by rw [g3], g4, g5⟩

end Go.Proofs.YtdjjfjnkkgmadaaGreatDoor
