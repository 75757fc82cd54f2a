/-
  Packets and ports that come in as arguments.
-/
import Derived.Test.YtdjjfjnkkgmadaaGreatDoorPortP
import Derived.Deep.Slices
import Derived.Deep.Fields
import Derived.ProofKit
import Derived.Lib.SmallJoins
import Derived.OpenShut
import Derived.ShutString
import Derived.ChangeOld
import Derived.KernelRfl
namespace Go.Proofs.YtdjjfjnkkgmadaaGreatDoor
open Go Go.ChangeShapes Go.WideShapes Go.ChangeAt Go.RowKit

theorem pks_one : Go.Deep.oneCellFields Tryz.prog #[{ name := "From", type := 9, offset := 0, embedded := false, tag := "", pkgPath := "", byteOffset := 0 }, { name := "Bytes", type := 9, offset := 1, embedded := false, tag := "", pkgPath := "", byteOffset := 16 }] = true := by kernel_rfl

theorem list2 {l : List Value} (h : l.length = 2) : ∃ a b, l = [a, b] := by
  match l, h with
  | [a, b], _ => exact ⟨a, b, rfl⟩

set_option maxRecDepth 100000 in
theorem pks_in1 {H : Type} {enc : TypeId × Value → H} {W : World} {base fuel : Nat} {spare : Nat → Bool} {held : Bool} {a0 : Option Addr} {len0 cap0 : Nat} {y : DataW H × List MemPlace}
    (hf : DataW.trod enc Tryz.prog W base spare held fuel 54 [.slice a0 len0 cap0] = some y) : ∃ L, PksIn W (.slice a0 len0 cap0) L := by
  rcases Go.Deep.open_slice Tryz.underlying54 hf with ⟨hcs, _⟩ | ⟨a, len, cap, m, n, D, Pl, hcs, _, hl, hm, hmm, _, hx⟩
  · simp at hcs
    obtain ⟨rfl, rfl, rfl⟩ := hcs
    exact ⟨[], none, 0, rfl, Nat.zero_le _, fun i o h => by simp at h⟩
  · simp at hcs
    obtain ⟨rfl, rfl, rfl⟩ := hcs
    have hlm : len0 ≤ m := by rw [hmm]; split <;> omega
    have hcell : Tryz.prog.cellsOf 123 = 2 := by kernel_rfl
    rw [hcell] at hx
    obtain ⟨b, off, spot⟩ := a
    have hspot : 0 < len0 → spot = none := by
      intro h
      obtain ⟨cs', hc, _⟩ := hx 0 (by omega)
      obtain ⟨_, hcl, hat⟩ := World.cells?_some hc
      have h0 := hat 0 (by omega)
      rw [List.getElem?_eq_getElem (by omega)] at h0
      have := World.cell?_spot h0
      simpa [Addr.add] using this
    have hex : ∀ i, ∃ o : Pk, i < len0 → o.f.size ≤ maxLen ∧ o.b.size ≤ maxLen ∧ spot = none ∧ b < W.heap.size ∧ PkAt W b (off + i * 2) o := by
      intro i
      by_cases hi : i < len0
      · obtain ⟨cs', hc, ht⟩ := hx i (by omega)
        obtain ⟨_, hcl, hat⟩ := World.cells?_some hc
        obtain ⟨ys, n', _, _, _, hys, hfd⟩ := DataW.trod_struct Tryz.underlying123 ht
        have hone := Go.Deep.hone_of pks_one
        obtain ⟨c0, c1, rfl⟩ := list2 hcl
        have hy : ys.length = 2 := hys
        have f0 := hfd 0 _ rfl
        have f1 := hfd 1 _ rfl
        rw [(hone 0 _ rfl).2, List.getElem?_eq_getElem (by omega)] at f0
        rw [(hone 1 _ rfl).2, List.getElem?_eq_getElem (by omega)] at f1
        obtain ⟨s0, e0, -, w0⟩ := DataW.trod_string Tryz.underlying9 f0
        obtain ⟨s1, e1, -, w1⟩ := DataW.trod_string Tryz.underlying9 f1
        simp at e0 e1
        subst e0 e1
        have a0 := hat 0 (by omega)
        have a1 := hat 1 (by omega)
        obtain rfl := hspot (by omega)
        rw [addr_add, addr_add] at a0 a1
        have hb : b < W.heap.size := by
          unfold World.cell? at a0
          cases hb : W.heap[b]? with
          | none => simp [hb] at a0
          | some o => exact lt_of_block hb
        exact ⟨⟨s0, s1⟩, fun _ => ⟨w0, w1, rfl, hb, a0, a1⟩⟩
      · exact ⟨⟨⟨#[]⟩, ⟨#[]⟩⟩, fun h => absurd h hi⟩
    obtain ⟨f, hf'⟩ := Classical.axiomOfChoice hex
    refine ⟨(List.range len0).map f, some ⟨b, off, spot⟩, cap0, by simp, by simp; omega, ?_⟩
    intro i o hio
    have hi : i < len0 := by
      rcases Nat.lt_or_ge i len0 with h | h
      · exact h
      · simp [List.getElem?_eq_none (show ((List.range len0).map f).length ≤ i by simpa using h)] at hio
    have ho : o = f i := by
      simp [List.getElem?_map, List.getElem?_range hi] at hio
      exact hio.symm
    subst ho
    obtain ⟨g1, g2, g3, g4, g5⟩ := hf' i hi
    exact ⟨g1, g2, b, off, by rw [g3], g4, g5⟩

theorem cells56 : Tryz.prog.cellsOf 56 = 4 := by kernel_rfl

set_option maxRecDepth 100000 in
theorem port_in {H : Type} {enc : TypeId × Value → H} {W : World} {r : Reach} {b0 base : Nat} {spare : Nat → Bool} {held : Bool} {v : Value} {d : DataW H} {p : List MemPlace}
    (hv : Value.okWide Tryz.prog W r b0 56 v) (h : DataW.Trod enc Tryz.prog W base spare held 56 v d p) : ∃ (P : Po) (q : Value), v = P.v q ∧ PksIn W q P.q := by
  obtain ⟨c0, c1, c2, c3, y0, y1, y2, y3, m, rfl, _, _, h0, h1, h2, h3⟩ := Go.Joins.open_agg4 Tryz.underlying56 (by kernel_rfl) cells56 hv h
  obtain ⟨o, q0, -, _⟩ := DataW.trod_string Tryz.underlying45 h0
  obtain ⟨e, q1, -, _⟩ := DataW.trod_int Tryz.underlying3 h1
  obtain ⟨l, q2, -, _⟩ := DataW.trod_int Tryz.underlying3 h2
  simp at q0 q1 q2
  subst q0 q1 q2
  rcases Go.Deep.open_slice Tryz.underlying54 h3 with ⟨hcs, _⟩ | ⟨a, len, cap, m, n, D, Pl, hcs, _⟩
  · simp at hcs
    subst hcs
    obtain ⟨L, hL⟩ := pks_in1 h3
    exact ⟨⟨o, e, l, L⟩, _, rfl, hL⟩
  · simp at hcs
    subst hcs
    obtain ⟨L, hL⟩ := pks_in1 h3
    exact ⟨⟨o, e, l, L⟩, _, rfl, hL⟩

set_option maxRecDepth 100000 in
theorem pks_in {H : Type} {enc : TypeId × Value → H} {W : World} {r : Reach} {b0 base : Nat} {spare : Nat → Bool} {held : Bool} {v : Value} {d : DataW H} {p : List MemPlace}
    (hv : Value.okWide Tryz.prog W r b0 54 v) (h : DataW.Trod enc Tryz.prog W base spare held 54 v d p) : ∃ L, PksIn W v L := by
  obtain ⟨a0, len0, cap0, rfl⟩ := okWide_slice Tryz.underlying54 hv
  obtain ⟨fuel, hf⟩ := h
  exact pks_in1 hf

end Go.Proofs.YtdjjfjnkkgmadaaGreatDoor
