/-
  replevinlaw32.PipeValues returns true.
-/
import Derived.Test.YtdjjfjnkkgmadaaGreatDoorRef3
import Derived.Test.YtdjjfjnkkgmadaaGreatDoorPipeK
import Derived.Deep.CutRange
import Derived.Deep.CutBlock
import Derived.Deep.RegionHeld3
import Derived.Deep.RegionWith
import Derived.Deep.QuietTactic
namespace Go.Proofs.YtdjjfjnkkgmadaaGreatDoor
open Go Go.RowKit

/-- The text that Encode returns. -/
def encX (p : Pp) : ByteArray := if p.err = 0 then bs p.enc else ⟨#[]⟩

theorem encX_any (p : Pp) (w : World) : Calls Tryz.prog 25 #[p.v] w fun e w' => e = .returned (.tuple #[.string (encX p), .int .i64 p.err]) ∧ Below w.heap.size w w' := by
  unfold encX
  by_cases h : p.err = 0
  · rw [if_pos h, h]; exact pipeEncode_ok p h w
  · rw [if_neg h]; exact pipeEncode_err p _ rfl h w

theorem encXR_any (p : Pp) (w : World) : Calls Tryz.prog 27 #[p.v] w fun e w' => e = .returned (.tuple #[.string (encX p), .int .i64 p.err]) ∧ Below w.heap.size w w' := by
  unfold encX
  by_cases h : p.err = 0
  · rw [if_pos h, h]; exact encodeR_ok p h w
  · rw [if_neg h]; exact encodeR_err p _ rfl h w

theorem encX_size (p : Pp) : (encX p).size ≤ 65536 := by
  unfold encX
  by_cases h : p.err = 0
  · rw [if_pos h, bs_size]; exact Pp.enc_size h
  · rw [if_neg h]; decide

theorem decX {p : Pp} (h : p.err = 0) : Pp.dec (encX p).data.toList = (p, 0) := by
  unfold encX
  rw [if_pos h, bs_list, dec_enc h]

theorem err_vals (p : Pp) : p.err = 0 ∨ p.err = 1 ∨ p.err = 2 ∨ p.err = 5 := by
  unfold Pp.err
  split
  · simp
  · split
    · simp
    · split
      · simp
      · split
        · simp
        · split
          · simp
          · simp

set_option maxRecDepth 100000 in
set_option maxHeartbeats 8000000 in
theorem values_main (p : Pp) (s : ByteArray) (hpb : p.b.size ≤ 400) (hss : s.size ≤ 400) (w : World) :
    Calls Tryz.prog 3 #[p.v, .string s] w fun e w' => e = .returned (.bool true) ∧ Below w.heap.size w w' := by
  have hkn := known_any
  have hto := to_any p
  have henc := encX_any p
  have hencR := encXR_any p
  have hdec := pipeDecode_any s (by omega)
  have hdecR : ∀ w, Calls Tryz.prog 29 #[.string s] w fun e w' => e = .returned (.tuple #[(Pp.dec s.data.toList).1.v, .int .i64 (Pp.dec s.data.toList).2]) ∧ Below w.heap.size w w' := fun w => by
    have := decodeR_any s.data.toList (by rw [dl]; omega) w
    rw [bs_of, rdec_eq] at this
    exact this
  have hto2 := to_any (Pp.dec s.data.toList).1
  have hchk := pipeCheck_any p
  have hchkR := rcheck_any p
  have hsz := encX_size p
  have hdec2 := pipeDecode_any (encX p) (by omega)
  have hfin : p.err = 0 → Pp.dec (encX p).data.toList = (p, 0) := decX
  generalize Pp.dec s.data.toList = D at *
  generalize Pp.dec (encX p).data.toList = D2 at *
  generalize encX p = x at *
  obtain ⟨dp, dn⟩ := D
  obtain ⟨bp, bn⟩ := D2
  have Hfin := Lib.hid hfin
  clear hfin hsz
  unfold Pp.v at *
  simp only at *
  generalize hpe : p.err = pe at *
  go_enter Tryz.func3, Tryz.ntmps3
  go_wp2_with (first | (go_at_call 24; refine (hkn _).mono ?_; rintro e w0 ⟨rfl, hB0⟩; have hX := hB0.heapS (blk_new w _); obtain ⟨c0, c1, c2, c3⟩ := blk4 hX; have hA := (below_new1 w _).trans' hB0) | (go_at_call 26; (with_reducible refine (hto _).mono ?_); rintro e w1 ⟨rfl, hB1⟩; have hX1 := hB1.heapS hX) | (go_at_call 25; (with_reducible refine (henc _).mono ?_); rintro e w2 ⟨rfl, hB2⟩; have hX2 := hB2.heapS hX1; obtain ⟨d0, d1, d2, d3⟩ := blk4 hX2) | (go_at_call 27; (with_reducible refine (hencR _).mono ?_); rintro e w3 ⟨rfl, hB3⟩; have hX3 := hB3.heapS hX2) | (go_at_call 28; (with_reducible refine (hdec _).mono ?_); rintro e w4 ⟨rfl, hB4⟩; have hX4 := hB4.heapS hX3) | (go_at_call 29; (with_reducible refine (hdecR _).mono ?_); rintro e w5 ⟨rfl, hB5⟩; have hX5 := hB5.heapS (blk_alloc hX4 _)))
  have hXf := blk_alloc hX5 (.cells #[.int .i64 dp.e, .int .i64 dp.r, .int .i64 dp.w, .string dp.b] 23)
  have hAf := blk_alloc (hB5.heapS (blk_new w4 (.cells #[.int .i64 dp.e, .int .i64 dp.r, .int .i64 dp.w, .string dp.b] 28))) (.cells #[.int .i64 dp.e, .int .i64 dp.r, .int .i64 dp.w, .string dp.b] 23)
  have hBf := blk_new w5 (.cells #[.int .i64 dp.e, .int .i64 dp.r, .int .i64 dp.w, .string dp.b] 23)
  have hA4 := (((hA.trans' hB1).trans' hB2).trans' hB3).trans' hB4
  have hA5 := (hA4.alloc hA4.size (.cells #[.int .i64 dp.e, .int .i64 dp.r, .int .i64 dp.w, .string dp.b] 28)).trans' hB5
  have hA6 := hA5.alloc hA5.size (.cells #[.int .i64 dp.e, .int .i64 dp.r, .int .i64 dp.w, .string dp.b] 23)
  clear hX hX1 hX2 hX3 hX4 hX5 hA hA4 hA5 c0 c1 c2 c3 d0 d1 d2 d3
  generalize w5.alloc (.cells #[.int .i64 dp.e, .int .i64 dp.r, .int .i64 dp.w, .string dp.b] 23) = W5 at *
  have hcs : ∀ W, Below W5.heap.size W5 W → W.cell? ⟨w.heap.size, 0, none⟩ = some (.int .i64 p.e) ∧ W.cell? ⟨w.heap.size, 1, none⟩ = some (.int .i64 p.r) ∧ W.cell? ⟨w.heap.size, 2, none⟩ = some (.int .i64 p.w) ∧ W.cell? ⟨w.heap.size, 3, none⟩ = some (.string p.b) ∧ W.cell? ⟨w4.heap.size, 0, none⟩ = some (.int .i64 dp.e) ∧ W.cell? ⟨w4.heap.size, 1, none⟩ = some (.int .i64 dp.r) ∧ W.cell? ⟨w4.heap.size, 2, none⟩ = some (.int .i64 dp.w) ∧ W.cell? ⟨w4.heap.size, 3, none⟩ = some (.string dp.b) ∧ W.cell? ⟨w5.heap.size, 0, none⟩ = some (.int .i64 dp.e) ∧ W.cell? ⟨w5.heap.size, 1, none⟩ = some (.int .i64 dp.r) ∧ W.cell? ⟨w5.heap.size, 2, none⟩ = some (.int .i64 dp.w) ∧ W.cell? ⟨w5.heap.size, 3, none⟩ = some (.string dp.b) := fun W h => by
    obtain ⟨x0, x1, x2, x3⟩ := blk4 (h.heapS hXf)
    obtain ⟨y0, y1, y2, y3⟩ := blk4 (h.heapS hAf)
    obtain ⟨z0, z1, z2, z3⟩ := blk4 (h.heapS hBf)
    exact ⟨x0, x1, x2, x3, y0, y1, y2, y3, z0, z1, z2, z3⟩
  obtain ⟨x0, x1, x2, x3, y0, y1, y2, y3, z0, z1, z2, z3⟩ := hcs _ (Below.refl _ W5)
  go_cut [76] from 50 to 75 (fun s76 wx => s76 = .bool false ∧ Below W5.heap.size W5 wx)
  case first =>
    go_region_held3 (fun wy => wy.cell? ⟨w.heap.size, 0, none⟩ = some (.int .i64 p.e) ∧ wy.cell? ⟨w.heap.size, 1, none⟩ = some (.int .i64 p.r) ∧ wy.cell? ⟨w.heap.size, 2, none⟩ = some (.int .i64 p.w) ∧ wy.cell? ⟨w.heap.size, 3, none⟩ = some (.string p.b) ∧ wy.cell? ⟨w4.heap.size, 0, none⟩ = some (.int .i64 dp.e) ∧ wy.cell? ⟨w4.heap.size, 1, none⟩ = some (.int .i64 dp.r) ∧ wy.cell? ⟨w4.heap.size, 2, none⟩ = some (.int .i64 dp.w) ∧ wy.cell? ⟨w4.heap.size, 3, none⟩ = some (.string dp.b) ∧ wy.cell? ⟨w5.heap.size, 0, none⟩ = some (.int .i64 dp.e) ∧ wy.cell? ⟨w5.heap.size, 1, none⟩ = some (.int .i64 dp.r) ∧ wy.cell? ⟨w5.heap.size, 2, none⟩ = some (.int .i64 dp.w) ∧ wy.cell? ⟨w5.heap.size, 3, none⟩ = some (.string dp.b)) (first | exact hcs _ (Below.refl _ _) | exact hcs _ (Below.refl _ W5).drew | exact hcs _ hBa | exact hcs _ hBb | exact hcs _ hBc | exact hcs _ hBd) (first | (go_at_call 26; (with_reducible refine (hto _).mono ?_); rintro e wa ⟨rfl, hBa0⟩; have hBa : Below W5.heap.size W5 wa := (by first | exact hBa0 | exact (Below.refl _ W5).drew.trans' hBa0)) | (go_at_call 30; (with_reducible refine (hchk _).mono ?_); rintro e wb ⟨rfl, hBb0⟩; have hBb : Below W5.heap.size W5 wb := hBa.trans' hBb0) | (go_at_call 31; (with_reducible refine (hchkR _).mono ?_); rintro e wc ⟨rfl, hBc0⟩; have hBc : Below W5.heap.size W5 wc := hBb.trans' hBc0) | (go_at_call 26; (with_reducible refine (hto2 _).mono ?_); rintro e wd ⟨rfl, hBd0⟩; have hBd : Below W5.heap.size W5 wd := hBc.trans' hBd0))
    all_goals (go_wp2_with fail; go_meet)
    all_goals exact ⟨rfl, by first | exact hBd | exact hBd.drew⟩
  case rest =>
    obtain ⟨rfl, hBc⟩ := hcut
    go_wp2_with (go_at_call 28; (with_reducible refine (hdec2 _).mono ?_); rintro e w6 ⟨rfl, hB6⟩)
    have hB6' : Below W5.heap.size W5 w6 := hBc.trans' hB6
    have hXg := blk_alloc (hB6'.heapS hXf) (.cells #[.int .i64 bp.e, .int .i64 bp.r, .int .i64 bp.w, .string bp.b] 28)
    have hGf := blk_new w6 (.cells #[.int .i64 bp.e, .int .i64 bp.r, .int .i64 bp.w, .string bp.b] 28)
    have hA7 := (hA6.trans' hB6').alloc (hA6.trans' hB6').size (.cells #[.int .i64 bp.e, .int .i64 bp.r, .int .i64 bp.w, .string bp.b] 28)
    generalize w6.alloc (.cells #[.int .i64 bp.e, .int .i64 bp.r, .int .i64 bp.w, .string bp.b] 28) = W6 at *
    have hcs2 : ∀ W, Below W6.heap.size W6 W → W.cell? ⟨w.heap.size, 0, none⟩ = some (.int .i64 p.e) ∧ W.cell? ⟨w.heap.size, 1, none⟩ = some (.int .i64 p.r) ∧ W.cell? ⟨w.heap.size, 2, none⟩ = some (.int .i64 p.w) ∧ W.cell? ⟨w.heap.size, 3, none⟩ = some (.string p.b) ∧ W.cell? ⟨w6.heap.size, 0, none⟩ = some (.int .i64 bp.e) ∧ W.cell? ⟨w6.heap.size, 1, none⟩ = some (.int .i64 bp.r) ∧ W.cell? ⟨w6.heap.size, 2, none⟩ = some (.int .i64 bp.w) ∧ W.cell? ⟨w6.heap.size, 3, none⟩ = some (.string bp.b) := fun W h => by
      obtain ⟨x0, x1, x2, x3⟩ := blk4 (h.heapS hXg)
      obtain ⟨y0, y1, y2, y3⟩ := blk4 (h.heapS hGf)
      exact ⟨x0, x1, x2, x3, y0, y1, y2, y3⟩
    clear x0 x1 x2 x3 y0 y1 y2 y3 z0 z1 z2 z3 hcs
    obtain ⟨x0, x1, x2, x3, y0, y1, y2, y3⟩ := hcs2 _ (Below.refl _ W6)
    by_cases hpe0 : pe = 0
    · have hbp := Hfin.out hpe0
      obtain ⟨rfl, rfl⟩ : p = bp ∧ bn = 0 := by have h1 : bp = p := congrArg Prod.fst hbp; have h2 : bn = 0 := congrArg Prod.snd hbp; exact ⟨h1.symm, h2⟩
      subst hpe0
      clear hbp hpe
      go_region_held3 (fun wy => wy.cell? ⟨w.heap.size, 0, none⟩ = some (.int .i64 p.e) ∧ wy.cell? ⟨w.heap.size, 1, none⟩ = some (.int .i64 p.r) ∧ wy.cell? ⟨w.heap.size, 2, none⟩ = some (.int .i64 p.w) ∧ wy.cell? ⟨w.heap.size, 3, none⟩ = some (.string p.b) ∧ wy.cell? ⟨w6.heap.size, 0, none⟩ = some (.int .i64 p.e) ∧ wy.cell? ⟨w6.heap.size, 1, none⟩ = some (.int .i64 p.r) ∧ wy.cell? ⟨w6.heap.size, 2, none⟩ = some (.int .i64 p.w) ∧ wy.cell? ⟨w6.heap.size, 3, none⟩ = some (.string p.b)) (first | exact hcs2 _ (Below.refl _ _) | exact hcs2 _ (Below.refl _ W6).drew | exact hcs2 _ hBa) (first | (go_at_call 26; (with_reducible refine (hto _).mono ?_); rintro e wa ⟨rfl, hBa0⟩; have hBa : Below W6.heap.size W6 wa := (by first | exact hBa0 | exact (Below.refl _ W6).drew.trans' hBa0)))
      all_goals go_wp2_with fail
      all_goals go_ret
      all_goals exact ⟨rfl, by first | exact hA7.trans' hBa | exact (hA7.trans' hBa).drew⟩
    · have hpv : pe = 1 ∨ pe = 2 ∨ pe = 5 := by have := err_vals p; omega
      clear hpe0 hpe
      rcases hpv with rfl | rfl | rfl
      all_goals go_region
      all_goals go_wp2_with fail
      all_goals go_ret
      all_goals exact ⟨rfl, by first | exact hA7 | exact hA7.drew⟩

set_option maxRecDepth 100000 in
theorem values_any (p : Pp) (s : ByteArray) (w : World) :
    Calls Tryz.prog 3 #[p.v, .string s] w fun e w' => e = .returned (.bool true) ∧ Below w.heap.size w w' := by
  by_cases hpb : p.b.size ≤ 400
  · by_cases hss : s.size ≤ 400
    · exact values_main p s hpb hss w
    · have hT := below_new1 w (.cells #[.int .i64 p.e, .int .i64 p.r, .int .i64 p.w, .string p.b] 23)
      have hX := blk_new w (.cells #[.int .i64 p.e, .int .i64 p.r, .int .i64 p.w, .string p.b] 23)
      unfold Pp.v
      go_enter Tryz.func3, Tryz.ntmps3
      go_wp2_with (go_at_call 24; refine (known_any _).mono ?_; rintro e w0 ⟨rfl, hB0⟩; replace hT := hT.trans (hB0.mono hT.size); replace hX := hB0.heapS hX; obtain ⟨c0, c1, c2, c3⟩ := blk4 hX)
      go_ret
      exact ⟨rfl, hT⟩
  · have hT := below_new1 w (.cells #[.int .i64 p.e, .int .i64 p.r, .int .i64 p.w, .string p.b] 23)
    have hX := blk_new w (.cells #[.int .i64 p.e, .int .i64 p.r, .int .i64 p.w, .string p.b] 23)
    unfold Pp.v
    go_enter Tryz.func3, Tryz.ntmps3
    go_wp2_with (go_at_call 24; refine (known_any _).mono ?_; rintro e w0 ⟨rfl, hB0⟩; replace hT := hT.trans (hB0.mono hT.size); replace hX := hB0.heapS hX; obtain ⟨c0, c1, c2, c3⟩ := blk4 hX)
    go_ret
    exact ⟨rfl, hT⟩

end Go.Proofs.YtdjjfjnkkgmadaaGreatDoor
