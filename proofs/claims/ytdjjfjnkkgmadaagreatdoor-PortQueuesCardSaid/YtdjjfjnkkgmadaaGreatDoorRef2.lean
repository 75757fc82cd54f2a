/-
  The reference of chapter 32: take, Encode and Decode.
-/
import Derived.Test.YtdjjfjnkkgmadaaGreatDoorRef1
import Derived.Deep.CutRange
import Derived.Deep.CutBlock
import Derived.Deep.RegionHeld3
import Derived.Deep.AppendLies
import Derived.Deep.QuietTactic
namespace Go.Proofs.YtdjjfjnkkgmadaaGreatDoor
open Go Go.RowKit

set_option maxRecDepth 100000 in
theorem parseR_any (v : Value) (l : List UInt8) (w : World) (hl : l.length ≤ maxLen) (hv : Bytes w v l) :
    Calls Tryz.prog 172 #[v] w fun e w' => e = .returned (Cd.dec 9 true l).retP ∧ w = w' := by
  have hg := groupsR_any v l w hl hv
  have hd : ∀ n s, Cd.dec 9 true l = .ok n s → n < 9223372036854775808 := fun n s h => (Cd.dec_ok 9 true l n s h).1
  generalize Cd.dec 9 true l = q at *
  cases q with
  | err e =>
    simp only [Cd.PR.ret, Cd.PR.retP] at *
    clear hv
    go_enter Tryz.func172, Tryz.ntmps172
    go_wp2_with (go_at_call 201; refine hg.mono ?_; rintro e w' ⟨rfl, rfl⟩)
    go_ret3
    exact ⟨rfl, rfl⟩
  | ok n s =>
    have hn := hd n s rfl
    simp only [Cd.PR.ret, Cd.PR.retP] at *
    clear hd hv
    go_enter Tryz.func172, Tryz.ntmps172
    go_wp2_with (go_at_call 201; refine hg.mono ?_; rintro e w' ⟨rfl, rfl⟩)
    go_ret3
    exact ⟨rfl, rfl⟩

theorem extract_drop (s : ByteArray) (k : Nat) : s.extract k s.size = bs (s.data.toList.drop k) := by
  apply ByteArray.ext
  apply Array.toList_inj.1
  rw [bs_list, ByteArray.data_extract, Array.toList_extract, List.extract_eq_take_drop]
  rw [List.take_of_length_le]
  rw [List.length_drop, dl]
  exact Nat.le_refl _

set_option maxRecDepth 100000 in
set_option maxHeartbeats 1000000 in
theorem take_any (s : ByteArray) (hs : s.size ≤ 140737488355328) (w : World) :
    Calls Tryz.prog 112 #[.string s] w fun e w' => e = .returned (.tuple #[.int .i64 (tk s.data.toList).1, .string (bs (tk s.data.toList).2)]) ∧ Below w.heap.size w w' := by
  have hsm : s.size ≤ maxLen := by unfold maxLen; omega
  obtain ⟨c, wc, hcv, hb, hBc, -⟩ := conv_string w s hsm
  have hp := fun W (h : Bytes W (.slice (some ⟨w.heap.size, 0, none⟩) s.size c) s.data.toList) => parseR_any _ _ W (by rw [dl]; exact hsm) h
  have hbc := hb.bytes
  cases hq : Cd.dec 9 true s.data.toList with
  | err e =>
    have he : e ≠ 0 := by have := Cd.dec_err 9 true _ e hq; omega
    have he' : ((e : Int) == 0) = false := by simpa using he
    have ht : tk s.data.toList = (-1, []) := by simp only [tk, hq]
    rw [ht, bs_nil]
    rw [hq] at hp
    simp only [Cd.PR.retP] at hp
    clear hq ht he
    go_enter Tryz.func112, Tryz.ntmps112
    go_wp2_with (go_at_call 172; refine (hp _ hbc).mono ?_; rintro e w' ⟨rfl, rfl⟩)
    go_ret2
    exact ⟨rfl, hBc⟩
  | ok n k =>
    have ht : tk s.data.toList = ((n : Int), s.data.toList.drop k) := by simp only [tk, hq]
    have hk := Cd.dec_len _ _ _ hq
    rw [dl] at hk
    have hk2 := hk.2.1
    have hk3 : (k : Int) ≤ (s.size : Int) := by omega
    rw [ht, ← extract_drop]
    rw [hq] at hp
    simp only [Cd.PR.retP] at hp
    clear hq ht hk
    go_enter Tryz.func112, Tryz.ntmps112
    go_wp2_with (go_at_call 172; refine (hp _ hbc).mono ?_; rintro e w' ⟨rfl, rfl⟩)
    go_quiet (fail)
    go_wp2_with fail
    go_ret2
    exact ⟨rfl, hBc.drewN _⟩

set_option maxRecDepth 100000 in
set_option maxHeartbeats 2000000 in
theorem encodeR_err (p : Pp) (e0 : Int) (hp : p.err = e0) (he : e0 ≠ 0) (w : World) : Calls Tryz.prog 27 #[p.v] w fun e w' => e = .returned (.tuple #[.string ⟨#[]⟩, .int .i64 e0]) ∧ Below w.heap.size w w' := by
  have hc := fun w => rcheck_any p w
  rw [hp] at hc
  have he' : (e0 == 0) = false := by simpa using he
  unfold Pp.v at *
  clear hp he
  go_enter Tryz.func27, Tryz.ntmps27
  go_wp2_with (go_at_call 31; refine (hc _).mono ?_; rintro e w1 ⟨rfl, hB1⟩)
  go_ret2
  exact ⟨rfl, (below_new1 w _).trans' hB1⟩

theorem bytes_slice {w : World} {v : Value} {l : List UInt8} (h : Bytes w v l) (hl : 0 < l.length) : ∃ b off cap, v = .slice (some ⟨b, off, none⟩) l.length cap ∧ ∀ j u, (bv l)[j]? = some u → w.cell? ((⟨b, off, none⟩ : Addr).add j) = some u := by
  rcases h with ⟨_, rfl⟩ | ⟨b, off, cap, cs, t, f, rfl, h2, h3, h4, h5, h6⟩
  · exact absurd hl (by simp)
  · refine ⟨b, off, cap, rfl, fun j u hj => ?_⟩
    have hj' : j < l.length := by
      rcases Nat.lt_or_ge j l.length with h | h
      · exact h
      · simp [bv, List.getElem?_eq_none h] at hj
    rw [addr_add, show w.cell? ⟨b, off + j, none⟩ = cs[off + j]? by simp [World.cell?, h4], h6 j hj']
    simp [bv, List.getElem?_eq_getElem hj'] at hj
    subst hj
    simp [List.getD, List.getElem?_eq_getElem hj']

theorem bv_one (l : List UInt8) : ∀ u ∈ bv l, u.oneCell' = true := by
  intro u hu
  simp only [bv, List.mem_map] at hu
  obtain ⟨c, _, rfl⟩ := hu
  rfl

set_option maxRecDepth 100000 in
set_option maxHeartbeats 8000000 in
theorem encodeR_ok (p : Pp) (hp : p.err = 0) (w : World) : Calls Tryz.prog 27 #[p.v] w fun e w' => e = .returned (.tuple #[.string (bs p.enc), .int .i64 0]) ∧ Below w.heap.size w w' := by
  obtain ⟨⟨h1, h2⟩, ⟨h3, h4⟩, ⟨h5, h6⟩, h7, h8⟩ := Pp.err_zero hp
  have hc := fun w => rcheck_any p w
  rw [hp] at hc
  obtain ⟨pe, pr, pw, pb⟩ := p
  simp only at h1 h2 h3 h4 h5 h6 h7 h8
  have henc : (Pp.enc ⟨pe, pr, pw, pb⟩) = Cd.nat pe.toNat ++ Cd.nat pr.toNat ++ Cd.nat pw.toNat ++ (Cd.nat pb.size ++ pb.data.toList) := by simp [Pp.enc]
  rw [henc]
  clear henc
  unfold Pp.v at *
  simp only at *
  obtain ⟨ne, rfl⟩ := Int.eq_ofNat_of_zero_le h1
  obtain ⟨nr, rfl⟩ := Int.eq_ofNat_of_zero_le h3
  obtain ⟨nw, rfl⟩ := Int.eq_ofNat_of_zero_le h5
  simp only [Int.toNat_natCast]
  have l1 := nat_small_len (u := ne) (by omega)
  have l2 := nat_small_len (u := nr) (by omega)
  have l3 := nat_small_len (u := nw) (by omega)
  have l4 := nat_small_len (u := pb.size) (by omega)
  have l5 := dl pb
  have ke : (ne : Int) ≤ 1073741824 := h2
  have kr : (nr : Int) ≤ 64 := h4
  have kw : (nw : Int) ≤ 64 := h6
  have ue : ne < 18446744073709551616 := by omega
  have ur : nr < 18446744073709551616 := by omega
  have uw : nw < 18446744073709551616 := by omega
  have wne : IntKind.u64.wrap (ne : Int) = (ne : Int) := by rw [IntKind.wrap_u64]; omega
  have wnr : IntKind.u64.wrap (nr : Int) = (nr : Int) := by rw [IntKind.wrap_u64]; omega
  have wnw : IntKind.u64.wrap (nw : Int) = (nw : Int) := by rw [IntKind.wrap_u64]; omega
  obtain ⟨i0, hi, hz0, hz1, hz2⟩ := info_parts info5
  clear hp h1 h2 h3 h4 h5 h6 h7
  go_enter Tryz.func27, Tryz.ntmps27
  go_wp2_with (go_at_call 31; refine (hc _).mono ?_; rintro e w1 ⟨rfl, hB1⟩; have hX1 := hB1.heapS (blk_new w _); obtain ⟨c0, c1, c2, c3⟩ := blk4 hX1)
  have hlt1 : w.heap.size < w1.heap.size := lt_of_block hX1
  have hBall := (below_new1 w (.cells #[.int .i64 ne, .int .i64 nr, .int .i64 nw, .string pb] 23)).trans' hB1
  obtain ⟨q1, hq1⟩ : ∃ q, q = Cd.nat ne ++ Cd.nat nr := ⟨_, rfl⟩
  have hl1 : q1.length ≤ 10 := by rw [hq1, List.length_append]; omega
  have Hq1 := Lib.hid hq1
  clear hq1
  go_cut [5] from 11 to 19 (fun s5 wx => ∃ a c, s5 = .slice a q1.length c ∧ wx.ownsRow w1.heap.size 5 1 s5 q1.length (bv q1) ∧ Below w1.heap.size w1 wx)
  case first =>
    go_region_held3 (fun wy => wy.cell? ⟨w.heap.size, 0, none⟩ = some (.int .i64 ne) ∧ wy.cell? ⟨w.heap.size, 1, none⟩ = some (.int .i64 nr)) (first | exact ⟨c0, c1⟩ | exact ⟨d0, d1⟩ | exact ⟨e0, e1⟩ | exact ⟨g0, g1⟩) (first | (refine step_append_lies _ rfl _ _ 165 rfl w1.heap.size 5 i0 _ 1 1 Tryz.underlying165 hi hz0 hz1 hz2 rfl (by decide) _ (Cd.nat ne).length (bv (Cd.nat ne)) rfl hoa2 ⟨b2, off2, none⟩ (Cd.nat nr).length cap2 (bv (Cd.nat nr)) rfl (by simp [bv]) hnews (bv_one _) (Cd.nat_len_pos nr) (by unfold maxLen; omega) (by omega) hBb.size _ rfl ?_; intro g' cap' w3 hown3 hgr3 hat3 hlt3; have hB3 : Below w1.heap.size w1 w3 := Below.grown hBb hgr3 hBb.size (fun k e => ownsRow_le hoa2 k e); obtain ⟨g0, g1, g2, g3⟩ := blk4 (hB3.heapS hX1)) | (go_at_call 106; (with_reducible refine (naturalR_any ne _ ue).mono ?_); rintro e wa ⟨va, rfl, hoa, hBa⟩; obtain ⟨aa, ca, rfl⟩ := owns_slice hoa; have hBa' : Below w1.heap.size w1 wa := (by first | exact hBa | exact (Below.refl _ w1).drew.trans' hBa); have hXa := hBa'.heapS hX1; obtain ⟨d0, d1, d2, d3⟩ := blk4 hXa; have hlta : w.heap.size < wa.heap.size := lt_of_block hXa) | (go_at_call 106; (with_reducible refine (naturalR_any nr _ ur).mono ?_); rintro e wb ⟨vb, rfl, hob, hBb0⟩; have hoa2 := ownsRow_mono (ownsRow_below hoa hBb0) (b' := w1.heap.size) (by simp); have hBb : Below w1.heap.size w1 wb := hBa'.trans' hBb0; obtain ⟨e0, e1, e2, e3⟩ := blk4 (hBb.heapS hX1); obtain ⟨b2, off2, cap2, rfl, hnews⟩ := bytes_slice (bytes_of_owns hob) (Cd.nat_len_pos nr)))
    all_goals (go_wp2_with fail; go_meet)
    all_goals exact ⟨some ⟨g', 0, none⟩, cap', by rw [Hq1.out]; simp, by rw [Hq1.out]; simpa [bv] using hown3, by first | exact hB3 | exact hB3.drew⟩
  case rest =>
    obtain ⟨a5, c5, rfl, ho5, hB5⟩ := hcut
    obtain ⟨e0, e1, e2, e3⟩ := blk4 (hB5.heapS hX1)
    have hsz5 := hB5.size
    have hltc : w.heap.size < wc.heap.size := by omega
    go_wp2_with (first | (go_at_call 106; (with_reducible refine (naturalR_any nw _ uw).mono ?_); rintro e wd ⟨vd, rfl, hod, hBd⟩; obtain ⟨ad, cd, rfl⟩ := owns_slice hod; have ho5d := ownsRow_below ho5 hBd; have hB5d : Below w1.heap.size w1 wd := hB5.trans' hBd) | (at_builtin; refine app_bytes rfl _ _ rfl w1.heap.size (.slice a5 q1.length c5) _ q1 (Cd.nat nw) rfl ho5d rfl (bytes_of_owns hod) (by omega) hB5d.size ?_; intro a6 c6 we ho6 hg6 _; have hl2 : (q1 ++ Cd.nat nw).length ≤ 15 := (by rw [List.length_append]; omega); generalize hq2 : q1 ++ Cd.nat nw = q2 at *; have hB6 : Below w1.heap.size w1 we := hB5d.grown hg6 hB5d.size (fun k e => (ho5d.lt k e.symm.symm).1); obtain ⟨f0, f1, f2, f3⟩ := blk4 (hB6.heapS hX1); have hlte : w.heap.size < we.heap.size := (by have := hB6.size; omega)))
    refine (textR_any pb _ (by omega)).mono ?_
    rintro e wf ⟨vf, rfl, hof, hBf⟩
    have hl3 : (Cd.nat pb.size ++ pb.data.toList).length ≤ 300 := by rw [List.length_append]; omega
    generalize hq3 : Cd.nat pb.size ++ pb.data.toList = q3 at *
    obtain ⟨af, cf, rfl⟩ := owns_slice hof
    have ho6f := ownsRow_below ho6 hBf
    have hB6f : Below w1.heap.size w1 wf := hB6.trans' hBf
    go_wp2_with (at_builtin; refine app_bytes rfl _ _ rfl w1.heap.size (.slice a6 q2.length c6) _ q2 q3 rfl ho6f rfl (bytes_of_owns hof) (by omega) hB6f.size ?_; intro a7 c7 wg ho7 hg7 _; generalize hq4 : q2 ++ q3 = q4 at *; have hB7 : Below w1.heap.size w1 wg := hB6f.grown hg7 hB6f.size (fun k e => (ho6f.lt k e.symm.symm).1); have hcv := conv_bytes (bytes_of_owns ho7))
    go_ret2
    exact ⟨by rw [← hq4, ← hq3, ← hq2, Hq1.out]; rfl, hBall.trans (hB7.mono hBall.size)⟩

end Go.Proofs.YtdjjfjnkkgmadaaGreatDoor
