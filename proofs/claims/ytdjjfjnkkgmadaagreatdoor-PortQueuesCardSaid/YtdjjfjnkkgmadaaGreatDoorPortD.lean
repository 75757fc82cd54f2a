/-
  Ports: Encode, the program's and the statements'.
-/
import Derived.Test.YtdjjfjnkkgmadaaGreatDoorPortC
import Derived.Test.YtdjjfjnkkgmadaaGreatDoorPipe2
namespace Go.Proofs.YtdjjfjnkkgmadaaGreatDoor
open Go Go.RowKit

theorem PkAt.belowB {w w' : World} {b off B : Nat} {p : Pk} (h : PkAt w b off p) (hB : Below B w w') (hb : b < B) : PkAt w' b off p := by
  have e : ∀ j, w'.cell? ⟨b, j, none⟩ = w.cell? ⟨b, j, none⟩ := fun j => by simp [World.cell?, hB.block b hb]
  exact ⟨(e _).trans h.1, (e _).trans h.2⟩

theorem pk_enc_len {p : Pk} (h : p.err = 0) : p.enc.length ≤ 600 := by
  obtain ⟨_, h1, h2⟩ := Pk.err_zero h
  have l1 := nat_small_len (u := p.f.size) (by omega)
  have l2 := nat_small_len (u := p.b.size) (by omega)
  have l3 := dl p.f
  have l4 := dl p.b
  simp only [Pk.enc, List.length_append]
  omega

theorem penc_len {q : List Pk} (h : ∀ p ∈ q, p.err = 0) : (penc q).length ≤ 600 * q.length := by
  induction q with
  | nil => simp [penc]
  | cons a r ih =>
    have h1 := pk_enc_len (h a (by simp))
    have h2 := ih fun p hp => h p (by simp [hp])
    have e : penc (a :: r) = a.enc ++ penc r := by simp [penc]
    rw [e, List.length_append, List.length_cons]
    omega

theorem penc_take {q : List Pk} {i : Nat} {k : Pk} (hk : q[i]? = some k) : penc (q.take (i + 1)) = penc (q.take i) ++ k.enc := by
  have hi : i < q.length := by
    rcases Nat.lt_or_ge i q.length with h' | h'
    · exact h'
    · rw [List.getElem?_eq_none h'] at hk; cases hk
  rw [List.take_add_one, hk]
  simp [penc]

set_option maxRecDepth 100000 in
set_option maxHeartbeats 8000000 in
theorem portEncode_ok (p : Po) (qv : Value) (w : World) (hq : PksIn w qv p.q) (hp : p.err = 0) : Calls Tryz.prog 40 #[p.v qv] w fun e w' => e = .returned (.tuple #[.string (bs p.enc), .int .i64 0]) ∧ Below w.heap.size w w' := by
  obtain ⟨_, ho, ⟨h1, h2⟩, ⟨h3, h4⟩, h6, h7⟩ := Po.err_zero hp
  have hpe := perrs_zero h7
  have hc := fun w hq => portCheck_any p qv w hq (by unfold maxLen; omega)
  rw [hp] at hc
  obtain ⟨po, pe, pl, q⟩ := p
  simp only at h1 h2 h3 h4 h6 h7 ho hpe hc hq
  unfold Po.v at *
  simp only at *
  obtain ⟨ne, rfl⟩ := Int.eq_ofNat_of_zero_le h1
  obtain ⟨nl, rfl⟩ := Int.eq_ofNat_of_zero_le h3
  have henc : Po.enc ⟨po, ne, nl, q⟩ = [] ++ Cd.nat po.size ++ po.data.toList ++ Cd.nat ne ++ Cd.nat nl ++ Cd.nat q.length ++ penc q := by simp [Po.enc]
  rw [henc]
  have l1 := nat_small_len (u := po.size) (by omega)
  have l2 := nat_small_len (u := ne) (by omega)
  have l3 := nat_small_len (u := nl) (by omega)
  have l4 := nat_small_len (u := q.length) (by omega)
  have l5 := dl po
  clear hp h1 h3 henc h7
  have hA := below_new1 w (.cells #[.string po, .int .i64 ne, .int .i64 nl, qv] 56)
  have hX := blk_new w (.cells #[.string po, .int .i64 ne, .int .i64 nl, qv] 56)
  have hq0 := hq.below hA
  have hc0 := hc _ hq0
  obtain ⟨a, cap, rfl, hlen, hcs⟩ := hq
  have Hcs := Lib.hid hcs
  clear hcs
  unfold maxLen at hlen
  go_enter Tryz.func40, Tryz.ntmps40
  go_wp2_with (first | (go_at_call 43; refine hc0.mono ?_; rintro e w1 ⟨rfl, hB1⟩; have hX1 := hB1.heapS hX) | (go_at_call 102; refine (newWriter_any _).mono ?_; rintro e w2 ⟨rfl, hW2, hB2⟩; have hX2 := hB2.heapS hX1; obtain ⟨d0, d1, d2, d3⟩ := blk4 hX2))
  have hlt := lt_of_block hX1
  have hBw : Below w.heap.size w w2 := (hA.trans' hB1).trans' hB2
  refine (wText_any w1.heap.size po [] w2 hW2 (by omega) (by simp; omega)).mono ?_
  rintro e w3 ⟨rfl, hW3, hF3⟩
  have hX3 := hF3.1.heap' hlt hX2
  obtain ⟨e0, e1, e2, e3⟩ := blk4 hX3
  go_wp2_with fail
  refine (wNumber_any w1.heap.size ne _ w3 hW3 (by omega) (by simp; omega)).mono ?_
  rintro e w4 ⟨rfl, hW4, hF4⟩
  have hX4 := hF4.1.heap' hlt hX3
  obtain ⟨f0, f1, f2, f3⟩ := blk4 hX4
  go_wp2_with fail
  refine (wNumber_any w1.heap.size nl _ w4 hW4 (by omega) (by simp; omega)).mono ?_
  rintro e w5 ⟨rfl, hW5, hF5⟩
  have hX5 := hF5.1.heap' hlt hX4
  obtain ⟨g0, g1, g2, g3⟩ := blk4 hX5
  go_wp2_with fail
  refine (wNumber_any w1.heap.size q.length _ w5 hW5 (by omega) (by simp; omega)).mono ?_
  rintro e w6 ⟨rfl, hW6, hF6⟩
  have hX6 := hF6.1.heap' hlt hX5
  obtain ⟨k0, k1, k2, k3⟩ := blk4 hX6
  have hlo : ([] ++ Cd.nat po.size ++ po.data.toList ++ Cd.nat ne ++ Cd.nat nl ++ Cd.nat q.length).length ≤ 100 := by simp only [List.length_append, List.length_nil]; omega
  generalize hout0 : [] ++ Cd.nat po.size ++ po.data.toList ++ Cd.nat ne ++ Cd.nat nl ++ Cd.nat q.length = out0 at *
  have Hout0 := Lib.hid hout0
  clear hout0
  have hB26 : Below w1.heap.size w2 w6 := (((hF3.trans hF4).trans hF5).trans hF6).1
  go_wp2_with fail
  have hcs6 : ∀ i k, q[i]? = some k → ∃ b off, a = some ⟨b, off, none⟩ ∧ b < w1.heap.size ∧ PkAt w2 b (off + i * 2) k := fun i k hk => by
    obtain ⟨_, _, b, off, g3, g4, g5⟩ := Hcs.out i k hk
    exact ⟨b, off, g3, by have := (hA.trans' hB1).size; omega, g5.below hBw g4⟩
  have Hcs6 := Lib.hid hcs6
  have Hpe := Lib.hid hpe
  clear hcs6 hpe
  have hs2 := hB2.size
  go_loopw [7, 36] (fun _ t36 wr => ∃ (i : Nat), t36 = .int .i64 i ∧ i ≤ q.length ∧ IsWriter wr w1.heap.size (out0 ++ penc (q.take i)) 0 ∧ Below w1.heap.size w2 wr) (fun _ t36 _ => q.length - (intOf t36).toNat)
  case atStart => exact ⟨0, rfl, Nat.zero_le _, by simpa [penc] using hW6, hB26⟩
  case round =>
    obtain ⟨i, rfl, hi, hWr, hBr⟩ := hrel
    have hsr := hBr.size
    have hsr' : w1.heap.size ≤ wr.heap.size := by omega
    have hpl : (penc (q.take i)).length ≤ 600 * (q.take i).length := penc_len fun p hp => Hpe.out p (List.mem_of_mem_take hp)
    have hpt : (q.take i).length ≤ 16 := by rw [List.length_take]; omega
    by_cases hlt : i < q.length
    · obtain ⟨k, hk⟩ : ∃ k, q[i]? = some k := ⟨q[i], List.getElem?_eq_getElem hlt⟩
      have hke := Pk.err_zero (Hpe.out k (List.mem_of_getElem? hk))
      have hk1 := hke.2.1
      have hk2 := hke.2.2
      have n1 := nat_small_len (u := k.f.size) (by omega)
      have n2 := nat_small_len (u := k.b.size) (by omega)
      have n3 := dl k.f
      have hpk := penc_take hk
      obtain ⟨b, off, rfl, hb, hat⟩ := Hcs6.out i k hk
      obtain ⟨x0, x1⟩ := hat.belowB hBr hb
      have hbr : b < wr.heap.size := by omega
      have Hpk := Lib.hid hpk
      clear hpk hk hke hat
      have hWn := hWr.below (below_new1 wr (.cells #[.string k.f, .string k.b] 123))
      have hXk := blk_new wr (.cells #[.string k.f, .string k.b] 123)
      go_wp2_with fail
      refine (wText_any w1.heap.size k.f _ _ hWn (by omega) (by rw [List.length_append]; omega)).mono ?_
      rintro e wa ⟨rfl, hWa, hFa⟩
      have hXa := hFa.2 _ _ _ _ hXk (by simp)
      obtain ⟨m0, m1⟩ := blk2 hXa
      go_wp2_with fail
      refine (wText_any w1.heap.size k.b _ _ hWa (by omega) (by simp only [List.length_append]; omega)).mono ?_
      rintro e wb ⟨rfl, hWb, hFb⟩
      go_wp2_with fail
      exact ⟨⟨i + 1, by go_num, by omega, by rw [Hpk.out]; simpa [Pk.enc] using hWb, ((hBr.alloc (by omega) _).trans hFa.1).trans hFb.1⟩, by simp [intOf]; omega⟩
    · have he : q.take i = q := List.take_of_length_le (by omega)
      rw [he] at hWr hpl
      have hpl2 : (penc q).length ≤ 9600 := by omega
      clear hpl hpt he
      go_wp2_with fail
      refine (wBytes_any w1.heap.size _ wr hWr (by rw [List.length_append]; omega)).mono ?_
      rintro e w7 ⟨v, rfl, hv, hB7⟩
      have hcv := conv_bytes hv
      generalize hout : bs _ = out at hcv
      go_wp2_with fail
      go_ret2
      exact ⟨by rw [← hout, ← Hout0.out]; rfl, ((hA.trans' hB1).trans' (hB2.trans (hBr.trans (hB7.mono hsr'))))⟩

set_option maxRecDepth 100000 in
theorem portEncode_err (p : Po) (qv : Value) (w : World) (hq : PksIn w qv p.q) (ho : p.o.size ≤ maxLen) (e0 : Int) (hp : p.err = e0) (he : e0 ≠ 0) : Calls Tryz.prog 40 #[p.v qv] w fun e w' => e = .returned (.tuple #[.string ⟨#[]⟩, .int .i64 e0]) ∧ Below w.heap.size w w' := by
  have hA := below_new1 w (.cells #[.string p.o, .int .i64 p.e, .int .i64 p.l, qv] 56)
  have hc := portCheck_any p qv _ (hq.below hA) ho
  rw [hp] at hc
  have he' : (e0 == 0) = false := by simpa using he
  unfold Po.v at *
  clear hp he
  go_enter Tryz.func40, Tryz.ntmps40
  go_wp2_with (go_at_call 43; refine hc.mono ?_; rintro e w1 ⟨rfl, hB1⟩)
  go_ret2
  exact ⟨rfl, hA.trans' hB1⟩

set_option maxRecDepth 100000 in
set_option maxHeartbeats 8000000 in
theorem lencode_ok (p : Po) (qv : Value) (w : World) (hq : PksIn w qv p.q) (hp : p.err = 0) : Calls Tryz.prog 45 #[p.v qv] w fun e w' => e = .returned (.string (bs p.enc)) ∧ Below w.heap.size w w' := by
  obtain ⟨_, ho, ⟨h1, h2⟩, ⟨h3, h4⟩, h6, h7⟩ := Po.err_zero hp
  have hpe := perrs_zero h7
  obtain ⟨po, pe, pl, q⟩ := p
  simp only at h1 h2 h3 h4 h6 h7 ho hpe hq
  unfold Po.v at *
  simp only at *
  obtain ⟨ne, rfl⟩ := Int.eq_ofNat_of_zero_le h1
  obtain ⟨nl, rfl⟩ := Int.eq_ofNat_of_zero_le h3
  have henc : Po.enc ⟨po, ne, nl, q⟩ = [] ++ Cd.nat po.size ++ po.data.toList ++ Cd.nat ne ++ Cd.nat nl ++ Cd.nat q.length ++ penc q := by simp [Po.enc]
  rw [henc]
  have l1 := nat_small_len (u := po.size) (by omega)
  have l2 := nat_small_len (u := ne) (by omega)
  have l3 := nat_small_len (u := nl) (by omega)
  have l4 := nat_small_len (u := q.length) (by omega)
  have l5 := dl po
  clear hp h1 h3 henc h7
  have hA := below_new1 w (.cells #[.string po, .int .i64 ne, .int .i64 nl, qv] 56)
  have hX := blk_new w (.cells #[.string po, .int .i64 ne, .int .i64 nl, qv] 56)
  obtain ⟨a, cap, rfl, hlen, hcs⟩ := hq
  have Hcs := Lib.hid hcs
  clear hcs
  unfold maxLen at hlen
  go_enter Tryz.func45, Tryz.ntmps45
  go_wp2_with (go_at_call 102; refine (newWriter_any _).mono ?_; rintro e w2 ⟨rfl, hW2, hB2⟩; have hX2 := hB2.heapS hX; obtain ⟨d0, d1, d2, d3⟩ := blk4 hX2)
  rw [World.size_alloc] at hW2 hB2
  have hlt0 : w.heap.size < w.heap.size + 1 := Nat.lt_succ_self _
  have hsa : (w.alloc (.cells #[.string po, .int .i64 ne, .int .i64 nl, .slice a q.length cap] 56)).heap.size = w.heap.size + 1 := World.size_alloc _ _
  have hBw : Below w.heap.size w w2 := hA.trans (hB2.mono (Nat.le_succ _))
  refine (wText_any (w.heap.size + 1) po [] w2 hW2 (by omega) (by simp; omega)).mono ?_
  rintro e w3 ⟨rfl, hW3, hF3⟩
  have hX3 := hF3.1.heap' hlt0 hX2
  obtain ⟨e0, e1, e2, e3⟩ := blk4 hX3
  go_wp2_with fail
  refine (wNumber_any (w.heap.size + 1) ne _ w3 hW3 (by omega) (by simp; omega)).mono ?_
  rintro e w4 ⟨rfl, hW4, hF4⟩
  have hX4 := hF4.1.heap' hlt0 hX3
  obtain ⟨f0, f1, f2, f3⟩ := blk4 hX4
  go_wp2_with fail
  refine (wNumber_any (w.heap.size + 1) nl _ w4 hW4 (by omega) (by simp; omega)).mono ?_
  rintro e w5 ⟨rfl, hW5, hF5⟩
  have hX5 := hF5.1.heap' hlt0 hX4
  obtain ⟨g0, g1, g2, g3⟩ := blk4 hX5
  go_wp2_with fail
  refine (wNumber_any (w.heap.size + 1) q.length _ w5 hW5 (by omega) (by simp; omega)).mono ?_
  rintro e w6 ⟨rfl, hW6, hF6⟩
  have hX6 := hF6.1.heap' hlt0 hX5
  obtain ⟨k0, k1, k2, k3⟩ := blk4 hX6
  have hlo : ([] ++ Cd.nat po.size ++ po.data.toList ++ Cd.nat ne ++ Cd.nat nl ++ Cd.nat q.length).length ≤ 100 := by simp only [List.length_append, List.length_nil]; omega
  generalize hout0 : [] ++ Cd.nat po.size ++ po.data.toList ++ Cd.nat ne ++ Cd.nat nl ++ Cd.nat q.length = out0 at *
  have Hout0 := Lib.hid hout0
  clear hout0
  have hB26 : Below (w.heap.size + 1) w2 w6 := (((hF3.trans hF4).trans hF5).trans hF6).1
  go_wp2_with fail
  have hcs6 : ∀ i k, q[i]? = some k → ∃ b off, a = some ⟨b, off, none⟩ ∧ b < (w.heap.size + 1) ∧ PkAt w2 b (off + i * 2) k := fun i k hk => by
    obtain ⟨_, _, b, off, g3, g4, g5⟩ := Hcs.out i k hk
    exact ⟨b, off, g3, by omega, g5.below hBw g4⟩
  have Hcs6 := Lib.hid hcs6
  have Hpe := Lib.hid hpe
  clear hcs6 hpe
  have hs2 := hB2.size
  rw [hsa] at hs2
  go_loopw [4] (fun t36 wr => ∃ (i : Nat), t36 = .int .i64 i ∧ i ≤ q.length ∧ IsWriter wr (w.heap.size + 1) (out0 ++ penc (q.take i)) 0 ∧ wr.heap[w.heap.size]? = some (.cells #[.string po, .int .i64 ne, .int .i64 nl, .slice a q.length cap] 56) ∧ Below (w.heap.size + 1) w2 wr) (fun t36 _ => q.length - (intOf t36).toNat)
  case atStart => exact ⟨0, rfl, Nat.zero_le _, by simpa [penc] using hW6, hX6, hB26⟩
  case round =>
    obtain ⟨i, rfl, hi, hWr, hXr, hBr⟩ := hrel
    obtain ⟨y0, y1, y2, y3⟩ := blk4 hXr
    have hsr := hBr.size
    have hsr' : (w.heap.size + 1) ≤ wr.heap.size := by omega
    have hpl : (penc (q.take i)).length ≤ 600 * (q.take i).length := penc_len fun p hp => Hpe.out p (List.mem_of_mem_take hp)
    have hpt : (q.take i).length ≤ 16 := by rw [List.length_take]; omega
    by_cases hlt : i < q.length
    · obtain ⟨k, hk⟩ : ∃ k, q[i]? = some k := ⟨q[i], List.getElem?_eq_getElem hlt⟩
      have hke := Pk.err_zero (Hpe.out k (List.mem_of_getElem? hk))
      have hk1 := hke.2.1
      have hk2 := hke.2.2
      have n1 := nat_small_len (u := k.f.size) (by omega)
      have n2 := nat_small_len (u := k.b.size) (by omega)
      have n3 := dl k.f
      have hpk := penc_take hk
      obtain ⟨b, off, rfl, hb, hat⟩ := Hcs6.out i k hk
      obtain ⟨x0, x1⟩ := hat.belowB hBr hb
      have hbr : b < wr.heap.size := by omega
      have Hpk := Lib.hid hpk
      clear hpk hk hke hat
      go_wp2_with fail
      refine (wText_any (w.heap.size + 1) k.f _ _ hWr (by omega) (by rw [List.length_append]; omega)).mono ?_
      rintro e wa ⟨rfl, hWa, hFa⟩
      have hXa := hFa.1.heap' hlt0 hXr
      obtain ⟨m0, m1, m2, m3⟩ := blk4 hXa
      obtain ⟨z0, z1⟩ := PkAt.belowB (p := k) ⟨x0, x1⟩ hFa.1 hb
      have hba : b < wa.heap.size := by have := hFa.1.size; omega
      go_wp2_with fail
      refine (wText_any (w.heap.size + 1) k.b _ _ hWa (by omega) (by simp only [List.length_append]; omega)).mono ?_
      rintro e wb ⟨rfl, hWb, hFb⟩
      go_wp2_with fail
      exact ⟨⟨i + 1, by go_num, by omega, by rw [Hpk.out]; simpa [Pk.enc] using hWb, hFb.1.heap' hlt0 hXa, (hBr.trans hFa.1).trans hFb.1⟩, by simp [intOf]; omega⟩
    · have he : q.take i = q := List.take_of_length_le (by omega)
      rw [he] at hWr hpl
      have hpl2 : (penc q).length ≤ 9600 := by omega
      clear hpl hpt he
      go_wp2_with fail
      refine (wBytes_any (w.heap.size + 1) _ wr hWr (by rw [List.length_append]; omega)).mono ?_
      rintro e w7 ⟨v, rfl, hv, hB7⟩
      have hcv := conv_bytes hv
      generalize hout : bs _ = out at hcv
      go_wp2_with fail
      go_ret
      exact ⟨by rw [← hout, ← Hout0.out]; rfl, (hBw.trans ((hBr.trans (hB7.mono hsr')).mono (Nat.le_succ _)))⟩

end Go.Proofs.YtdjjfjnkkgmadaaGreatDoor
