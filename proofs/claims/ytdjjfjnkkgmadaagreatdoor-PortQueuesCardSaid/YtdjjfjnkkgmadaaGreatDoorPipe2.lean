/-
  pipe: Encode, Decode.
-/
import Derived.Test.YtdjjfjnkkgmadaaGreatDoorPipe1
import Derived.Test.YtdjjfjnkkgmadaaGreatDoorCheck
namespace Go.Proofs.YtdjjfjnkkgmadaaGreatDoor
open Go Go.RowKit

theorem Pp.err_zero {p : Pp} (h : p.err = 0) : (0 ≤ p.e ∧ p.e ≤ 1073741824) ∧ (0 ≤ p.r ∧ p.r ≤ 64) ∧ (0 ≤ p.w ∧ p.w ≤ 64) ∧ p.r + p.w ≠ 0 ∧ p.b.size ≤ 256 := by
  unfold Pp.err at h
  split at h
  · cases h
  · split at h
    · cases h
    · split at h
      · cases h
      · split at h
        · cases h
        · split at h
          · cases h
          · rename_i h1 h2 h3 h4 h5
            simp [within] at h1 h2 h3
            exact ⟨h1, h2, h3, h4, by omega⟩

theorem Pp.of_zero {p : Pp} (h : (0 ≤ p.e ∧ p.e ≤ 1073741824) ∧ (0 ≤ p.r ∧ p.r ≤ 64) ∧ (0 ≤ p.w ∧ p.w ≤ 64) ∧ p.r + p.w ≠ 0 ∧ p.b.size ≤ 256) : p.err = 0 := by
  obtain ⟨h1, h2, h3, h4, h5⟩ := h
  simp [Pp.err, within, h1, h2, h3, h4]
  omega

theorem nat_small_len {u : Nat} (h : u ≤ 1073741824) : (Cd.nat u).length ≤ 5 := Cd.nat_len_le 5 u (by omega) (by omega)

set_option maxRecDepth 100000 in
set_option maxHeartbeats 4000000 in
theorem pipeEncode_ok (p : Pp) (hp : p.err = 0) (w : World) : Calls Tryz.prog 25 #[p.v] w fun e w' => e = .returned (.tuple #[.string (bs p.enc), .int .i64 0]) ∧ Below w.heap.size w w' := by
  obtain ⟨⟨h1, h2⟩, ⟨h3, h4⟩, ⟨h5, h6⟩, h7, h8⟩ := Pp.err_zero hp
  have hc := fun w => pipeCheck_any p w
  rw [hp] at hc
  obtain ⟨pe, pr, pw, pb⟩ := p
  simp only at h1 h2 h3 h4 h5 h6 h7 h8
  unfold Pp.enc
  unfold Pp.v at *
  simp only at *
  obtain ⟨ne, rfl⟩ := Int.eq_ofNat_of_zero_le h1
  obtain ⟨nr, rfl⟩ := Int.eq_ofNat_of_zero_le h3
  obtain ⟨nw, rfl⟩ := Int.eq_ofNat_of_zero_le h5
  simp only [Int.toNat_natCast]
  have l1 := nat_small_len (u := ne) (by omega)
  have l2 := nat_small_len (u := nr) (by omega)
  have l3 := nat_small_len (u := nw) (by omega)
  clear hp h1 h3 h5 h7
  go_enter Tryz.func25, Tryz.ntmps25
  go_wp2_with (first | (go_at_call 30; refine (hc _).mono ?_; rintro e w1 ⟨rfl, hB1⟩; have hX1 := hB1.heapS (blk_new w _); obtain ⟨c0, c1, c2, c3⟩ := blk4 hX1) | (go_at_call 102; refine (newWriter_any _).mono ?_; rintro e w2 ⟨rfl, hW2, hB2⟩; have hX2 := hB2.heapS hX1; obtain ⟨d0, d1, d2, d3⟩ := blk4 hX2))
  have hlt := lt_of_block hX1
  refine (wNumber_any w1.heap.size ne [] w2 hW2 (by omega) (by simp)).mono ?_
  rintro e w3 ⟨rfl, hW3, hF3⟩
  have hX3 := hF3.1.heap' hlt hX2
  obtain ⟨e0, e1, e2, e3⟩ := blk4 hX3
  go_wp2_with fail
  refine (wNumber_any w1.heap.size nr _ w3 hW3 (by omega) (by simp; omega)).mono ?_
  rintro e w4 ⟨rfl, hW4, hF4⟩
  have hX4 := hF4.1.heap' hlt hX3
  obtain ⟨f0, f1, f2, f3⟩ := blk4 hX4
  go_wp2_with fail
  refine (wNumber_any w1.heap.size nw _ w4 hW4 (by omega) (by simp; omega)).mono ?_
  rintro e w5 ⟨rfl, hW5, hF5⟩
  have hX5 := hF5.1.heap' hlt hX4
  obtain ⟨g0, g1, g2, g3⟩ := blk4 hX5
  go_wp2_with fail
  refine (wText_any w1.heap.size pb _ w5 hW5 (by omega) (by simp; omega)).mono ?_
  rintro e w6 ⟨rfl, hW6, hF6⟩
  go_wp2_with fail
  have l4 := nat_small_len (u := pb.size) (by omega)
  have l5 := dl pb
  refine (wBytes_any w1.heap.size _ w6 hW6 (by simp only [List.length_append, List.length_nil]; omega)).mono ?_
  rintro e w7 ⟨v, rfl, hv, hB7⟩
  have hcv := conv_bytes hv
  generalize hout : bs _ = out at hcv
  go_wp2_with fail
  go_ret2
  have hBa := (below_new1 w _).trans' hB1
  have hBb := hB2.trans (((hF3.trans hF4).trans hF5).trans hF6).1
  refine ⟨by rw [← hout]; simp, hBa.trans ((hBb.trans (hB7.mono hBb.size)).mono hBa.size)⟩

theorem pipeEncode_err (p : Pp) (e0 : Int) (hp : p.err = e0) (he : e0 ≠ 0) (w : World) : Calls Tryz.prog 25 #[p.v] w fun e w' => e = .returned (.tuple #[.string ⟨#[]⟩, .int .i64 e0]) ∧ Below w.heap.size w w' := by
  have hc := fun w => pipeCheck_any p w
  rw [hp] at hc
  have he2 : (e0 != 0) = true := by rw [bne_iff_ne]; exact he
  unfold Pp.v at *
  clear hp
  go_enter Tryz.func25, Tryz.ntmps25
  go_wp2_with (go_at_call 30; refine (hc _).mono ?_; rintro e w1 ⟨rfl, hB1⟩)
  go_ret2
  exact ⟨rfl, (below_new1 w _).trans' hB1⟩

/-- What decoding reads, ahead of the checks. -/
def Pp.read (l : List UInt8) : Pp × Nat :=
  let a := Cd.rnum 1073741824 l 0
  let b := Cd.rnum 64 a.2.1 a.2.2
  let c := Cd.rnum 64 b.2.1 b.2.2
  let d := Cd.rtxt 256 c.2.1 c.2.2
  (⟨a.1, b.1, c.1, bs d.1⟩, Cd.rclose d.2.1 d.2.2)

/-- The pipe of a value, or the error. -/
def Pp.dec (l : List UInt8) : Pp × Int := if (Pp.read l).2 = 0 ∧ (Pp.read l).1.err = 0 then ((Pp.read l).1, 0) else (Pp.zero, 3)

theorem results_row_tmp {P : Program} {fn : Func} {p u : Tmp} {ty : TypeId} (h : fn.results = #[.cell p ty, .tmp u]) (tmps : Array Value) (w : World) (g : Nat) (t : TypeId) (cs : Array Value) (fr : Nat × Nat) (d : TypeDesc)
    (hp : tmps.getD p undef = .pointer (some ⟨g, 0, none⟩)) (hg : w.heap[g]? = some (.cells cs t fr))
    (hu : P.underlying ty = some d) (hd : (match d with | .struct _ | .array _ _ => true | _ => false) = true) (hi : (P.info? ty).map (·.size) = some cs.size) :
    (results fn tmps).run P w = .ok (.tuple #[.agg cs, tmps.getD u undef]) w := by
  have hp' : tmps[p]?.getD undef = .pointer (some ⟨g, 0, none⟩) := by simpa using hp
  simp [results, h, hp', asAddr, run_loadVar_row w g t ty cs fr d hg hu hd hi]

set_option maxRecDepth 100000 in
set_option maxHeartbeats 4000000 in
theorem pipeDecode_any (s : ByteArray) (hs : s.size ≤ 140737488355328) (w : World) : Calls Tryz.prog 28 #[.string s] w fun e w' => e = .returned (.tuple #[(Pp.dec s.data.toList).1.v, .int .i64 (Pp.dec s.data.toList).2]) ∧ Below w.heap.size w w' := by
  have hsm : s.size ≤ maxLen := by unfold maxLen; omega
  obtain ⟨c, wc, hcv, hb, hBc, -⟩ := conv_string (w.alloc (.cells #[.int .i64 0, .int .i64 0, .int .i64 0, .string ⟨#[]⟩] 28)) s hsm
  rw [World.size_alloc] at hcv hb
  have hlen := dl s
  have hZ := blk_new w (.cells #[.int .i64 0, .int .i64 0, .int .i64 0, .string ⟨#[]⟩] 28)
  have hZc := hBc.heapS hZ
  generalize hD : Pp.dec s.data.toList = D
  have HD := Lib.hid hD
  clear hD
  generalize s.data.toList = l at *
  unfold Pp.v
  go_enter Tryz.func28, Tryz.ntmps28
  go_wp2_with (go_at_call 108; refine (newReader_any _ l _ hb.bytes (by omega)).mono ?_; rintro e w1 ⟨r, rfl, hr, hR1, hB1⟩)
  have hZ1 := hB1.heapS hZc
  have hrn : w.heap.size ≠ r := by have := lt_of_block hZc; omega
  refine (number_any 1073741824 r l 0 w1 hR1).mono ?_
  rintro e w2 ⟨rfl, hR2, hF2⟩
  generalize ha : Cd.rnum 1073741824 l 0 = a at hR2
  go_wp2_with fail
  refine (number_any 64 r _ _ w2 hR2).mono ?_
  rintro e w3 ⟨rfl, hR3, hF3⟩
  generalize hb2 : Cd.rnum 64 a.2.1 a.2.2 = b at hR3
  go_wp2_with fail
  refine (number_any 64 r _ _ w3 hR3).mono ?_
  rintro e w4 ⟨rfl, hR4, hF4⟩
  generalize hc2 : Cd.rnum 64 b.2.1 b.2.2 = c3 at hR4
  go_wp2_with fail
  refine (text_any 256 r _ _ w4 (by decide) hR4).mono ?_
  rintro e w5 ⟨rfl, hR5, hF5⟩
  generalize hd2 : Cd.rtxt 256 c3.2.1 c3.2.2 = d at hR5
  have hF := ((hF2.trans hF3).trans hF4).trans hF5
  have hZ5 := hF.heap hrn hZ1
  have hX : Hid (Pp.read l = (⟨a.1, b.1, c3.1, bs d.1⟩, Cd.rclose d.2.1 d.2.2)) := Lib.hid (by simp only [Pp.read, ha, hb2, hc2, hd2])
  clear ha hb2 hc2 hd2
  have hBall : Below w.heap.size w w5 := ((below_new1 w _).trans' (hBc.trans' hB1)).trans (hF.below (by have := hB1.size; have := hBc.size; simp at this; omega) (fun i hi => by subst hi; have := hBc.size; simp at this; omega))
  generalize hk : Cd.rclose d.2.1 d.2.2 = k at *
  generalize hq : (⟨a.1, b.1, c3.1, bs d.1⟩ : Pp) = q at *
  have e1 : (a.1 : Int) = q.e := by rw [← hq]
  have e2 : (b.1 : Int) = q.r := by rw [← hq]
  have e3 : (c3.1 : Int) = q.w := by rw [← hq]
  have e4 : bs d.1 = q.b := by rw [← hq]
  go_wp2_with fail
  have hZ6 := blk_alloc hZ5 (.cells #[.int .i64 q.e, .int .i64 q.r, .int .i64 q.w, .string q.b] 28)
  have hQ6 := blk_new w5 (.cells #[.int .i64 q.e, .int .i64 q.r, .int .i64 q.w, .string q.b] 28)
  have hlt6 : w.heap.size < w5.heap.size := lt_of_block hZ5
  have hcl := close_any r _ _ _ (hR5.kept (KeepT.of_below (below_new1 w5 (.cells #[.int .i64 q.e, .int .i64 q.r, .int .i64 q.w, .string q.b] 28))))
  rw [hk] at hcl
  have hBall6 : Below w.heap.size w (w5.alloc (.cells #[.int .i64 q.e, .int .i64 q.r, .int .i64 q.w, .string q.b] 28)) := hBall.alloc hBall.size _
  clear hk hq e1 e2 e3 e4 hR5 hF hF2 hF3 hF4 hF5 hR1 hR2 hR3 hR4 hB1 hBc hb hcv
  have hchk := fun w => pipeCheck_any q w
  unfold Pp.v at hchk
  have hx := hX.out
  by_cases hk0 : k = 0
  · subst hk0
    by_cases hqe : q.err = 0
    · have hDv : D = (q, 0) := by rw [← HD.out, Pp.dec, hx, if_pos ⟨rfl, hqe⟩]
      subst hDv
      rw [hqe] at hchk
      clear hqe hx hX HD
      refine hcl.mono ?_
      rintro e w6 ⟨rfl, nq, rfl⟩
      obtain ⟨x0, x1, x2, x3⟩ := blk4 hQ6
      go_wp2_with (first | (go_at_call 30; refine (hchk _).mono ?_; rintro e w7 ⟨rfl, hB7⟩; have hZ7 := hB7.heapS (show _ = some _ from hZ6); obtain ⟨y0, y1, y2, y3⟩ := blk4 (hB7.heapS (show _ = some _ from hQ6))) | (refine wpList_store_row rfl 28 _ _ rfl w.heap.size #[.int .i64 q.e, .int .i64 q.r, .int .i64 q.w, .string q.b] rfl rfl 28 _ hZ7 (by kernel_rfl) rfl (by simp [Value.oneCell']) ?_))
      refine bodyPost_ret (results_row_tmp rfl _ _ w.heap.size 28 #[.int .i64 q.e, .int .i64 q.r, .int .i64 q.w, .string q.b] (0, 0) _ rfl (setRow_heap _ _ _ _ _ _ hZ7) Tryz.underlying28 rfl (by kernel_rfl)) rfl ⟨rfl, ?_⟩
      exact ((hBall6.drewN nq).trans' hB7).setRow (Nat.le_refl _) _
    · have hDv : D = (Pp.zero, 3) := by rw [← HD.out, Pp.dec, hx, if_neg (fun h => hqe h.2)]
      subst hDv
      have hqe2 : (q.err != 0) = true := by rw [bne_iff_ne]; exact hqe
      clear hx hX HD
      generalize q.err = er at *
      refine hcl.mono ?_
      rintro e w6 ⟨rfl, nq, rfl⟩
      obtain ⟨x0, x1, x2, x3⟩ := blk4 hQ6
      go_wp2_with (first | (go_at_call 30; refine (hchk _).mono ?_; rintro e w7 ⟨rfl, hB7⟩; have hZ7 := hB7.heapS (show _ = some _ from hZ6)) | (refine wpList_store_row rfl 28 _ _ rfl w.heap.size #[.int .i64 0, .int .i64 0, .int .i64 0, .string ⟨#[]⟩] rfl rfl 28 _ hZ7 (by kernel_rfl) rfl (by simp [Value.oneCell']) ?_))
      refine bodyPost_ret (results_row_tmp rfl _ _ w.heap.size 28 #[.int .i64 0, .int .i64 0, .int .i64 0, .string ⟨#[]⟩] (0, 0) _ rfl (setRow_heap _ _ _ _ _ _ hZ7) Tryz.underlying28 rfl (by kernel_rfl)) rfl ⟨rfl, ?_⟩
      exact ((hBall6.drewN nq).trans' hB7).setRow (Nat.le_refl _) _
  · have hDv : D = (Pp.zero, 3) := by rw [← HD.out, Pp.dec, hx, if_neg (fun h => hk0 h.1)]
    subst hDv
    have hk2 : ((k : Int) != 0) = true := by rw [bne_iff_ne]; omega
    clear hx hX HD hk0
    refine hcl.mono ?_
    rintro e w6 ⟨rfl, nq, rfl⟩
    have hZ7 : ((w5.alloc (.cells #[.int .i64 q.e, .int .i64 q.r, .int .i64 q.w, .string q.b] 28)).drewN nq).heap[w.heap.size]? = some _ := hZ6
    go_wp2_with (refine wpList_store_row rfl 28 _ _ rfl w.heap.size #[.int .i64 0, .int .i64 0, .int .i64 0, .string ⟨#[]⟩] rfl rfl 28 _ hZ7 (by kernel_rfl) rfl (by simp [Value.oneCell']) ?_)
    refine bodyPost_ret (results_row_tmp rfl _ _ w.heap.size 28 #[.int .i64 0, .int .i64 0, .int .i64 0, .string ⟨#[]⟩] (0, 0) _ rfl (setRow_heap _ _ _ _ _ _ hZ7) Tryz.underlying28 rfl (by kernel_rfl)) rfl ⟨rfl, ?_⟩
    exact (hBall6.drewN nq).setRow (Nat.le_refl _) _

end Go.Proofs.YtdjjfjnkkgmadaaGreatDoor
