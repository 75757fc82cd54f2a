/-
  PortEncodes and PortDecodes: their walks.
-/
import Derived.Test.YtdjjfjnkkgmadaaGreatDoorPortO
import Derived.Test.YtdjjfjnkkgmadaaGreatDoorPortH
namespace Go.Proofs.YtdjjfjnkkgmadaaGreatDoor
open Go Go.RowKit

set_option maxRecDepth 100000 in
set_option maxHeartbeats 8000000 in
theorem portDecodes_any (s : ByteArray) (w : World) : Calls Tryz.prog 6 #[.string s] w fun e w' => e = .returned (.bool true) ∧ Below w.heap.size w w' := by
  have m1 : (if (2000 : Int) < (s.size : Int) then (2000 : Int) else (s.size : Int)) = ((min s.size 2000 : Nat) : Int) := by split <;> omega
  have n1 : min s.size 2000 ≤ s.size := Nat.min_le_left _ _
  have n2 : min s.size 2000 ≤ 2000 := Nat.min_le_right _ _
  generalize min s.size 2000 = k1 at *
  have ht : (s.extract 0 k1).size ≤ 2000 := by simp only [ByteArray.size_extract]; omega
  have hd1 := fun w => portDecode_any (s.extract 0 k1) (by omega) w
  have hd2 := fun w => ldecode_any (s.extract 0 k1) (by omega) w
  have hz := fun h => Po.dec_zero (l := (s.extract 0 k1).data.toList) h
  have hsm := dec_small (s.extract 0 k1).data.toList
  have htt := bs_of (s.extract 0 k1)
  generalize (s.extract 0 k1).data.toList = lt at *
  generalize Po.dec lt = D at *
  obtain ⟨q, qe⟩ := D
  simp only at hd1 hd2 hz hsm
  have hEq := fun W v1 v2 h1 h2 => portEqual_any q q v1 v2 W h1 h2
  simp only [decide_true] at hEq
  have hkn := known37_any
  by_cases h0 : qe = 0
  · subst h0
    have henc := fun W v h => lencode_ok q v W h (hz rfl).1
    rw [(hz rfl).2, htt] at henc
    clear hz htt
    have hss : ((s.extract 0 k1).toList == (s.extract 0 k1).toList) = true := by simp
    unfold Po.v at *
    go_enter Tryz.func6, Tryz.ntmps6
    go_wp2_with (first | (go_at_call 44; refine (hd1 _).mono ?_; rintro e w1 ⟨qv, rfl, ho1, hB1⟩; obtain ⟨a1, c1, rfl⟩ := owns_slice ho1; have hX1 := blk_new w1 (.cells #[.string q.o, .int .i64 q.e, .int .i64 q.l, .slice a1 q.q.length c1] 56); have hp1 := (pks_of_owns ho1 hsm).below (below_new1 w1 (.cells #[.string q.o, .int .i64 q.e, .int .i64 q.l, .slice a1 q.q.length c1] 56))) | (go_at_call 47; refine (hd2 _).mono ?_; rintro e w2 ⟨qv2, rfl, ho2, hB2⟩; obtain ⟨a2, c2, rfl⟩ := owns_slice ho2; have hX2 := blk_new w2 (.cells #[.string q.o, .int .i64 q.e, .int .i64 q.l, .slice a2 q.q.length c2] 56); have hp2 := (pks_of_owns ho2 hsm).below (below_new1 w2 (.cells #[.string q.o, .int .i64 q.e, .int .i64 q.l, .slice a2 q.q.length c2] 56)); have hX1a := blk_alloc (hB2.heapS hX1) (.cells #[.string q.o, .int .i64 q.e, .int .i64 q.l, .slice a2 q.q.length c2] 56); have hp1a := (hp1.below hB2).below (below_new1 w2 (.cells #[.string q.o, .int .i64 q.e, .int .i64 q.l, .slice a2 q.q.length c2] 56))) | (go_at_call 41; refine (hkn _).mono ?_; rintro e w3 ⟨rfl, hB3⟩; have hX1b := hB3.heapS hX1a; have hX2b := hB3.heapS hX2; obtain ⟨x0, x1, x2, x3⟩ := blk4 hX1b; obtain ⟨y0, y1, y2, y3⟩ := blk4 hX2b) | (go_at_call 46; refine (hEq _ _ _ (hp1a.below hB3) (hp2.below hB3)).mono ?_; rintro e w4 ⟨rfl, hB4⟩; have hX1c := hB4.heapS hX1b; obtain ⟨z0, z1, z2, z3⟩ := blk4 hX1c) | (go_at_call 45; refine (henc _ _ ((hp1a.below hB3).below hB4)).mono ?_; rintro e w5 ⟨rfl, hB5⟩))
    go_ret
    exact ⟨rfl, (((((hB1.trans' (below_new1 w1 _)).trans' hB2).trans' (below_new1 w2 _)).trans' hB3).trans' hB4).trans' hB5⟩
  · have h0' : (qe != 0) = true := by rw [bne_iff_ne]; exact h0
    have h0e : (qe == qe) = true := by simp
    clear hz htt h0
    unfold Po.v at *
    go_enter Tryz.func6, Tryz.ntmps6
    go_wp2_with (first | (go_at_call 44; refine (hd1 _).mono ?_; rintro e w1 ⟨qv, rfl, ho1, hB1⟩; obtain ⟨a1, c1, rfl⟩ := owns_slice ho1; have hX1 := blk_new w1 (.cells #[.string q.o, .int .i64 q.e, .int .i64 q.l, .slice a1 q.q.length c1] 56); have hp1 := (pks_of_owns ho1 hsm).below (below_new1 w1 (.cells #[.string q.o, .int .i64 q.e, .int .i64 q.l, .slice a1 q.q.length c1] 56))) | (go_at_call 47; refine (hd2 _).mono ?_; rintro e w2 ⟨qv2, rfl, ho2, hB2⟩; obtain ⟨a2, c2, rfl⟩ := owns_slice ho2; have hX2 := blk_new w2 (.cells #[.string q.o, .int .i64 q.e, .int .i64 q.l, .slice a2 q.q.length c2] 56); have hp2 := (pks_of_owns ho2 hsm).below (below_new1 w2 (.cells #[.string q.o, .int .i64 q.e, .int .i64 q.l, .slice a2 q.q.length c2] 56)); have hX1a := blk_alloc (hB2.heapS hX1) (.cells #[.string q.o, .int .i64 q.e, .int .i64 q.l, .slice a2 q.q.length c2] 56); have hp1a := (hp1.below hB2).below (below_new1 w2 (.cells #[.string q.o, .int .i64 q.e, .int .i64 q.l, .slice a2 q.q.length c2] 56))) | (go_at_call 41; refine (hkn _).mono ?_; rintro e w3 ⟨rfl, hB3⟩; have hX1b := hB3.heapS hX1a; have hX2b := hB3.heapS hX2; obtain ⟨x0, x1, x2, x3⟩ := blk4 hX1b; obtain ⟨y0, y1, y2, y3⟩ := blk4 hX2b) | (go_at_call 46; refine (hEq _ _ _ (hp1a.below hB3) (hp2.below hB3)).mono ?_; rintro e w4 ⟨rfl, hB4⟩))
    go_ret
    exact ⟨rfl, ((((hB1.trans' (below_new1 w1 _)).trans' hB2).trans' (below_new1 w2 _)).trans' hB3).trans' hB4⟩

set_option maxRecDepth 100000 in
set_option maxHeartbeats 8000000 in
theorem portEncodes_any (p : Po) (v : Value) (w : World) (hq : PksIn w v p.q) : Calls Tryz.prog 5 #[p.v v] w fun e w' => e = .returned (.bool true) ∧ Below w.heap.size w w' := by
  have hX := blk_new w (.cells #[.string p.o, .int .i64 p.e, .int .i64 p.l, v] 56)
  have hA := below_new1 w (.cells #[.string p.o, .int .i64 p.e, .int .i64 p.l, v] 56)
  have hsh := short_any p v _ (hq.below hA)
  have hso : p.short.o.size ≤ maxLen := by
    have : p.short.o.size ≤ 100 := by simp only [Po.short, ByteArray.size_extract]; omega
    unfold maxLen; omega
  have hkn := known37_any
  generalize p.short = S at *
  have hc1 := fun W v h => portCheck_any S v W h hso
  have hc2 := fun W v h => lportCheck_any S v W h hso
  clear hq
  by_cases h0 : S.err = 0
  · have henc := fun W v h => portEncode_ok S v W h h0
    have hlenc := fun W v h => lencode_ok S v W h h0
    have hsz : (bs S.enc).size ≤ 140737488355328 := by rw [bs_size]; have := Po.enc_size h0; omega
    have hdec := fun W => portDecode_any (bs S.enc) hsz W
    have hsm := dec_small (bs S.enc).data.toList
    rw [bs_list, Po.dec_enc h0] at hdec hsm
    have hEq := fun W v1 v2 h1 h2 => portEqual_any S S v1 v2 W h1 h2
    simp only [decide_true] at hEq
    rw [h0] at hc1 hc2
    have hss : ((bs S.enc).toList == (bs S.enc).toList) = true := by simp
    generalize bs S.enc = out at *
    clear h0 hsz
    unfold Po.v at *
    simp only at hdec hsm
    go_enter Tryz.func5, Tryz.ntmps5
    go_wp2_with (first | (go_at_call 39; refine hsh.mono ?_; rintro e w1 ⟨v', rfl, ho1, hsm1, hB1⟩; obtain ⟨a1, c1, rfl⟩ := owns_slice ho1; have hX1 := hB1.heapS hX) | (refine wpList_store_row rfl 56 _ _ rfl w.heap.size #[.string S.o, .int .i64 S.e, .int .i64 S.l, .slice a1 S.q.length c1] rfl rfl 56 _ hX1 (by kernel_rfl) rfl (by simp [Value.oneCell']) ?_; have hX2 := setRow_heap w1 w.heap.size _ #[.string S.o, .int .i64 S.e, .int .i64 S.l, .slice a1 S.q.length c1] 56 (0, 0) hX1; have hp2 := pks_of_owns (owns_low ho1 (Fr.setRow1 w1 w.heap.size #[.string S.o, .int .i64 S.e, .int .i64 S.l, .slice a1 S.q.length c1]) (fun k hk => by simp; omega)) hsm1; have hB2 := (hA.trans' hB1).setRow (Nat.le_refl _) #[.string S.o, .int .i64 S.e, .int .i64 S.l, .slice a1 S.q.length c1]; generalize w1.setRow w.heap.size #[.string S.o, .int .i64 S.e, .int .i64 S.l, .slice a1 S.q.length c1] = W2 at *; obtain ⟨x0, x1, x2, x3⟩ := blk4 hX2; have hl2 := lt_of_block hX2) | (go_at_call 40; refine (henc _ _ hp2).mono ?_; rintro e w3 ⟨rfl, hB3⟩; have hX3 := hB3.heapS hX2) | (go_at_call 41; refine (hkn _).mono ?_; rintro e w4 ⟨rfl, hB4⟩; have hX4 := hB4.heapS hX3; obtain ⟨y0, y1, y2, y3⟩ := blk4 hX4; have hp4 := (hp2.below hB3).below hB4) | (go_at_call 42; refine (hc2 _ _ hp4).mono ?_; rintro e w5 ⟨rfl, hB5⟩; have hX5 := hB5.heapS hX4; obtain ⟨z0, z1, z2, z3⟩ := blk4 hX5; have hp5 := hp4.below hB5) | (go_at_call 43; refine (hc1 _ _ hp5).mono ?_; rintro e w6 ⟨rfl, hB6⟩; have hX6 := hB6.heapS hX5; have hp6 := hp5.below hB6) | (go_at_call 44; refine (hdec _).mono ?_; rintro e w7 ⟨v7, rfl, ho7, hB7⟩; obtain ⟨a7, c7, rfl⟩ := owns_slice ho7; have hY := blk_new w7 (.cells #[.string S.o, .int .i64 S.e, .int .i64 S.l, .slice a7 S.q.length c7] 56); have hq7 := (pks_of_owns ho7 hsm).below (below_new1 w7 (.cells #[.string S.o, .int .i64 S.e, .int .i64 S.l, .slice a7 S.q.length c7] 56)); have hX7 := blk_alloc (hB7.heapS hX6) (.cells #[.string S.o, .int .i64 S.e, .int .i64 S.l, .slice a7 S.q.length c7] 56); have hp7 := (hp6.below hB7).below (below_new1 w7 (.cells #[.string S.o, .int .i64 S.e, .int .i64 S.l, .slice a7 S.q.length c7] 56)); obtain ⟨u0, u1, u2, u3⟩ := blk4 hX7) | (go_at_call 45; refine (hlenc _ _ hp7).mono ?_; rintro e w8 ⟨rfl, hB8⟩; have hX8 := hB8.heapS hX7; have hY8 := hB8.heapS hY; obtain ⟨r0, r1, r2, r3⟩ := blk4 hX8; obtain ⟨q0, q1, q2, q3⟩ := blk4 hY8) | (go_at_call 46; refine (hEq _ _ _ (hp7.below hB8) (hq7.below hB8)).mono ?_; rintro e w9 ⟨rfl, hB9⟩))
    go_ret
    exact ⟨rfl, hB2.trans (((((((hB3.trans' hB4).trans' hB5).trans' hB6).trans' hB7).trans' (below_new1 w7 _)).trans' hB8).trans' hB9 |>.mono hB2.size)⟩
  · have henc := fun W v h => portEncode_err S v W h hso S.err rfl h0
    have h0' : (S.err != 0) = true := by rw [bne_iff_ne]; exact h0
    generalize S.err = er at *
    have hee : (er != er) = false := by simp
    clear h0
    unfold Po.v at *
    go_enter Tryz.func5, Tryz.ntmps5
    go_wp2_with (first | (go_at_call 39; refine hsh.mono ?_; rintro e w1 ⟨v', rfl, ho1, hsm1, hB1⟩; obtain ⟨a1, c1, rfl⟩ := owns_slice ho1; have hX1 := hB1.heapS hX) | (refine wpList_store_row rfl 56 _ _ rfl w.heap.size #[.string S.o, .int .i64 S.e, .int .i64 S.l, .slice a1 S.q.length c1] rfl rfl 56 _ hX1 (by kernel_rfl) rfl (by simp [Value.oneCell']) ?_; have hX2 := setRow_heap w1 w.heap.size _ #[.string S.o, .int .i64 S.e, .int .i64 S.l, .slice a1 S.q.length c1] 56 (0, 0) hX1; have hp2 := pks_of_owns (owns_low ho1 (Fr.setRow1 w1 w.heap.size #[.string S.o, .int .i64 S.e, .int .i64 S.l, .slice a1 S.q.length c1]) (fun k hk => by simp; omega)) hsm1; have hB2 := (hA.trans' hB1).setRow (Nat.le_refl _) #[.string S.o, .int .i64 S.e, .int .i64 S.l, .slice a1 S.q.length c1]; generalize w1.setRow w.heap.size #[.string S.o, .int .i64 S.e, .int .i64 S.l, .slice a1 S.q.length c1] = W2 at *; obtain ⟨x0, x1, x2, x3⟩ := blk4 hX2; have hl2 := lt_of_block hX2) | (go_at_call 40; refine (henc _ _ hp2).mono ?_; rintro e w3 ⟨rfl, hB3⟩; have hX3 := hB3.heapS hX2) | (go_at_call 41; refine (hkn _).mono ?_; rintro e w4 ⟨rfl, hB4⟩; have hX4 := hB4.heapS hX3; obtain ⟨y0, y1, y2, y3⟩ := blk4 hX4; have hp4 := (hp2.below hB3).below hB4) | (go_at_call 42; refine (hc2 _ _ hp4).mono ?_; rintro e w5 ⟨rfl, hB5⟩; have hX5 := hB5.heapS hX4; obtain ⟨z0, z1, z2, z3⟩ := blk4 hX5; have hp5 := hp4.below hB5) | (go_at_call 43; refine (hc1 _ _ hp5).mono ?_; rintro e w6 ⟨rfl, hB6⟩))
    go_ret
    exact ⟨rfl, hB2.trans ((((hB3.trans' hB4).trans' hB5).trans' hB6).mono hB2.size)⟩

end Go.Proofs.YtdjjfjnkkgmadaaGreatDoor
