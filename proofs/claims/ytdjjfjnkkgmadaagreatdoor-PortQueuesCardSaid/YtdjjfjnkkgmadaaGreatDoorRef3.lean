/-
  The reference's Decode of chapter 32.
-/
import Derived.Test.YtdjjfjnkkgmadaaGreatDoorRef2
namespace Go.Proofs.YtdjjfjnkkgmadaaGreatDoor
open Go Go.RowKit

theorem tk_len (l : List UInt8) : (tk l).2.length ≤ l.length := by
  unfold tk
  cases Cd.dec 9 true l with
  | ok n s => simp
  | err e => simp

theorem take_l (l : List UInt8) (hl : l.length ≤ 140737488355328) (w : World) :
    Calls Tryz.prog 112 #[.string (bs l)] w fun e w' => e = .returned (.tuple #[.int .i64 (tk l).1, .string (bs (tk l).2)]) ∧ Below w.heap.size w w' := by
  have := take_any (bs l) (by rw [bs_size]; exact hl) w
  rw [bs_list] at this
  exact this

theorem str_ne {a b : ByteArray} (h : a ≠ b) : (a.toList == b.toList) = false := by
  simp only [beq_eq_false_iff_ne, ne_eq]
  intro e
  rw [ByteArray.toList_eq, ByteArray.toList_eq] at e
  exact h (ByteArray.ext (Array.toList_inj.1 e))

set_option maxRecDepth 100000 in
set_option maxHeartbeats 8000000 in
theorem decodeR_any (l : List UInt8) (hl : l.length ≤ 140737488355328) (w : World) : Calls Tryz.prog 29 #[.string (bs l)] w fun e w' => e = .returned (.tuple #[(rdec l).1.v, .int .i64 (rdec l).2]) ∧ Below w.heap.size w w' := by
  have n1 := tk_len l
  have t1 := fun w => take_l l hl w
  obtain ⟨a, ha⟩ : ∃ a, a = tk l := ⟨_, rfl⟩
  rw [← ha] at t1 n1
  have n2 := tk_len a.2
  have t2 := fun w => take_l a.2 (by omega) w
  obtain ⟨b, hb⟩ : ∃ b, b = tk a.2 := ⟨_, rfl⟩
  rw [← hb] at t2 n2
  have n3 := tk_len b.2
  have t3 := fun w => take_l b.2 (by omega) w
  obtain ⟨c, hc⟩ : ∃ c, c = tk b.2 := ⟨_, rfl⟩
  rw [← hc] at t3 n3
  have n4 := tk_len c.2
  have t4 := fun w => take_l c.2 (by omega) w
  obtain ⟨d, hd⟩ : ∃ d, d = tk c.2 := ⟨_, rfl⟩
  rw [← hd] at t4 n4
  obtain ⟨p, hp⟩ : ∃ p : Pp, p = ⟨a.1, b.1, c.1, bs d.2⟩ := ⟨_, rfl⟩
  have hg : guess l = (p, d.1, d.2) := by rw [hp, hd, hc, hb, ha]; rfl
  have hr : rdec l = if d.1 < 0 ∨ d.1 ≠ (d.2.length : Int) then (Pp.zero, 3) else if p.err ≠ 0 ∨ p.enc ≠ l then (Pp.zero, 3) else (p, 0) := by rw [rdec, hg]
  have e1 : a.1 = p.e := by rw [hp]
  have e2 : b.1 = p.r := by rw [hp]
  have e3 : c.1 = p.w := by rw [hp]
  have e4 : bs d.2 = p.b := by rw [hp]
  have e5 : (d.2.length : Int) = (p.b.size : Int) := by rw [← e4, bs_size]
  rw [e1] at t1
  rw [e2] at t2
  rw [e3] at t3
  rw [e4] at t4
  rw [e5] at hr
  generalize d.1 = n at *
  generalize bs a.2 = sa at *
  generalize bs b.2 = sb at *
  generalize bs c.2 = sc at *
  generalize hs : bs l = s at *
  have hZ := blk_alloc (blk_new w (.cells #[.int .i64 0, .int .i64 0, .int .i64 0, .string ⟨#[]⟩] 23)) (.cells #[.int .i64 0, .int .i64 0, .int .i64 0, .string ⟨#[]⟩] 23)
  have hB := below_new2 w (.cells #[.int .i64 0, .int .i64 0, .int .i64 0, .string ⟨#[]⟩] 23) (.cells #[.int .i64 0, .int .i64 0, .int .i64 0, .string ⟨#[]⟩] 23)
  have hP := blk_new1 w (.cells #[.int .i64 0, .int .i64 0, .int .i64 0, .string ⟨#[]⟩] 23) (.cells #[.int .i64 0, .int .i64 0, .int .i64 0, .string ⟨#[]⟩] 23)
  clear ha hb hc hd hp hg e1 e2 e3 e4 e5 n1 n2 n3 n4
  have Hr := Lib.hid hr
  have Hs := Lib.hid hs
  clear hr hs
  go_enter Tryz.func29, Tryz.ntmps29
  go_wp2_with fail
  refine (t1 _).mono ?_
  rintro e w1 ⟨rfl, hB1⟩
  have hZ1 := hB1.heapS hZ
  have hP1 := hB1.heapS hP
  obtain ⟨c0, c1, c2, c3⟩ := blk4 hP1
  have f0 : ∀ j, w1.frozen? ⟨w.heap.size + 1, j, none⟩ = false := fun j => blk_free hP1 j
  have hlt1 : w.heap.size + 1 < w1.heap.size := lt_of_block hP1
  have hA1 : Below w.heap.size w w1 := hB.trans' hB1
  go_wp2_with fail
  have hPs1 : (w1.setCell ⟨w.heap.size + 1, 0, none⟩ (.int .i64 p.e)).heap[w.heap.size + 1]? = some (.cells #[.int .i64 p.e, .int .i64 0, .int .i64 0, .string ⟨#[]⟩] 23) := blk_set hP1 0 _
  have hZs1 : (w1.setCell ⟨w.heap.size + 1, 0, none⟩ (.int .i64 p.e)).heap[w.heap.size]? = _ := blk_set_other hZ1 (by simp) _
  have hAs1 : Below w.heap.size w (w1.setCell ⟨w.heap.size + 1, 0, none⟩ (.int .i64 p.e)) := hA1.setCell (by simp) _
  refine (t2 _).mono ?_
  rintro e w2 ⟨rfl, hB2⟩
  have hZ2 := hB2.heapS hZs1
  have hP2 := hB2.heapS hPs1
  have hA2 : Below w.heap.size w w2 := hAs1.trans' hB2
  clear c0 c1 c2 c3 f0
  obtain ⟨c0, c1, c2, c3⟩ := blk4 hP2
  have f0 : ∀ j, w2.frozen? ⟨w.heap.size + 1, j, none⟩ = false := fun j => blk_free hP2 j
  have hlt2 : w.heap.size + 1 < w2.heap.size := lt_of_block hP2
  go_wp2_with fail
  have hPs2 : (w2.setCell ⟨w.heap.size + 1, 1, none⟩ (.int .i64 p.r)).heap[w.heap.size + 1]? = some (.cells #[.int .i64 p.e, .int .i64 p.r, .int .i64 0, .string ⟨#[]⟩] 23) := blk_set hP2 1 _
  have hZs2 : (w2.setCell ⟨w.heap.size + 1, 1, none⟩ (.int .i64 p.r)).heap[w.heap.size]? = _ := blk_set_other hZ2 (by simp) _
  have hAs2 : Below w.heap.size w (w2.setCell ⟨w.heap.size + 1, 1, none⟩ (.int .i64 p.r)) := hA2.setCell (by simp) _
  refine (t3 _).mono ?_
  rintro e w3 ⟨rfl, hB3⟩
  have hZ3 := hB3.heapS hZs2
  have hP3 := hB3.heapS hPs2
  have hA3 : Below w.heap.size w w3 := hAs2.trans' hB3
  clear c0 c1 c2 c3 f0
  obtain ⟨c0, c1, c2, c3⟩ := blk4 hP3
  have f0 : ∀ j, w3.frozen? ⟨w.heap.size + 1, j, none⟩ = false := fun j => blk_free hP3 j
  have hlt3 : w.heap.size + 1 < w3.heap.size := lt_of_block hP3
  go_wp2_with fail
  have hPs3 : (w3.setCell ⟨w.heap.size + 1, 2, none⟩ (.int .i64 p.w)).heap[w.heap.size + 1]? = some (.cells #[.int .i64 p.e, .int .i64 p.r, .int .i64 p.w, .string ⟨#[]⟩] 23) := blk_set hP3 2 _
  have hZs3 : (w3.setCell ⟨w.heap.size + 1, 2, none⟩ (.int .i64 p.w)).heap[w.heap.size]? = _ := blk_set_other hZ3 (by simp) _
  have hAs3 : Below w.heap.size w (w3.setCell ⟨w.heap.size + 1, 2, none⟩ (.int .i64 p.w)) := hA3.setCell (by simp) _
  refine (t4 _).mono ?_
  rintro e w4 ⟨rfl, hB4⟩
  have hZ4 := hB4.heapS hZs3
  have hP4 := hB4.heapS hPs3
  have hA4 : Below w.heap.size w w4 := hAs3.trans' hB4
  clear c0 c1 c2 c3 f0
  obtain ⟨c0, c1, c2, c3⟩ := blk4 hP4
  have f0 : ∀ j, w4.frozen? ⟨w.heap.size + 1, j, none⟩ = false := fun j => blk_free hP4 j
  have hlt4 : w.heap.size + 1 < w4.heap.size := lt_of_block hP4
  by_cases hn0 : n < 0
  · have hr_ : (n < 0 ∨ n ≠ (p.b.size : Int)) := .inl hn0
    go_wp2_with (refine wpList_store_row rfl 23 _ _ rfl w.heap.size #[.int .i64 0, .int .i64 0, .int .i64 0, .string ⟨#[]⟩] rfl rfl 23 _ hZ4 (by kernel_rfl) rfl (by simp [Value.oneCell']) ?_)
    refine bodyPost_ret (results_row_tmp rfl _ _ w.heap.size 23 #[.int .i64 0, .int .i64 0, .int .i64 0, .string ⟨#[]⟩] (0, 0) _ rfl (setRow_heap _ _ _ _ _ _ hZ4) Tryz.underlying23 rfl (by kernel_rfl)) rfl ⟨by rw [Hr.out, if_pos hr_]; rfl, hA4.setRow (Nat.le_refl _) _⟩
  · by_cases hn1 : n = (p.b.size : Int)
    · have hnb : (n != (p.b.size : Int)) = false := by simpa using hn1
      have hn0' : (n < 0) = False := by simpa using hn0
      have hr1 : ¬ (n < 0 ∨ n ≠ (p.b.size : Int)) := by rintro (h | h); exact hn0 h; exact h hn1
      have Hr1 := Lib.hid hr1
      clear hn0' hr1 hn1
      have hPs4 : (w4.setCell ⟨w.heap.size + 1, 3, none⟩ (.string p.b)).heap[w.heap.size + 1]? = some (.cells #[.int .i64 p.e, .int .i64 p.r, .int .i64 p.w, .string p.b] 23) := blk_set hP4 3 _
      have hZs4 : (w4.setCell ⟨w.heap.size + 1, 3, none⟩ (.string p.b)).heap[w.heap.size]? = _ := blk_set_other hZ4 (by simp) _
      have hAs4 : Below w.heap.size w (w4.setCell ⟨w.heap.size + 1, 3, none⟩ (.string p.b)) := hA4.setCell (by simp) _
      by_cases hpe : p.err = 0
      · have henc := fun w => encodeR_ok p hpe w
        unfold Pp.v at henc
        go_wp2_with fail
        refine (henc _).mono ?_
        rintro e w5 ⟨rfl, hB5⟩
        obtain ⟨x0, x1, x2, x3⟩ := blk4 (hB5.heapS hPs4)
        have hZ5 := hB5.heapS hZs4
        have hA5 : Below w.heap.size w w5 := hAs4.trans' hB5
        have hlt5 : w.heap.size + 1 < w5.heap.size := lt_of_block (hB5.heapS hPs4)
        by_cases hpl : p.enc = l
        · have hse : bs p.enc = s := by rw [hpl]; exact Hs.out
          rw [hse]
          have hrr : rdec l = (p, 0) := by rw [Hr.out, if_neg Hr1.out, if_neg (by rintro (h | h); exact h hpe; exact h hpl)]
          have Hrr := Lib.hid hrr
          clear hse hrr hpl hpe Hr
          go_wp2_with (refine wpList_store_row rfl 23 _ _ rfl w.heap.size #[.int .i64 p.e, .int .i64 p.r, .int .i64 p.w, .string p.b] rfl rfl 23 _ hZ5 (by kernel_rfl) rfl (by simp [Value.oneCell']) ?_)
          refine bodyPost_ret (results_row_tmp rfl _ _ w.heap.size 23 #[.int .i64 p.e, .int .i64 p.r, .int .i64 p.w, .string p.b] (0, 0) _ rfl (setRow_heap _ _ _ _ _ _ hZ5) Tryz.underlying23 rfl (by kernel_rfl)) rfl ⟨by rw [Hrr.out]; rfl, hA5.setRow (Nat.le_refl _) _⟩
        · have hne : bs p.enc ≠ s := fun h => hpl (bs_inj (h.trans Hs.out.symm))
          have hrr : rdec l = (Pp.zero, 3) := by rw [Hr.out, if_neg Hr1.out, if_pos (.inr hpl)]
          have Hrr := Lib.hid hrr
          clear hrr hpl hpe Hr
          generalize bs p.enc = z at *
          have hne1 := str_ne hne
          go_wp2_with (refine wpList_store_row rfl 23 _ _ rfl w.heap.size #[.int .i64 0, .int .i64 0, .int .i64 0, .string ⟨#[]⟩] rfl rfl 23 _ hZ5 (by kernel_rfl) rfl (by simp [Value.oneCell']) ?_)
          refine bodyPost_ret (results_row_tmp rfl _ _ w.heap.size 23 #[.int .i64 0, .int .i64 0, .int .i64 0, .string ⟨#[]⟩] (0, 0) _ rfl (setRow_heap _ _ _ _ _ _ hZ5) Tryz.underlying23 rfl (by kernel_rfl)) rfl ⟨by rw [Hrr.out]; rfl, hA5.setRow (Nat.le_refl _) _⟩
      · have henc := fun w => encodeR_err p _ rfl hpe w
        have hpe' : (p.err != 0) = true := by simpa using hpe
        unfold Pp.v at henc
        go_wp2_with fail
        refine (henc _).mono ?_
        rintro e w5 ⟨rfl, hB5⟩
        have hZ5 := hB5.heapS hZs4
        have hA5 : Below w.heap.size w w5 := hAs4.trans' hB5
        go_wp2_with (refine wpList_store_row rfl 23 _ _ rfl w.heap.size #[.int .i64 0, .int .i64 0, .int .i64 0, .string ⟨#[]⟩] rfl rfl 23 _ hZ5 (by kernel_rfl) rfl (by simp [Value.oneCell']) ?_)
        refine bodyPost_ret (results_row_tmp rfl _ _ w.heap.size 23 #[.int .i64 0, .int .i64 0, .int .i64 0, .string ⟨#[]⟩] (0, 0) _ rfl (setRow_heap _ _ _ _ _ _ hZ5) Tryz.underlying23 rfl (by kernel_rfl)) rfl ⟨by rw [Hr.out, if_neg Hr1.out, if_pos (.inl hpe)]; rfl, hA5.setRow (Nat.le_refl _) _⟩
    · have hnb : (n != (p.b.size : Int)) = true := by simpa using hn1
      have hr_ : (n < 0 ∨ n ≠ (p.b.size : Int)) := .inr hn1
      clear hn1
      go_wp2_with (refine wpList_store_row rfl 23 _ _ rfl w.heap.size #[.int .i64 0, .int .i64 0, .int .i64 0, .string ⟨#[]⟩] rfl rfl 23 _ hZ4 (by kernel_rfl) rfl (by simp [Value.oneCell']) ?_)
      refine bodyPost_ret (results_row_tmp rfl _ _ w.heap.size 23 #[.int .i64 0, .int .i64 0, .int .i64 0, .string ⟨#[]⟩] (0, 0) _ rfl (setRow_heap _ _ _ _ _ _ hZ4) Tryz.underlying23 rfl (by kernel_rfl)) rfl ⟨by rw [Hr.out, if_pos hr_]; rfl, hA4.setRow (Nat.le_refl _) _⟩

end Go.Proofs.YtdjjfjnkkgmadaaGreatDoor
