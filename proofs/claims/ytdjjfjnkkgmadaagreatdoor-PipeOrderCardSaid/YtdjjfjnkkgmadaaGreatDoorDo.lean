/-
  replevinlaw32.do at an operation of epoch 1, on a view that shows a pipe of that epoch (the cases by wip/tools).
-/
import Derived.Test.YtdjjfjnkkgmadaaGreatDoorOrder0
import Derived.Deep.CutRange
import Derived.Deep.CutBlock
import Derived.Deep.RegionWith
import Derived.Deep.RegionHeld3
namespace Go.Proofs.YtdjjfjnkkgmadaaGreatDoor
open Go Go.RowKit

theorem HP.setCell {w : World} {v : VW} {k : Nat} {q : Option Pp} (h : HP w v k q) {b : Nat} (hb : ¬ v.S b) {old : Array Value} {t : TypeId} {f : Nat × Nat} (ho : w.heap[b]? = some (.cells old t f)) (ht : t ≠ 149 ∧ ¬ StT t) (i : Nat) (x : Value) : HP (w.setCell ⟨b, i, none⟩ x) v k q := by
  obtain ⟨g, R, N, h1, h2⟩ := h
  refine ⟨g, R, N, h1.fr ((Fr.refl (fun j => j = b) w).setCell (a := ⟨b, i, none⟩) (.inl rfl) x) (fun k hk e => hb (e ▸ hk)) ?_, h2⟩
  intro k c t' f' hk hc
  rw [hk, ho] at hc
  cases hc
  exact ht

theorem HP.setRow {w : World} {v : VW} {k : Nat} {q : Option Pp} (h : HP w v k q) {b : Nat} (hb : ¬ v.S b) {old : Array Value} {t : TypeId} {f : Nat × Nat} (ho : w.heap[b]? = some (.cells old t f)) (ht : t ≠ 149 ∧ ¬ StT t) (cs : Array Value) : HP (w.setRow b cs) v k q := by
  obtain ⟨g, R, N, h1, h2⟩ := h
  exact ⟨g, R, N, h1.setRow hb ho ht cs, h2⟩

theorem HP.drew {w : World} {v : VW} {k : Nat} {q : Option Pp} (h : HP w v k q) : HP w.drew v k q := h.below (Below.refl _ w).drew

/-- The cells of a result. -/
def resC (e n : Int) (s : ByteArray) (p : Pp) : Array Value := #[.int .i64 e, .int .i64 n, .string s, .int .i64 p.e, .int .i64 p.r, .int .i64 p.w, .string p.b]

set_option maxRecDepth 100000 in
set_option maxHeartbeats 8000000 in
theorem do_0 (W : World) (v : VW) (k : Nat) (q : Pp) (h : HP W v k (some q)) (hk : k < 1000000) (hq : OQ q) (kd : Nat) (hkd : kd < 256) (h6 : kd % 8 = 0) (n : Int) (s : ByteArray) (b : Bool) :
    Calls Tryz.prog 48 #[v.p, opV kd 1 n s b] W fun e w' => ∃ (er n' : Int) (out : ByteArray) (p q' : Pp) (k' : Nat), e = .returned (resV er n' out p) ∧ HP w' v k' (some q') ∧ OQ q' ∧ k ≤ k' ∧ k' ≤ k + 1 ∧ Fr v.S W w' ∧ Did kd s n' out q q' := by
  have hone := one_any
  have hmk := fun W h => mk_OQ W v k q h
  have hrd := fun W h => rd_OQ W v k q h hk hq n
  have hwr := fun W h => wr_OQ W v k q h hk hq (s.extract 0 (min s.size 600)) (by simp only [ByteArray.size_extract]; omega)
  have hjn := fun W h => jn_OQ W v k q h hk hq b
  have hgt := fun W h => get_hp W v k q h 1 hq.1
  have hB3 := below_new3 W (.cells #[.int .u8 kd, .int .i64 1, .int .i64 n, .string s, .bool b] 68) (.cells (resC 0 0 ⟨#[]⟩ Pp.zero) 70) (.cells (resC 0 0 ⟨#[]⟩ Pp.zero) 70)
  have h0 := blk_alloc (blk_alloc (blk_new W (.cells #[.int .u8 kd, .int .i64 1, .int .i64 n, .string s, .bool b] 68)) (.cells (resC 0 0 ⟨#[]⟩ Pp.zero) 70)) (.cells (resC 0 0 ⟨#[]⟩ Pp.zero) 70)
  have h1 := blk_alloc (blk_new1 W (.cells #[.int .u8 kd, .int .i64 1, .int .i64 n, .string s, .bool b] 68) (.cells (resC 0 0 ⟨#[]⟩ Pp.zero) 70)) (.cells (resC 0 0 ⟨#[]⟩ Pp.zero) 70)
  have h2 := blk_new2 W (.cells #[.int .u8 kd, .int .i64 1, .int .i64 n, .string s, .bool b] 68) (.cells (resC 0 0 ⟨#[]⟩ Pp.zero) 70) (.cells (resC 0 0 ⟨#[]⟩ Pp.zero) 70)
  have hP3 := h.below hB3
  have hns : ∀ i, v.S i → i < W.heap.size := fun i hi => Nat.lt_of_not_le fun hle => h.notS hle hi
  have hkk := hk
  clear h hk
  have hmin : (if (600 : Int) < (s.size : Int) then (600 : Int) else (s.size : Int)) = ((min s.size 600 : Nat) : Int) := by split <;> omega
  have hmle : min s.size 600 ≤ s.size := Nat.min_le_left _ _
  generalize hmm : min s.size 600 = mm at *
  have Hmm := Lib.hid hmm
  clear hmm
  unfold opV resV
  unfold Pp.v at hgt
  have hz : resC 0 0 ⟨#[]⟩ Pp.zero = #[.int .i64 0, .int .i64 0, .string ⟨#[]⟩, .int .i64 0, .int .i64 0, .int .i64 0, .string ⟨#[]⟩] := rfl
  simp only [hz] at *
  clear hz
  generalize oneV = ov at *
  unfold VW.p at *
  go_enter Tryz.func48, Tryz.ntmps48
  go_upto_block 0 with fail
  generalize ((W.alloc (.cells #[.int .u8 kd, .int .i64 1, .int .i64 n, .string s, .bool b] 68)).alloc (.cells #[.int .i64 0, .int .i64 0, .string ⟨#[]⟩, .int .i64 0, .int .i64 0, .int .i64 0, .string ⟨#[]⟩] 70)).alloc (.cells #[.int .i64 0, .int .i64 0, .string ⟨#[]⟩, .int .i64 0, .int .i64 0, .int .i64 0, .string ⟨#[]⟩] 70) = W3 at *
  obtain ⟨c0, c1, c2, c3, c4⟩ := blk5 h0
  have hlt : W.heap.size < W3.heap.size := lt_of_block h0
  have h8 : (kd : Int) % 8 = ((kd % 8 : Nat) : Int) := by omega
  have hr8l : kd % 8 < 8 := by omega
  simp only [h8]
  generalize hr8 : kd % 8 = r8 at *
  go_cut [] from 9 to 81 (fun wx => ∃ (er n' : Int) (out : ByteArray) (p q' : Pp) (k' : Nat), HP wx v k' (some q') ∧ OQ q' ∧ k ≤ k' ∧ k' ≤ k + 1 ∧ Did kd s n' out q q' ∧ wx.heap[W.heap.size + 2]? = some (.cells (resC er n' out p) 70) ∧ wx.heap[W.heap.size + 1]? = some (.cells #[.int .i64 0, .int .i64 0, .string ⟨#[]⟩, .int .i64 0, .int .i64 0, .int .i64 0, .string ⟨#[]⟩] 70) ∧ Fr v.S W wx)
  case first =>
    obtain rfl : r8 = 0 := by omega
    clear hrd hwr hjn hgt hmin hmle
    go_wp2_with fail
    go_region_with (first | (go_at_call 35; refine (hone _).mono ?_; rintro e wx ⟨rfl, hBx⟩; have hBy : Below W3.heap.size W3 wx := (by first | exact hBx | exact (Below.refl _ W3).drew.trans' hBx); have hPx := hP3.below hBy; have hx0 := hBy.heapS h0; obtain ⟨d0, d1, d2, d3, d4⟩ := blk5 hx0; have hltx : W.heap.size < wx.heap.size := lt_of_block hx0) | (go_at_call 34; refine (hmk _ (by assumption)).mono ?_; rintro e wz ⟨rfl, hPz, hG⟩; have hz2 := hG.heap (fun h => by have := hns _ h; omega) (hBy.heapS h2); have hz1 := hG.heap (fun h => by have := hns _ h; omega) (hBy.heapS h1); obtain ⟨ez0, ez1, ez2, ez3, ez4, ez5, ez6⟩ := blk7 (show wz.heap[W.heap.size + 1 + 1]? = _ from hz2); have efz : ∀ j, wz.frozen? ⟨W.heap.size + 1 + 1, j, none⟩ = false := (fun j => blk_free hz2 j); have hltz : W.heap.size + 1 + 1 < wz.heap.size := lt_of_block hz2; have hFz : Fr v.S W wz := ((Fr.of_below hB3).trans (Fr.of_below hBy)).trans hG; have hnz : ¬ v.S (W.heap.size + 2) := (fun h => by have := hns _ h; omega)))
    all_goals (go_wp2_with fail; go_meet)
    all_goals exact ⟨13, 0, ⟨#[]⟩, Pp.zero, q, k, (hPz.setCell hnz hz2 (by simp [StT]) 0 _), hq, Nat.le_refl _, Nat.le_succ _, .inl ⟨by omega, (empty_append _).symm⟩, (blk_set hz2 0 _), (blk_set_other hz1 (by simp) _), (hFz.setCell (.inr (by simp; omega)) _)⟩
  case rest =>
    obtain ⟨er, n', out, p, q', k', hP4, hq4, hk1, hk2, hdid, hz2, hz1, hF4⟩ := hcut
    obtain ⟨ez0, ez1, ez2, ez3, ez4, ez5, ez6⟩ := blk7 (show wc.heap[W.heap.size + 1 + 1]? = some (.cells #[.int .i64 er, .int .i64 n', .string out, .int .i64 p.e, .int .i64 p.r, .int .i64 p.w, .string p.b] 70) from hz2)
    go_wp2_with (refine wpList_store_row rfl 70 _ _ rfl (W.heap.size + 1) #[.int .i64 er, .int .i64 n', .string out, .int .i64 p.e, .int .i64 p.r, .int .i64 p.w, .string p.b] rfl rfl 70 _ hz1 (by kernel_rfl) rfl (by simp [Value.oneCell']) ?_)
    refine bodyPost_ret (v := .agg #[.int .i64 er, .int .i64 n', .string out, .int .i64 p.e, .int .i64 p.r, .int .i64 p.w, .string p.b]) (results_cell_row rfl _ _ (W.heap.size + 1) 70 _ (0, 0) _ rfl (setRow_heap _ _ _ _ _ _ hz1) Tryz.underlying70 rfl (by kernel_rfl)) rfl ⟨er, n', out, p, q', k', rfl, hP4.setRow (fun h => by have := hns _ h; omega) hz1 (by simp [StT]) _, hq4, hk1, hk2, ⟨hF4.os, hF4.tape, hF4.output, by simp [World.setRow]; exact hF4.size, fun j hj hs => (setRow_other _ _ j _ (by omega)).trans (hF4.block j hj hs)⟩, hdid⟩

set_option maxRecDepth 100000 in
set_option maxHeartbeats 8000000 in
theorem do_1 (W : World) (v : VW) (k : Nat) (q : Pp) (h : HP W v k (some q)) (hk : k < 1000000) (hq : OQ q) (kd : Nat) (hkd : kd < 256) (h6 : kd % 8 = 1) (n : Int) (s : ByteArray) (b : Bool) :
    Calls Tryz.prog 48 #[v.p, opV kd 1 n s b] W fun e w' => ∃ (er n' : Int) (out : ByteArray) (p q' : Pp) (k' : Nat), e = .returned (resV er n' out p) ∧ HP w' v k' (some q') ∧ OQ q' ∧ k ≤ k' ∧ k' ≤ k + 1 ∧ Fr v.S W w' ∧ Did kd s n' out q q' := by
  have hone := one_any
  have hmk := fun W h => mk_OQ W v k q h
  have hrd := fun W h => rd_OQ W v k q h hk hq n
  have hwr := fun W h => wr_OQ W v k q h hk hq (s.extract 0 (min s.size 600)) (by simp only [ByteArray.size_extract]; omega)
  have hjn := fun W h => jn_OQ W v k q h hk hq b
  have hgt := fun W h => get_hp W v k q h 1 hq.1
  have hB3 := below_new3 W (.cells #[.int .u8 kd, .int .i64 1, .int .i64 n, .string s, .bool b] 68) (.cells (resC 0 0 ⟨#[]⟩ Pp.zero) 70) (.cells (resC 0 0 ⟨#[]⟩ Pp.zero) 70)
  have h0 := blk_alloc (blk_alloc (blk_new W (.cells #[.int .u8 kd, .int .i64 1, .int .i64 n, .string s, .bool b] 68)) (.cells (resC 0 0 ⟨#[]⟩ Pp.zero) 70)) (.cells (resC 0 0 ⟨#[]⟩ Pp.zero) 70)
  have h1 := blk_alloc (blk_new1 W (.cells #[.int .u8 kd, .int .i64 1, .int .i64 n, .string s, .bool b] 68) (.cells (resC 0 0 ⟨#[]⟩ Pp.zero) 70)) (.cells (resC 0 0 ⟨#[]⟩ Pp.zero) 70)
  have h2 := blk_new2 W (.cells #[.int .u8 kd, .int .i64 1, .int .i64 n, .string s, .bool b] 68) (.cells (resC 0 0 ⟨#[]⟩ Pp.zero) 70) (.cells (resC 0 0 ⟨#[]⟩ Pp.zero) 70)
  have hP3 := h.below hB3
  have hns : ∀ i, v.S i → i < W.heap.size := fun i hi => Nat.lt_of_not_le fun hle => h.notS hle hi
  have hkk := hk
  clear h hk
  have hmin : (if (600 : Int) < (s.size : Int) then (600 : Int) else (s.size : Int)) = ((min s.size 600 : Nat) : Int) := by split <;> omega
  have hmle : min s.size 600 ≤ s.size := Nat.min_le_left _ _
  generalize hmm : min s.size 600 = mm at *
  have Hmm := Lib.hid hmm
  clear hmm
  unfold opV resV
  unfold Pp.v at hgt
  have hz : resC 0 0 ⟨#[]⟩ Pp.zero = #[.int .i64 0, .int .i64 0, .string ⟨#[]⟩, .int .i64 0, .int .i64 0, .int .i64 0, .string ⟨#[]⟩] := rfl
  simp only [hz] at *
  clear hz
  generalize oneV = ov at *
  unfold VW.p at *
  go_enter Tryz.func48, Tryz.ntmps48
  go_upto_block 0 with fail
  generalize ((W.alloc (.cells #[.int .u8 kd, .int .i64 1, .int .i64 n, .string s, .bool b] 68)).alloc (.cells #[.int .i64 0, .int .i64 0, .string ⟨#[]⟩, .int .i64 0, .int .i64 0, .int .i64 0, .string ⟨#[]⟩] 70)).alloc (.cells #[.int .i64 0, .int .i64 0, .string ⟨#[]⟩, .int .i64 0, .int .i64 0, .int .i64 0, .string ⟨#[]⟩] 70) = W3 at *
  obtain ⟨c0, c1, c2, c3, c4⟩ := blk5 h0
  have hlt : W.heap.size < W3.heap.size := lt_of_block h0
  have h8 : (kd : Int) % 8 = ((kd % 8 : Nat) : Int) := by omega
  have hr8l : kd % 8 < 8 := by omega
  simp only [h8]
  generalize hr8 : kd % 8 = r8 at *
  go_cut [] from 9 to 81 (fun wx => ∃ (er n' : Int) (out : ByteArray) (p q' : Pp) (k' : Nat), HP wx v k' (some q') ∧ OQ q' ∧ k ≤ k' ∧ k' ≤ k + 1 ∧ Did kd s n' out q q' ∧ wx.heap[W.heap.size + 2]? = some (.cells (resC er n' out p) 70) ∧ wx.heap[W.heap.size + 1]? = some (.cells #[.int .i64 0, .int .i64 0, .string ⟨#[]⟩, .int .i64 0, .int .i64 0, .int .i64 0, .string ⟨#[]⟩] 70) ∧ Fr v.S W wx)
  case first =>
    obtain rfl : r8 = 1 := by omega
    clear hmk hwr hjn hgt hmin hmle
    go_wp2_with fail
    go_region_held3 (fun wy => wy.cell? ⟨W.heap.size, 1, none⟩ = some (.int .i64 1) ∧ wy.cell? ⟨W.heap.size, 2, none⟩ = some (.int .i64 n)) (first | exact ⟨c1, c2⟩ | exact ⟨d1, d2⟩ | exact ⟨z1, z2⟩ | exact ⟨zs _ _ _, zs _ _ _⟩ | exact ⟨zss _ _ _ _ _, zss _ _ _ _ _⟩) (first | (go_at_call 35; refine (hone _).mono ?_; rintro e wx ⟨rfl, hBx⟩; have hBy : Below W3.heap.size W3 wx := (by first | exact hBx | exact (Below.refl _ W3).drew.trans' hBx); have hPx := hP3.below hBy; have hx0 := hBy.heapS h0; obtain ⟨d0, d1, d2, d3, d4⟩ := blk5 hx0; have hltx : W.heap.size < wx.heap.size := lt_of_block hx0) | (go_at_call 37; refine (hrd _ (by assumption)).mono ?_; rintro e wz ⟨out, f, q', k', rfl, hPz, hq', hk1, hk2, hG, hbb⟩; have hz2 := hG.heap (fun h => by have := hns _ h; omega) (hBy.heapS h2); have hz1 := hG.heap (fun h => by have := hns _ h; omega) (hBy.heapS h1); obtain ⟨ez0, ez1, ez2, ez3, ez4, ez5, ez6⟩ := blk7 (show wz.heap[W.heap.size + 1 + 1]? = _ from hz2); have efz : ∀ j, wz.frozen? ⟨W.heap.size + 1 + 1, j, none⟩ = false := (fun j => blk_free hz2 j); have hltz : W.heap.size + 1 + 1 < wz.heap.size := lt_of_block hz2; have hz0 := hG.heap (fun h => by have := hns _ h; omega) hx0; obtain ⟨z0, z1, z2, z3, z4⟩ := blk5 hz0; have zs := (fun (j i : Nat) (x : Value) => blk_cell (blk_set_other hz0 (a := ⟨W.heap.size + 1 + 1, j, none⟩) (show W.heap.size ≠ W.heap.size + 1 + 1 by omega) x) i); have zss := (fun (j i : Nat) (x : Value) (j' : Nat) (x' : Value) => blk_cell (blk_set_other (blk_set_other hz0 (a := ⟨W.heap.size + 1 + 1, j, none⟩) (show W.heap.size ≠ W.heap.size + 1 + 1 by omega) x) (a := ⟨W.heap.size + 1 + 1, j', none⟩) (show W.heap.size ≠ W.heap.size + 1 + 1 by omega) x') i); have hFz : Fr v.S W wz := ((Fr.of_below hB3).trans (Fr.of_below hBy)).trans hG; have hnz : ¬ v.S (W.heap.size + 2) := (fun h => by have := hns _ h; omega)))
    all_goals (go_wp2_with fail; go_meet)
    all_goals exact ⟨f, 0, out, Pp.zero, q', k', ((hPz.setCell hnz hz2 (by simp [StT]) 2 _).setCell hnz (blk_set hz2 2 _) (by simp [StT]) 0 _), hq', hk1, hk2, .inl ⟨by omega, hbb⟩, (blk_set (blk_set hz2 2 _) 0 _), (blk_set_other (blk_set_other hz1 (by simp) _) (by simp) _), ((hFz.setCell (.inr (by simp; omega)) _).setCell (.inr (by simp; omega)) _)⟩
  case rest =>
    obtain ⟨er, n', out, p, q', k', hP4, hq4, hk1, hk2, hdid, hz2, hz1, hF4⟩ := hcut
    obtain ⟨ez0, ez1, ez2, ez3, ez4, ez5, ez6⟩ := blk7 (show wc.heap[W.heap.size + 1 + 1]? = some (.cells #[.int .i64 er, .int .i64 n', .string out, .int .i64 p.e, .int .i64 p.r, .int .i64 p.w, .string p.b] 70) from hz2)
    go_wp2_with (refine wpList_store_row rfl 70 _ _ rfl (W.heap.size + 1) #[.int .i64 er, .int .i64 n', .string out, .int .i64 p.e, .int .i64 p.r, .int .i64 p.w, .string p.b] rfl rfl 70 _ hz1 (by kernel_rfl) rfl (by simp [Value.oneCell']) ?_)
    refine bodyPost_ret (v := .agg #[.int .i64 er, .int .i64 n', .string out, .int .i64 p.e, .int .i64 p.r, .int .i64 p.w, .string p.b]) (results_cell_row rfl _ _ (W.heap.size + 1) 70 _ (0, 0) _ rfl (setRow_heap _ _ _ _ _ _ hz1) Tryz.underlying70 rfl (by kernel_rfl)) rfl ⟨er, n', out, p, q', k', rfl, hP4.setRow (fun h => by have := hns _ h; omega) hz1 (by simp [StT]) _, hq4, hk1, hk2, ⟨hF4.os, hF4.tape, hF4.output, by simp [World.setRow]; exact hF4.size, fun j hj hs => (setRow_other _ _ j _ (by omega)).trans (hF4.block j hj hs)⟩, hdid⟩

set_option maxRecDepth 100000 in
set_option maxHeartbeats 8000000 in
theorem do_2 (W : World) (v : VW) (k : Nat) (q : Pp) (h : HP W v k (some q)) (hk : k < 1000000) (hq : OQ q) (kd : Nat) (hkd : kd < 256) (h6 : kd % 8 = 2) (n : Int) (s : ByteArray) (b : Bool) :
    Calls Tryz.prog 48 #[v.p, opV kd 1 n s b] W fun e w' => ∃ (er n' : Int) (out : ByteArray) (p q' : Pp) (k' : Nat), e = .returned (resV er n' out p) ∧ HP w' v k' (some q') ∧ OQ q' ∧ k ≤ k' ∧ k' ≤ k + 1 ∧ Fr v.S W w' ∧ Did kd s n' out q q' := by
  have hone := one_any
  have hmk := fun W h => mk_OQ W v k q h
  have hrd := fun W h => rd_OQ W v k q h hk hq n
  have hwr := fun W h => wr_OQ W v k q h hk hq (s.extract 0 (min s.size 600)) (by simp only [ByteArray.size_extract]; omega)
  have hjn := fun W h => jn_OQ W v k q h hk hq b
  have hgt := fun W h => get_hp W v k q h 1 hq.1
  have hB3 := below_new3 W (.cells #[.int .u8 kd, .int .i64 1, .int .i64 n, .string s, .bool b] 68) (.cells (resC 0 0 ⟨#[]⟩ Pp.zero) 70) (.cells (resC 0 0 ⟨#[]⟩ Pp.zero) 70)
  have h0 := blk_alloc (blk_alloc (blk_new W (.cells #[.int .u8 kd, .int .i64 1, .int .i64 n, .string s, .bool b] 68)) (.cells (resC 0 0 ⟨#[]⟩ Pp.zero) 70)) (.cells (resC 0 0 ⟨#[]⟩ Pp.zero) 70)
  have h1 := blk_alloc (blk_new1 W (.cells #[.int .u8 kd, .int .i64 1, .int .i64 n, .string s, .bool b] 68) (.cells (resC 0 0 ⟨#[]⟩ Pp.zero) 70)) (.cells (resC 0 0 ⟨#[]⟩ Pp.zero) 70)
  have h2 := blk_new2 W (.cells #[.int .u8 kd, .int .i64 1, .int .i64 n, .string s, .bool b] 68) (.cells (resC 0 0 ⟨#[]⟩ Pp.zero) 70) (.cells (resC 0 0 ⟨#[]⟩ Pp.zero) 70)
  have hP3 := h.below hB3
  have hns : ∀ i, v.S i → i < W.heap.size := fun i hi => Nat.lt_of_not_le fun hle => h.notS hle hi
  have hkk := hk
  clear h hk
  have hmin : (if (600 : Int) < (s.size : Int) then (600 : Int) else (s.size : Int)) = ((min s.size 600 : Nat) : Int) := by split <;> omega
  have hmle : min s.size 600 ≤ s.size := Nat.min_le_left _ _
  generalize hmm : min s.size 600 = mm at *
  have Hmm := Lib.hid hmm
  clear hmm
  unfold opV resV
  unfold Pp.v at hgt
  have hz : resC 0 0 ⟨#[]⟩ Pp.zero = #[.int .i64 0, .int .i64 0, .string ⟨#[]⟩, .int .i64 0, .int .i64 0, .int .i64 0, .string ⟨#[]⟩] := rfl
  simp only [hz] at *
  clear hz
  generalize oneV = ov at *
  unfold VW.p at *
  go_enter Tryz.func48, Tryz.ntmps48
  go_upto_block 0 with fail
  generalize ((W.alloc (.cells #[.int .u8 kd, .int .i64 1, .int .i64 n, .string s, .bool b] 68)).alloc (.cells #[.int .i64 0, .int .i64 0, .string ⟨#[]⟩, .int .i64 0, .int .i64 0, .int .i64 0, .string ⟨#[]⟩] 70)).alloc (.cells #[.int .i64 0, .int .i64 0, .string ⟨#[]⟩, .int .i64 0, .int .i64 0, .int .i64 0, .string ⟨#[]⟩] 70) = W3 at *
  obtain ⟨c0, c1, c2, c3, c4⟩ := blk5 h0
  have hlt : W.heap.size < W3.heap.size := lt_of_block h0
  have h8 : (kd : Int) % 8 = ((kd % 8 : Nat) : Int) := by omega
  have hr8l : kd % 8 < 8 := by omega
  simp only [h8]
  generalize hr8 : kd % 8 = r8 at *
  go_cut [] from 9 to 81 (fun wx => ∃ (er n' : Int) (out : ByteArray) (p q' : Pp) (k' : Nat), HP wx v k' (some q') ∧ OQ q' ∧ k ≤ k' ∧ k' ≤ k + 1 ∧ Did kd s n' out q q' ∧ wx.heap[W.heap.size + 2]? = some (.cells (resC er n' out p) 70) ∧ wx.heap[W.heap.size + 1]? = some (.cells #[.int .i64 0, .int .i64 0, .string ⟨#[]⟩, .int .i64 0, .int .i64 0, .int .i64 0, .string ⟨#[]⟩] 70) ∧ Fr v.S W wx)
  case first =>
    obtain rfl : r8 = 2 := by omega
    clear hmk hwr hjn hgt hmin hmle
    go_wp2_with fail
    go_region_held3 (fun wy => wy.cell? ⟨W.heap.size, 1, none⟩ = some (.int .i64 1) ∧ wy.cell? ⟨W.heap.size, 2, none⟩ = some (.int .i64 n)) (first | exact ⟨c1, c2⟩ | exact ⟨d1, d2⟩ | exact ⟨z1, z2⟩ | exact ⟨zs _ _ _, zs _ _ _⟩ | exact ⟨zss _ _ _ _ _, zss _ _ _ _ _⟩) (first | (go_at_call 35; refine (hone _).mono ?_; rintro e wx ⟨rfl, hBx⟩; have hBy : Below W3.heap.size W3 wx := (by first | exact hBx | exact (Below.refl _ W3).drew.trans' hBx); have hPx := hP3.below hBy; have hx0 := hBy.heapS h0; obtain ⟨d0, d1, d2, d3, d4⟩ := blk5 hx0; have hltx : W.heap.size < wx.heap.size := lt_of_block hx0) | (go_at_call 37; refine (hrd _ (by assumption)).mono ?_; rintro e wz ⟨out, f, q', k', rfl, hPz, hq', hk1, hk2, hG, hbb⟩; have hz2 := hG.heap (fun h => by have := hns _ h; omega) (hBy.heapS h2); have hz1 := hG.heap (fun h => by have := hns _ h; omega) (hBy.heapS h1); obtain ⟨ez0, ez1, ez2, ez3, ez4, ez5, ez6⟩ := blk7 (show wz.heap[W.heap.size + 1 + 1]? = _ from hz2); have efz : ∀ j, wz.frozen? ⟨W.heap.size + 1 + 1, j, none⟩ = false := (fun j => blk_free hz2 j); have hltz : W.heap.size + 1 + 1 < wz.heap.size := lt_of_block hz2; have hz0 := hG.heap (fun h => by have := hns _ h; omega) hx0; obtain ⟨z0, z1, z2, z3, z4⟩ := blk5 hz0; have zs := (fun (j i : Nat) (x : Value) => blk_cell (blk_set_other hz0 (a := ⟨W.heap.size + 1 + 1, j, none⟩) (show W.heap.size ≠ W.heap.size + 1 + 1 by omega) x) i); have zss := (fun (j i : Nat) (x : Value) (j' : Nat) (x' : Value) => blk_cell (blk_set_other (blk_set_other hz0 (a := ⟨W.heap.size + 1 + 1, j, none⟩) (show W.heap.size ≠ W.heap.size + 1 + 1 by omega) x) (a := ⟨W.heap.size + 1 + 1, j', none⟩) (show W.heap.size ≠ W.heap.size + 1 + 1 by omega) x') i); have hFz : Fr v.S W wz := ((Fr.of_below hB3).trans (Fr.of_below hBy)).trans hG; have hnz : ¬ v.S (W.heap.size + 2) := (fun h => by have := hns _ h; omega)))
    all_goals (go_wp2_with fail; go_meet)
    all_goals exact ⟨f, 0, out, Pp.zero, q', k', ((hPz.setCell hnz hz2 (by simp [StT]) 2 _).setCell hnz (blk_set hz2 2 _) (by simp [StT]) 0 _), hq', hk1, hk2, .inl ⟨by omega, hbb⟩, (blk_set (blk_set hz2 2 _) 0 _), (blk_set_other (blk_set_other hz1 (by simp) _) (by simp) _), ((hFz.setCell (.inr (by simp; omega)) _).setCell (.inr (by simp; omega)) _)⟩
  case rest =>
    obtain ⟨er, n', out, p, q', k', hP4, hq4, hk1, hk2, hdid, hz2, hz1, hF4⟩ := hcut
    obtain ⟨ez0, ez1, ez2, ez3, ez4, ez5, ez6⟩ := blk7 (show wc.heap[W.heap.size + 1 + 1]? = some (.cells #[.int .i64 er, .int .i64 n', .string out, .int .i64 p.e, .int .i64 p.r, .int .i64 p.w, .string p.b] 70) from hz2)
    go_wp2_with (refine wpList_store_row rfl 70 _ _ rfl (W.heap.size + 1) #[.int .i64 er, .int .i64 n', .string out, .int .i64 p.e, .int .i64 p.r, .int .i64 p.w, .string p.b] rfl rfl 70 _ hz1 (by kernel_rfl) rfl (by simp [Value.oneCell']) ?_)
    refine bodyPost_ret (v := .agg #[.int .i64 er, .int .i64 n', .string out, .int .i64 p.e, .int .i64 p.r, .int .i64 p.w, .string p.b]) (results_cell_row rfl _ _ (W.heap.size + 1) 70 _ (0, 0) _ rfl (setRow_heap _ _ _ _ _ _ hz1) Tryz.underlying70 rfl (by kernel_rfl)) rfl ⟨er, n', out, p, q', k', rfl, hP4.setRow (fun h => by have := hns _ h; omega) hz1 (by simp [StT]) _, hq4, hk1, hk2, ⟨hF4.os, hF4.tape, hF4.output, by simp [World.setRow]; exact hF4.size, fun j hj hs => (setRow_other _ _ j _ (by omega)).trans (hF4.block j hj hs)⟩, hdid⟩

set_option maxRecDepth 100000 in
set_option maxHeartbeats 8000000 in
theorem do_3 (W : World) (v : VW) (k : Nat) (q : Pp) (h : HP W v k (some q)) (hk : k < 1000000) (hq : OQ q) (kd : Nat) (hkd : kd < 256) (h6 : kd % 8 = 3) (n : Int) (s : ByteArray) (b : Bool) :
    Calls Tryz.prog 48 #[v.p, opV kd 1 n s b] W fun e w' => ∃ (er n' : Int) (out : ByteArray) (p q' : Pp) (k' : Nat), e = .returned (resV er n' out p) ∧ HP w' v k' (some q') ∧ OQ q' ∧ k ≤ k' ∧ k' ≤ k + 1 ∧ Fr v.S W w' ∧ Did kd s n' out q q' := by
  have hone := one_any
  have hmk := fun W h => mk_OQ W v k q h
  have hrd := fun W h => rd_OQ W v k q h hk hq n
  have hwr := fun W h => wr_OQ W v k q h hk hq (s.extract 0 (min s.size 600)) (by simp only [ByteArray.size_extract]; omega)
  have hjn := fun W h => jn_OQ W v k q h hk hq b
  have hgt := fun W h => get_hp W v k q h 1 hq.1
  have hB3 := below_new3 W (.cells #[.int .u8 kd, .int .i64 1, .int .i64 n, .string s, .bool b] 68) (.cells (resC 0 0 ⟨#[]⟩ Pp.zero) 70) (.cells (resC 0 0 ⟨#[]⟩ Pp.zero) 70)
  have h0 := blk_alloc (blk_alloc (blk_new W (.cells #[.int .u8 kd, .int .i64 1, .int .i64 n, .string s, .bool b] 68)) (.cells (resC 0 0 ⟨#[]⟩ Pp.zero) 70)) (.cells (resC 0 0 ⟨#[]⟩ Pp.zero) 70)
  have h1 := blk_alloc (blk_new1 W (.cells #[.int .u8 kd, .int .i64 1, .int .i64 n, .string s, .bool b] 68) (.cells (resC 0 0 ⟨#[]⟩ Pp.zero) 70)) (.cells (resC 0 0 ⟨#[]⟩ Pp.zero) 70)
  have h2 := blk_new2 W (.cells #[.int .u8 kd, .int .i64 1, .int .i64 n, .string s, .bool b] 68) (.cells (resC 0 0 ⟨#[]⟩ Pp.zero) 70) (.cells (resC 0 0 ⟨#[]⟩ Pp.zero) 70)
  have hP3 := h.below hB3
  have hns : ∀ i, v.S i → i < W.heap.size := fun i hi => Nat.lt_of_not_le fun hle => h.notS hle hi
  have hkk := hk
  clear h hk
  have hmin : (if (600 : Int) < (s.size : Int) then (600 : Int) else (s.size : Int)) = ((min s.size 600 : Nat) : Int) := by split <;> omega
  have hmle : min s.size 600 ≤ s.size := Nat.min_le_left _ _
  generalize hmm : min s.size 600 = mm at *
  have Hmm := Lib.hid hmm
  clear hmm
  unfold opV resV
  unfold Pp.v at hgt
  have hz : resC 0 0 ⟨#[]⟩ Pp.zero = #[.int .i64 0, .int .i64 0, .string ⟨#[]⟩, .int .i64 0, .int .i64 0, .int .i64 0, .string ⟨#[]⟩] := rfl
  simp only [hz] at *
  clear hz
  generalize oneV = ov at *
  unfold VW.p at *
  go_enter Tryz.func48, Tryz.ntmps48
  go_upto_block 0 with fail
  generalize ((W.alloc (.cells #[.int .u8 kd, .int .i64 1, .int .i64 n, .string s, .bool b] 68)).alloc (.cells #[.int .i64 0, .int .i64 0, .string ⟨#[]⟩, .int .i64 0, .int .i64 0, .int .i64 0, .string ⟨#[]⟩] 70)).alloc (.cells #[.int .i64 0, .int .i64 0, .string ⟨#[]⟩, .int .i64 0, .int .i64 0, .int .i64 0, .string ⟨#[]⟩] 70) = W3 at *
  obtain ⟨c0, c1, c2, c3, c4⟩ := blk5 h0
  have hlt : W.heap.size < W3.heap.size := lt_of_block h0
  have h8 : (kd : Int) % 8 = ((kd % 8 : Nat) : Int) := by omega
  have hr8l : kd % 8 < 8 := by omega
  simp only [h8]
  generalize hr8 : kd % 8 = r8 at *
  go_cut [] from 9 to 81 (fun wx => ∃ (er n' : Int) (out : ByteArray) (p q' : Pp) (k' : Nat), HP wx v k' (some q') ∧ OQ q' ∧ k ≤ k' ∧ k' ≤ k + 1 ∧ Did kd s n' out q q' ∧ wx.heap[W.heap.size + 2]? = some (.cells (resC er n' out p) 70) ∧ wx.heap[W.heap.size + 1]? = some (.cells #[.int .i64 0, .int .i64 0, .string ⟨#[]⟩, .int .i64 0, .int .i64 0, .int .i64 0, .string ⟨#[]⟩] 70) ∧ Fr v.S W wx)
  case first =>
    obtain rfl : r8 = 3 := by omega
    clear hmk hrd hjn hgt
    go_wp2_with fail
    go_region_held3 (fun wy => wy.cell? ⟨W.heap.size, 1, none⟩ = some (.int .i64 1) ∧ wy.cell? ⟨W.heap.size, 3, none⟩ = some (.string s)) (first | exact ⟨c1, c3⟩ | exact ⟨d1, d3⟩ | exact ⟨z1, z3⟩ | exact ⟨zs _ _ _, zs _ _ _⟩ | exact ⟨zss _ _ _ _ _, zss _ _ _ _ _⟩) (first | (go_at_call 35; refine (hone _).mono ?_; rintro e wx ⟨rfl, hBx⟩; have hBy : Below W3.heap.size W3 wx := (by first | exact hBx | exact (Below.refl _ W3).drew.trans' hBx); have hPx := hP3.below hBy; have hx0 := hBy.heapS h0; obtain ⟨d0, d1, d2, d3, d4⟩ := blk5 hx0; have hltx : W.heap.size < wx.heap.size := lt_of_block hx0) | (go_at_call 38; refine (hwr _ (by assumption)).mono ?_; rintro e wz ⟨c, f, q', k', rfl, hPz, hq', hk1, hk2, hG, hcs, hbb⟩; have hz2 := hG.heap (fun h => by have := hns _ h; omega) (hBy.heapS h2); have hz1 := hG.heap (fun h => by have := hns _ h; omega) (hBy.heapS h1); obtain ⟨ez0, ez1, ez2, ez3, ez4, ez5, ez6⟩ := blk7 (show wz.heap[W.heap.size + 1 + 1]? = _ from hz2); have efz : ∀ j, wz.frozen? ⟨W.heap.size + 1 + 1, j, none⟩ = false := (fun j => blk_free hz2 j); have hltz : W.heap.size + 1 + 1 < wz.heap.size := lt_of_block hz2; have hz0 := hG.heap (fun h => by have := hns _ h; omega) hx0; obtain ⟨z0, z1, z2, z3, z4⟩ := blk5 hz0; have zs := (fun (j i : Nat) (x : Value) => blk_cell (blk_set_other hz0 (a := ⟨W.heap.size + 1 + 1, j, none⟩) (show W.heap.size ≠ W.heap.size + 1 + 1 by omega) x) i); have zss := (fun (j i : Nat) (x : Value) (j' : Nat) (x' : Value) => blk_cell (blk_set_other (blk_set_other hz0 (a := ⟨W.heap.size + 1 + 1, j, none⟩) (show W.heap.size ≠ W.heap.size + 1 + 1 by omega) x) (a := ⟨W.heap.size + 1 + 1, j', none⟩) (show W.heap.size ≠ W.heap.size + 1 + 1 by omega) x') i); have hFz : Fr v.S W wz := ((Fr.of_below hB3).trans (Fr.of_below hBy)).trans hG; have hnz : ¬ v.S (W.heap.size + 2) := (fun h => by have := hns _ h; omega)))
    all_goals (go_wp2_with fail; go_meet)
    all_goals exact ⟨f, c, ⟨#[]⟩, Pp.zero, q', k', ((hPz.setCell hnz hz2 (by simp [StT]) 1 _).setCell hnz (blk_set hz2 1 _) (by simp [StT]) 0 _), hq', hk1, hk2, .inr ⟨by omega, rfl, c, rfl, by simp only [ByteArray.size_extract] at hcs; omega, by rw [hbb, ByteArray.extract_extract]; congr 2; simp only [ByteArray.size_extract] at hcs; omega⟩, (blk_set (blk_set hz2 1 _) 0 _), (blk_set_other (blk_set_other hz1 (by simp) _) (by simp) _), ((hFz.setCell (.inr (by simp; omega)) _).setCell (.inr (by simp; omega)) _)⟩
  case rest =>
    obtain ⟨er, n', out, p, q', k', hP4, hq4, hk1, hk2, hdid, hz2, hz1, hF4⟩ := hcut
    obtain ⟨ez0, ez1, ez2, ez3, ez4, ez5, ez6⟩ := blk7 (show wc.heap[W.heap.size + 1 + 1]? = some (.cells #[.int .i64 er, .int .i64 n', .string out, .int .i64 p.e, .int .i64 p.r, .int .i64 p.w, .string p.b] 70) from hz2)
    go_wp2_with (refine wpList_store_row rfl 70 _ _ rfl (W.heap.size + 1) #[.int .i64 er, .int .i64 n', .string out, .int .i64 p.e, .int .i64 p.r, .int .i64 p.w, .string p.b] rfl rfl 70 _ hz1 (by kernel_rfl) rfl (by simp [Value.oneCell']) ?_)
    refine bodyPost_ret (v := .agg #[.int .i64 er, .int .i64 n', .string out, .int .i64 p.e, .int .i64 p.r, .int .i64 p.w, .string p.b]) (results_cell_row rfl _ _ (W.heap.size + 1) 70 _ (0, 0) _ rfl (setRow_heap _ _ _ _ _ _ hz1) Tryz.underlying70 rfl (by kernel_rfl)) rfl ⟨er, n', out, p, q', k', rfl, hP4.setRow (fun h => by have := hns _ h; omega) hz1 (by simp [StT]) _, hq4, hk1, hk2, ⟨hF4.os, hF4.tape, hF4.output, by simp [World.setRow]; exact hF4.size, fun j hj hs => (setRow_other _ _ j _ (by omega)).trans (hF4.block j hj hs)⟩, hdid⟩

set_option maxRecDepth 100000 in
set_option maxHeartbeats 8000000 in
theorem do_4 (W : World) (v : VW) (k : Nat) (q : Pp) (h : HP W v k (some q)) (hk : k < 1000000) (hq : OQ q) (kd : Nat) (hkd : kd < 256) (h6 : kd % 8 = 4) (n : Int) (s : ByteArray) (b : Bool) :
    Calls Tryz.prog 48 #[v.p, opV kd 1 n s b] W fun e w' => ∃ (er n' : Int) (out : ByteArray) (p q' : Pp) (k' : Nat), e = .returned (resV er n' out p) ∧ HP w' v k' (some q') ∧ OQ q' ∧ k ≤ k' ∧ k' ≤ k + 1 ∧ Fr v.S W w' ∧ Did kd s n' out q q' := by
  have hone := one_any
  have hmk := fun W h => mk_OQ W v k q h
  have hrd := fun W h => rd_OQ W v k q h hk hq n
  have hwr := fun W h => wr_OQ W v k q h hk hq (s.extract 0 (min s.size 600)) (by simp only [ByteArray.size_extract]; omega)
  have hjn := fun W h => jn_OQ W v k q h hk hq b
  have hgt := fun W h => get_hp W v k q h 1 hq.1
  have hB3 := below_new3 W (.cells #[.int .u8 kd, .int .i64 1, .int .i64 n, .string s, .bool b] 68) (.cells (resC 0 0 ⟨#[]⟩ Pp.zero) 70) (.cells (resC 0 0 ⟨#[]⟩ Pp.zero) 70)
  have h0 := blk_alloc (blk_alloc (blk_new W (.cells #[.int .u8 kd, .int .i64 1, .int .i64 n, .string s, .bool b] 68)) (.cells (resC 0 0 ⟨#[]⟩ Pp.zero) 70)) (.cells (resC 0 0 ⟨#[]⟩ Pp.zero) 70)
  have h1 := blk_alloc (blk_new1 W (.cells #[.int .u8 kd, .int .i64 1, .int .i64 n, .string s, .bool b] 68) (.cells (resC 0 0 ⟨#[]⟩ Pp.zero) 70)) (.cells (resC 0 0 ⟨#[]⟩ Pp.zero) 70)
  have h2 := blk_new2 W (.cells #[.int .u8 kd, .int .i64 1, .int .i64 n, .string s, .bool b] 68) (.cells (resC 0 0 ⟨#[]⟩ Pp.zero) 70) (.cells (resC 0 0 ⟨#[]⟩ Pp.zero) 70)
  have hP3 := h.below hB3
  have hns : ∀ i, v.S i → i < W.heap.size := fun i hi => Nat.lt_of_not_le fun hle => h.notS hle hi
  have hkk := hk
  clear h hk
  have hmin : (if (600 : Int) < (s.size : Int) then (600 : Int) else (s.size : Int)) = ((min s.size 600 : Nat) : Int) := by split <;> omega
  have hmle : min s.size 600 ≤ s.size := Nat.min_le_left _ _
  generalize hmm : min s.size 600 = mm at *
  have Hmm := Lib.hid hmm
  clear hmm
  unfold opV resV
  unfold Pp.v at hgt
  have hz : resC 0 0 ⟨#[]⟩ Pp.zero = #[.int .i64 0, .int .i64 0, .string ⟨#[]⟩, .int .i64 0, .int .i64 0, .int .i64 0, .string ⟨#[]⟩] := rfl
  simp only [hz] at *
  clear hz
  generalize oneV = ov at *
  unfold VW.p at *
  go_enter Tryz.func48, Tryz.ntmps48
  go_upto_block 0 with fail
  generalize ((W.alloc (.cells #[.int .u8 kd, .int .i64 1, .int .i64 n, .string s, .bool b] 68)).alloc (.cells #[.int .i64 0, .int .i64 0, .string ⟨#[]⟩, .int .i64 0, .int .i64 0, .int .i64 0, .string ⟨#[]⟩] 70)).alloc (.cells #[.int .i64 0, .int .i64 0, .string ⟨#[]⟩, .int .i64 0, .int .i64 0, .int .i64 0, .string ⟨#[]⟩] 70) = W3 at *
  obtain ⟨c0, c1, c2, c3, c4⟩ := blk5 h0
  have hlt : W.heap.size < W3.heap.size := lt_of_block h0
  have h8 : (kd : Int) % 8 = ((kd % 8 : Nat) : Int) := by omega
  have hr8l : kd % 8 < 8 := by omega
  simp only [h8]
  generalize hr8 : kd % 8 = r8 at *
  go_cut [] from 9 to 81 (fun wx => ∃ (er n' : Int) (out : ByteArray) (p q' : Pp) (k' : Nat), HP wx v k' (some q') ∧ OQ q' ∧ k ≤ k' ∧ k' ≤ k + 1 ∧ Did kd s n' out q q' ∧ wx.heap[W.heap.size + 2]? = some (.cells (resC er n' out p) 70) ∧ wx.heap[W.heap.size + 1]? = some (.cells #[.int .i64 0, .int .i64 0, .string ⟨#[]⟩, .int .i64 0, .int .i64 0, .int .i64 0, .string ⟨#[]⟩] 70) ∧ Fr v.S W wx)
  case first =>
    obtain rfl : r8 = 4 := by omega
    clear hmk hrd hjn hgt
    go_wp2_with fail
    go_region_held3 (fun wy => wy.cell? ⟨W.heap.size, 1, none⟩ = some (.int .i64 1) ∧ wy.cell? ⟨W.heap.size, 3, none⟩ = some (.string s)) (first | exact ⟨c1, c3⟩ | exact ⟨d1, d3⟩ | exact ⟨z1, z3⟩ | exact ⟨zs _ _ _, zs _ _ _⟩ | exact ⟨zss _ _ _ _ _, zss _ _ _ _ _⟩) (first | (go_at_call 35; refine (hone _).mono ?_; rintro e wx ⟨rfl, hBx⟩; have hBy : Below W3.heap.size W3 wx := (by first | exact hBx | exact (Below.refl _ W3).drew.trans' hBx); have hPx := hP3.below hBy; have hx0 := hBy.heapS h0; obtain ⟨d0, d1, d2, d3, d4⟩ := blk5 hx0; have hltx : W.heap.size < wx.heap.size := lt_of_block hx0) | (go_at_call 38; refine (hwr _ (by assumption)).mono ?_; rintro e wz ⟨c, f, q', k', rfl, hPz, hq', hk1, hk2, hG, hcs, hbb⟩; have hz2 := hG.heap (fun h => by have := hns _ h; omega) (hBy.heapS h2); have hz1 := hG.heap (fun h => by have := hns _ h; omega) (hBy.heapS h1); obtain ⟨ez0, ez1, ez2, ez3, ez4, ez5, ez6⟩ := blk7 (show wz.heap[W.heap.size + 1 + 1]? = _ from hz2); have efz : ∀ j, wz.frozen? ⟨W.heap.size + 1 + 1, j, none⟩ = false := (fun j => blk_free hz2 j); have hltz : W.heap.size + 1 + 1 < wz.heap.size := lt_of_block hz2; have hz0 := hG.heap (fun h => by have := hns _ h; omega) hx0; obtain ⟨z0, z1, z2, z3, z4⟩ := blk5 hz0; have zs := (fun (j i : Nat) (x : Value) => blk_cell (blk_set_other hz0 (a := ⟨W.heap.size + 1 + 1, j, none⟩) (show W.heap.size ≠ W.heap.size + 1 + 1 by omega) x) i); have zss := (fun (j i : Nat) (x : Value) (j' : Nat) (x' : Value) => blk_cell (blk_set_other (blk_set_other hz0 (a := ⟨W.heap.size + 1 + 1, j, none⟩) (show W.heap.size ≠ W.heap.size + 1 + 1 by omega) x) (a := ⟨W.heap.size + 1 + 1, j', none⟩) (show W.heap.size ≠ W.heap.size + 1 + 1 by omega) x') i); have hFz : Fr v.S W wz := ((Fr.of_below hB3).trans (Fr.of_below hBy)).trans hG; have hnz : ¬ v.S (W.heap.size + 2) := (fun h => by have := hns _ h; omega)))
    all_goals (go_wp2_with fail; go_meet)
    all_goals exact ⟨f, c, ⟨#[]⟩, Pp.zero, q', k', ((hPz.setCell hnz hz2 (by simp [StT]) 1 _).setCell hnz (blk_set hz2 1 _) (by simp [StT]) 0 _), hq', hk1, hk2, .inr ⟨by omega, rfl, c, rfl, by simp only [ByteArray.size_extract] at hcs; omega, by rw [hbb, ByteArray.extract_extract]; congr 2; simp only [ByteArray.size_extract] at hcs; omega⟩, (blk_set (blk_set hz2 1 _) 0 _), (blk_set_other (blk_set_other hz1 (by simp) _) (by simp) _), ((hFz.setCell (.inr (by simp; omega)) _).setCell (.inr (by simp; omega)) _)⟩
  case rest =>
    obtain ⟨er, n', out, p, q', k', hP4, hq4, hk1, hk2, hdid, hz2, hz1, hF4⟩ := hcut
    obtain ⟨ez0, ez1, ez2, ez3, ez4, ez5, ez6⟩ := blk7 (show wc.heap[W.heap.size + 1 + 1]? = some (.cells #[.int .i64 er, .int .i64 n', .string out, .int .i64 p.e, .int .i64 p.r, .int .i64 p.w, .string p.b] 70) from hz2)
    go_wp2_with (refine wpList_store_row rfl 70 _ _ rfl (W.heap.size + 1) #[.int .i64 er, .int .i64 n', .string out, .int .i64 p.e, .int .i64 p.r, .int .i64 p.w, .string p.b] rfl rfl 70 _ hz1 (by kernel_rfl) rfl (by simp [Value.oneCell']) ?_)
    refine bodyPost_ret (v := .agg #[.int .i64 er, .int .i64 n', .string out, .int .i64 p.e, .int .i64 p.r, .int .i64 p.w, .string p.b]) (results_cell_row rfl _ _ (W.heap.size + 1) 70 _ (0, 0) _ rfl (setRow_heap _ _ _ _ _ _ hz1) Tryz.underlying70 rfl (by kernel_rfl)) rfl ⟨er, n', out, p, q', k', rfl, hP4.setRow (fun h => by have := hns _ h; omega) hz1 (by simp [StT]) _, hq4, hk1, hk2, ⟨hF4.os, hF4.tape, hF4.output, by simp [World.setRow]; exact hF4.size, fun j hj hs => (setRow_other _ _ j _ (by omega)).trans (hF4.block j hj hs)⟩, hdid⟩

set_option maxRecDepth 100000 in
set_option maxHeartbeats 8000000 in
theorem do_5 (W : World) (v : VW) (k : Nat) (q : Pp) (h : HP W v k (some q)) (hk : k < 1000000) (hq : OQ q) (kd : Nat) (hkd : kd < 256) (h6 : kd % 8 = 5) (n : Int) (s : ByteArray) (b : Bool) :
    Calls Tryz.prog 48 #[v.p, opV kd 1 n s b] W fun e w' => ∃ (er n' : Int) (out : ByteArray) (p q' : Pp) (k' : Nat), e = .returned (resV er n' out p) ∧ HP w' v k' (some q') ∧ OQ q' ∧ k ≤ k' ∧ k' ≤ k + 1 ∧ Fr v.S W w' ∧ Did kd s n' out q q' := by
  have hone := one_any
  have hmk := fun W h => mk_OQ W v k q h
  have hrd := fun W h => rd_OQ W v k q h hk hq n
  have hwr := fun W h => wr_OQ W v k q h hk hq (s.extract 0 (min s.size 600)) (by simp only [ByteArray.size_extract]; omega)
  have hjn := fun W h => jn_OQ W v k q h hk hq b
  have hgt := fun W h => get_hp W v k q h 1 hq.1
  have hB3 := below_new3 W (.cells #[.int .u8 kd, .int .i64 1, .int .i64 n, .string s, .bool b] 68) (.cells (resC 0 0 ⟨#[]⟩ Pp.zero) 70) (.cells (resC 0 0 ⟨#[]⟩ Pp.zero) 70)
  have h0 := blk_alloc (blk_alloc (blk_new W (.cells #[.int .u8 kd, .int .i64 1, .int .i64 n, .string s, .bool b] 68)) (.cells (resC 0 0 ⟨#[]⟩ Pp.zero) 70)) (.cells (resC 0 0 ⟨#[]⟩ Pp.zero) 70)
  have h1 := blk_alloc (blk_new1 W (.cells #[.int .u8 kd, .int .i64 1, .int .i64 n, .string s, .bool b] 68) (.cells (resC 0 0 ⟨#[]⟩ Pp.zero) 70)) (.cells (resC 0 0 ⟨#[]⟩ Pp.zero) 70)
  have h2 := blk_new2 W (.cells #[.int .u8 kd, .int .i64 1, .int .i64 n, .string s, .bool b] 68) (.cells (resC 0 0 ⟨#[]⟩ Pp.zero) 70) (.cells (resC 0 0 ⟨#[]⟩ Pp.zero) 70)
  have hP3 := h.below hB3
  have hns : ∀ i, v.S i → i < W.heap.size := fun i hi => Nat.lt_of_not_le fun hle => h.notS hle hi
  have hkk := hk
  clear h hk
  have hmin : (if (600 : Int) < (s.size : Int) then (600 : Int) else (s.size : Int)) = ((min s.size 600 : Nat) : Int) := by split <;> omega
  have hmle : min s.size 600 ≤ s.size := Nat.min_le_left _ _
  generalize hmm : min s.size 600 = mm at *
  have Hmm := Lib.hid hmm
  clear hmm
  unfold opV resV
  unfold Pp.v at hgt
  have hz : resC 0 0 ⟨#[]⟩ Pp.zero = #[.int .i64 0, .int .i64 0, .string ⟨#[]⟩, .int .i64 0, .int .i64 0, .int .i64 0, .string ⟨#[]⟩] := rfl
  simp only [hz] at *
  clear hz
  generalize oneV = ov at *
  unfold VW.p at *
  go_enter Tryz.func48, Tryz.ntmps48
  go_upto_block 0 with fail
  generalize ((W.alloc (.cells #[.int .u8 kd, .int .i64 1, .int .i64 n, .string s, .bool b] 68)).alloc (.cells #[.int .i64 0, .int .i64 0, .string ⟨#[]⟩, .int .i64 0, .int .i64 0, .int .i64 0, .string ⟨#[]⟩] 70)).alloc (.cells #[.int .i64 0, .int .i64 0, .string ⟨#[]⟩, .int .i64 0, .int .i64 0, .int .i64 0, .string ⟨#[]⟩] 70) = W3 at *
  obtain ⟨c0, c1, c2, c3, c4⟩ := blk5 h0
  have hlt : W.heap.size < W3.heap.size := lt_of_block h0
  have h8 : (kd : Int) % 8 = ((kd % 8 : Nat) : Int) := by omega
  have hr8l : kd % 8 < 8 := by omega
  simp only [h8]
  generalize hr8 : kd % 8 = r8 at *
  go_cut [] from 9 to 81 (fun wx => ∃ (er n' : Int) (out : ByteArray) (p q' : Pp) (k' : Nat), HP wx v k' (some q') ∧ OQ q' ∧ k ≤ k' ∧ k' ≤ k + 1 ∧ Did kd s n' out q q' ∧ wx.heap[W.heap.size + 2]? = some (.cells (resC er n' out p) 70) ∧ wx.heap[W.heap.size + 1]? = some (.cells #[.int .i64 0, .int .i64 0, .string ⟨#[]⟩, .int .i64 0, .int .i64 0, .int .i64 0, .string ⟨#[]⟩] 70) ∧ Fr v.S W wx)
  case first =>
    obtain rfl : r8 = 5 := by omega
    clear hmk hrd hwr hgt hmin hmle
    go_wp2_with fail
    go_region_held3 (fun wy => wy.cell? ⟨W.heap.size, 1, none⟩ = some (.int .i64 1) ∧ wy.cell? ⟨W.heap.size, 4, none⟩ = some (.bool b)) (first | exact ⟨c1, c4⟩ | exact ⟨d1, d4⟩ | exact ⟨z1, z4⟩ | exact ⟨zs _ _ _, zs _ _ _⟩ | exact ⟨zss _ _ _ _ _, zss _ _ _ _ _⟩) (first | (go_at_call 35; refine (hone _).mono ?_; rintro e wx ⟨rfl, hBx⟩; have hBy : Below W3.heap.size W3 wx := (by first | exact hBx | exact (Below.refl _ W3).drew.trans' hBx); have hPx := hP3.below hBy; have hx0 := hBy.heapS h0; obtain ⟨d0, d1, d2, d3, d4⟩ := blk5 hx0; have hltx : W.heap.size < wx.heap.size := lt_of_block hx0) | (go_at_call 65; refine (hjn _ (by assumption)).mono ?_; rintro e wz ⟨f, q', k', rfl, hPz, hq', hk1, hk2, hG, hbb⟩; have hz2 := hG.heap (fun h => by have := hns _ h; omega) (hBy.heapS h2); have hz1 := hG.heap (fun h => by have := hns _ h; omega) (hBy.heapS h1); obtain ⟨ez0, ez1, ez2, ez3, ez4, ez5, ez6⟩ := blk7 (show wz.heap[W.heap.size + 1 + 1]? = _ from hz2); have efz : ∀ j, wz.frozen? ⟨W.heap.size + 1 + 1, j, none⟩ = false := (fun j => blk_free hz2 j); have hltz : W.heap.size + 1 + 1 < wz.heap.size := lt_of_block hz2; have hz0 := hG.heap (fun h => by have := hns _ h; omega) hx0; obtain ⟨z0, z1, z2, z3, z4⟩ := blk5 hz0; have zs := (fun (j i : Nat) (x : Value) => blk_cell (blk_set_other hz0 (a := ⟨W.heap.size + 1 + 1, j, none⟩) (show W.heap.size ≠ W.heap.size + 1 + 1 by omega) x) i); have zss := (fun (j i : Nat) (x : Value) (j' : Nat) (x' : Value) => blk_cell (blk_set_other (blk_set_other hz0 (a := ⟨W.heap.size + 1 + 1, j, none⟩) (show W.heap.size ≠ W.heap.size + 1 + 1 by omega) x) (a := ⟨W.heap.size + 1 + 1, j', none⟩) (show W.heap.size ≠ W.heap.size + 1 + 1 by omega) x') i); have hFz : Fr v.S W wz := ((Fr.of_below hB3).trans (Fr.of_below hBy)).trans hG; have hnz : ¬ v.S (W.heap.size + 2) := (fun h => by have := hns _ h; omega)))
    all_goals (go_wp2_with fail; go_meet)
    all_goals exact ⟨f, 0, ⟨#[]⟩, Pp.zero, q', k', (hPz.setCell hnz hz2 (by simp [StT]) 0 _), hq', hk1, hk2, .inl ⟨by omega, by rw [hbb]; exact (empty_append _).symm⟩, (blk_set hz2 0 _), (blk_set_other hz1 (by simp) _), (hFz.setCell (.inr (by simp; omega)) _)⟩
  case rest =>
    obtain ⟨er, n', out, p, q', k', hP4, hq4, hk1, hk2, hdid, hz2, hz1, hF4⟩ := hcut
    obtain ⟨ez0, ez1, ez2, ez3, ez4, ez5, ez6⟩ := blk7 (show wc.heap[W.heap.size + 1 + 1]? = some (.cells #[.int .i64 er, .int .i64 n', .string out, .int .i64 p.e, .int .i64 p.r, .int .i64 p.w, .string p.b] 70) from hz2)
    go_wp2_with (refine wpList_store_row rfl 70 _ _ rfl (W.heap.size + 1) #[.int .i64 er, .int .i64 n', .string out, .int .i64 p.e, .int .i64 p.r, .int .i64 p.w, .string p.b] rfl rfl 70 _ hz1 (by kernel_rfl) rfl (by simp [Value.oneCell']) ?_)
    refine bodyPost_ret (v := .agg #[.int .i64 er, .int .i64 n', .string out, .int .i64 p.e, .int .i64 p.r, .int .i64 p.w, .string p.b]) (results_cell_row rfl _ _ (W.heap.size + 1) 70 _ (0, 0) _ rfl (setRow_heap _ _ _ _ _ _ hz1) Tryz.underlying70 rfl (by kernel_rfl)) rfl ⟨er, n', out, p, q', k', rfl, hP4.setRow (fun h => by have := hns _ h; omega) hz1 (by simp [StT]) _, hq4, hk1, hk2, ⟨hF4.os, hF4.tape, hF4.output, by simp [World.setRow]; exact hF4.size, fun j hj hs => (setRow_other _ _ j _ (by omega)).trans (hF4.block j hj hs)⟩, hdid⟩

set_option maxRecDepth 100000 in
set_option maxHeartbeats 8000000 in
theorem do_7 (W : World) (v : VW) (k : Nat) (q : Pp) (h : HP W v k (some q)) (hk : k < 1000000) (hq : OQ q) (kd : Nat) (hkd : kd < 256) (h6 : kd % 8 = 7) (n : Int) (s : ByteArray) (b : Bool) :
    Calls Tryz.prog 48 #[v.p, opV kd 1 n s b] W fun e w' => ∃ (er n' : Int) (out : ByteArray) (p q' : Pp) (k' : Nat), e = .returned (resV er n' out p) ∧ HP w' v k' (some q') ∧ OQ q' ∧ k ≤ k' ∧ k' ≤ k + 1 ∧ Fr v.S W w' ∧ Did kd s n' out q q' := by
  have hone := one_any
  have hmk := fun W h => mk_OQ W v k q h
  have hrd := fun W h => rd_OQ W v k q h hk hq n
  have hwr := fun W h => wr_OQ W v k q h hk hq (s.extract 0 (min s.size 600)) (by simp only [ByteArray.size_extract]; omega)
  have hjn := fun W h => jn_OQ W v k q h hk hq b
  have hgt := fun W h => get_hp W v k q h 1 hq.1
  have hB3 := below_new3 W (.cells #[.int .u8 kd, .int .i64 1, .int .i64 n, .string s, .bool b] 68) (.cells (resC 0 0 ⟨#[]⟩ Pp.zero) 70) (.cells (resC 0 0 ⟨#[]⟩ Pp.zero) 70)
  have h0 := blk_alloc (blk_alloc (blk_new W (.cells #[.int .u8 kd, .int .i64 1, .int .i64 n, .string s, .bool b] 68)) (.cells (resC 0 0 ⟨#[]⟩ Pp.zero) 70)) (.cells (resC 0 0 ⟨#[]⟩ Pp.zero) 70)
  have h1 := blk_alloc (blk_new1 W (.cells #[.int .u8 kd, .int .i64 1, .int .i64 n, .string s, .bool b] 68) (.cells (resC 0 0 ⟨#[]⟩ Pp.zero) 70)) (.cells (resC 0 0 ⟨#[]⟩ Pp.zero) 70)
  have h2 := blk_new2 W (.cells #[.int .u8 kd, .int .i64 1, .int .i64 n, .string s, .bool b] 68) (.cells (resC 0 0 ⟨#[]⟩ Pp.zero) 70) (.cells (resC 0 0 ⟨#[]⟩ Pp.zero) 70)
  have hP3 := h.below hB3
  have hns : ∀ i, v.S i → i < W.heap.size := fun i hi => Nat.lt_of_not_le fun hle => h.notS hle hi
  have hkk := hk
  clear h hk
  have hmin : (if (600 : Int) < (s.size : Int) then (600 : Int) else (s.size : Int)) = ((min s.size 600 : Nat) : Int) := by split <;> omega
  have hmle : min s.size 600 ≤ s.size := Nat.min_le_left _ _
  generalize hmm : min s.size 600 = mm at *
  have Hmm := Lib.hid hmm
  clear hmm
  unfold opV resV
  unfold Pp.v at hgt
  have hz : resC 0 0 ⟨#[]⟩ Pp.zero = #[.int .i64 0, .int .i64 0, .string ⟨#[]⟩, .int .i64 0, .int .i64 0, .int .i64 0, .string ⟨#[]⟩] := rfl
  simp only [hz] at *
  clear hz
  generalize oneV = ov at *
  unfold VW.p at *
  go_enter Tryz.func48, Tryz.ntmps48
  go_upto_block 0 with fail
  generalize ((W.alloc (.cells #[.int .u8 kd, .int .i64 1, .int .i64 n, .string s, .bool b] 68)).alloc (.cells #[.int .i64 0, .int .i64 0, .string ⟨#[]⟩, .int .i64 0, .int .i64 0, .int .i64 0, .string ⟨#[]⟩] 70)).alloc (.cells #[.int .i64 0, .int .i64 0, .string ⟨#[]⟩, .int .i64 0, .int .i64 0, .int .i64 0, .string ⟨#[]⟩] 70) = W3 at *
  obtain ⟨c0, c1, c2, c3, c4⟩ := blk5 h0
  have hlt : W.heap.size < W3.heap.size := lt_of_block h0
  have h8 : (kd : Int) % 8 = ((kd % 8 : Nat) : Int) := by omega
  have hr8l : kd % 8 < 8 := by omega
  simp only [h8]
  generalize hr8 : kd % 8 = r8 at *
  go_cut [] from 9 to 81 (fun wx => ∃ (er n' : Int) (out : ByteArray) (p q' : Pp) (k' : Nat), HP wx v k' (some q') ∧ OQ q' ∧ k ≤ k' ∧ k' ≤ k + 1 ∧ Did kd s n' out q q' ∧ wx.heap[W.heap.size + 2]? = some (.cells (resC er n' out p) 70) ∧ wx.heap[W.heap.size + 1]? = some (.cells #[.int .i64 0, .int .i64 0, .string ⟨#[]⟩, .int .i64 0, .int .i64 0, .int .i64 0, .string ⟨#[]⟩] 70) ∧ Fr v.S W wx)
  case first =>
    obtain rfl : r8 = 7 := by omega
    clear hmk hrd hwr hjn hmin hmle
    go_wp2_with fail
    go_region_with (first | (go_at_call 35; refine (hone _).mono ?_; rintro e wx ⟨rfl, hBx⟩; have hBy : Below W3.heap.size W3 wx := (by first | exact hBx | exact (Below.refl _ W3).drew.trans' hBx); have hPx := hP3.below hBy; have hx0 := hBy.heapS h0; obtain ⟨d0, d1, d2, d3, d4⟩ := blk5 hx0; have hltx : W.heap.size < wx.heap.size := lt_of_block hx0) | (go_at_call 49; refine (hgt _ (by assumption)).mono ?_; rintro e wz ⟨rfl, hPz, hG⟩; have hz2 := hG.heap (fun h => by have := hns _ h; omega) (hBy.heapS h2); have hz1 := hG.heap (fun h => by have := hns _ h; omega) (hBy.heapS h1); obtain ⟨ez0, ez1, ez2, ez3, ez4, ez5, ez6⟩ := blk7 (show wz.heap[W.heap.size + 1 + 1]? = _ from hz2); have efz : ∀ j, wz.frozen? ⟨W.heap.size + 1 + 1, j, none⟩ = false := (fun j => blk_free hz2 j); have hltz : W.heap.size + 1 + 1 < wz.heap.size := lt_of_block hz2; have hFz : Fr v.S W wz := ((Fr.of_below hB3).trans (Fr.of_below hBy)).trans hG; have hnz : ¬ v.S (W.heap.size + 2) := (fun h => by have := hns _ h; omega)))
    all_goals (go_wp2_with fail; go_meet)
    all_goals exact ⟨0, 0, ⟨#[]⟩, q, q, k, (((((hPz.setCell hnz hz2 (by simp [StT]) 3 _).setCell hnz (blk_set hz2 3 _) (by simp [StT]) 4 _).setCell hnz (blk_set (blk_set hz2 3 _) 4 _) (by simp [StT]) 5 _).setCell hnz (blk_set (blk_set (blk_set hz2 3 _) 4 _) 5 _) (by simp [StT]) 6 _).setCell hnz (blk_set (blk_set (blk_set (blk_set hz2 3 _) 4 _) 5 _) 6 _) (by simp [StT]) 0 _), hq, Nat.le_refl _, Nat.le_succ _, .inl ⟨by omega, (empty_append _).symm⟩, (blk_set (blk_set (blk_set (blk_set (blk_set hz2 3 _) 4 _) 5 _) 6 _) 0 _), (blk_set_other (blk_set_other (blk_set_other (blk_set_other (blk_set_other hz1 (by simp) _) (by simp) _) (by simp) _) (by simp) _) (by simp) _), (((((hFz.setCell (.inr (by simp; omega)) _).setCell (.inr (by simp; omega)) _).setCell (.inr (by simp; omega)) _).setCell (.inr (by simp; omega)) _).setCell (.inr (by simp; omega)) _)⟩
  case rest =>
    obtain ⟨er, n', out, p, q', k', hP4, hq4, hk1, hk2, hdid, hz2, hz1, hF4⟩ := hcut
    obtain ⟨ez0, ez1, ez2, ez3, ez4, ez5, ez6⟩ := blk7 (show wc.heap[W.heap.size + 1 + 1]? = some (.cells #[.int .i64 er, .int .i64 n', .string out, .int .i64 p.e, .int .i64 p.r, .int .i64 p.w, .string p.b] 70) from hz2)
    go_wp2_with (refine wpList_store_row rfl 70 _ _ rfl (W.heap.size + 1) #[.int .i64 er, .int .i64 n', .string out, .int .i64 p.e, .int .i64 p.r, .int .i64 p.w, .string p.b] rfl rfl 70 _ hz1 (by kernel_rfl) rfl (by simp [Value.oneCell']) ?_)
    refine bodyPost_ret (v := .agg #[.int .i64 er, .int .i64 n', .string out, .int .i64 p.e, .int .i64 p.r, .int .i64 p.w, .string p.b]) (results_cell_row rfl _ _ (W.heap.size + 1) 70 _ (0, 0) _ rfl (setRow_heap _ _ _ _ _ _ hz1) Tryz.underlying70 rfl (by kernel_rfl)) rfl ⟨er, n', out, p, q', k', rfl, hP4.setRow (fun h => by have := hns _ h; omega) hz1 (by simp [StT]) _, hq4, hk1, hk2, ⟨hF4.os, hF4.tape, hF4.output, by simp [World.setRow]; exact hF4.size, fun j hj hs => (setRow_other _ _ j _ (by omega)).trans (hF4.block j hj hs)⟩, hdid⟩

theorem do_any (W : World) (v : VW) (k : Nat) (q : Pp) (h : HP W v k (some q)) (hk : k < 1000000) (hq : OQ q) (kd : Nat) (hkd : kd < 256) (h6 : kd % 8 ≠ 6) (n : Int) (s : ByteArray) (b : Bool) :
    Calls Tryz.prog 48 #[v.p, opV kd 1 n s b] W fun e w' => ∃ (er n' : Int) (out : ByteArray) (p q' : Pp) (k' : Nat), e = .returned (resV er n' out p) ∧ HP w' v k' (some q') ∧ OQ q' ∧ k ≤ k' ∧ k' ≤ k + 1 ∧ Fr v.S W w' ∧ Did kd s n' out q q' := by
  have hlv : kd % 8 = 0 ∨ kd % 8 = 1 ∨ kd % 8 = 2 ∨ kd % 8 = 3 ∨ kd % 8 = 4 ∨ kd % 8 = 5 ∨ kd % 8 = 7 := by omega
  rcases hlv with hr | hr | hr | hr | hr | hr | hr
  · exact do_0 W v k q h hk hq kd hkd hr n s b
  · exact do_1 W v k q h hk hq kd hkd hr n s b
  · exact do_2 W v k q h hk hq kd hkd hr n s b
  · exact do_3 W v k q h hk hq kd hkd hr n s b
  · exact do_4 W v k q h hk hq kd hkd hr n s b
  · exact do_5 W v k q h hk hq kd hkd hr n s b
  · exact do_7 W v k q h hk hq kd hkd hr n s b

end Go.Proofs.YtdjjfjnkkgmadaaGreatDoor
