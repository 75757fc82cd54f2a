/-
  replevinlaw32.PipeEnds returns true.
-/
import Derived.Test.YtdjjfjnkkgmadaaGreatDoorEnds0
import Derived.Deep.CutRange
import Derived.Deep.CutBlock
namespace Go.Proofs.YtdjjfjnkkgmadaaGreatDoor
open Go Go.RowKit

set_option maxRecDepth 100000 in
set_option maxHeartbeats 8000000 in
theorem ends_any (b : Bool) (n : Nat) (hn : n < 256) (w : World) :
    Calls Tryz.prog 9 #[.bool b, .int .u8 n] w fun e w' => e = .returned (.bool true) ∧ Below w.heap.size w w' := by
  have hone := one_any
  have hof : ∀ w, Calls Tryz.prog 68 #[oneV] w fun e w' => e = .returned (nameV 11 oneM 2 0 ⟨#[]⟩) ∧ Below w.heap.size w w' := fun w => ofPipe_any oneM 2 w
  have hmk : ∀ W v, HP W v 0 none → Calls Tryz.prog 34 #[v.p, oneV, .int .i64 0] W fun e w' => e = .returned (.int .i64 0) ∧ HP w' v 1 (some (PE b 1 1)) ∧ Fr v.S W w' := fun W v h => by
    have := make_hp W v 0 h (by decide) 0 (by decide)
    rw [PE_fresh b] at this; exact this
  have hj := fun W v k m h hk h1 h2 => join_PE W v k b m 1 h hk h1 h2
  have hj64 := fun W v k h hk => join_PE64 W v k b 1 h hk
  have hj0 := fun W v k h hk => join_PE0 W v k b 1 h hk
  have hl := fun W v k m h hk => leave_PE W v k b m 1 h hk (by omega)
  have hl0 := fun W v k h hk => leave_PE0 W v k b 1 h hk
  have hlast := fun W v k h hk => leave_PElast W v k b h hk
  have hget := fun W v k h => get_hp W v k (PE b 0 1) h 0 rfl
  have hgn := fun W v k h => get_hp_none W v k h 0 (by decide)
  have hhas := has_hp_none
  have hsum : (PE b 0 1).r + (PE b 0 1).w = 1 := PE_sum b 0 1
  unfold Pp.v at hget hgn
  unfold nameV at hof hhas
  unfold Pp.zero at hgn
  simp only at hgn
  generalize (PE b 0 1).r = pr at *
  generalize (PE b 0 1).w = pw at *
  generalize (PE b 0 1).e = pe at *
  generalize (PE b 0 1).b = pb at *
  generalize oneV = ov at *
  unfold VW.p at *
  go_enter Tryz.func9, Tryz.ntmps9
  go_wp2_with (first | (go_at_call 24; refine (known_any _).mono ?_; rintro e w0 ⟨rfl, hB0⟩) | (go_at_call 33; refine (stateNew_any _).mono ?_; rintro e w1 ⟨rfl, rfl⟩) | (go_at_call 32; refine (viewNew_hp _ _ (base_new _)).mono ?_; rintro e w2 ⟨v, rfl, hP, hB, hS⟩; have hF := Fr.refl v.S w2) | (go_at_call 35; refine (hone _).mono ?_; rintro e wx ⟨rfl, hBx⟩; replace hP := hP.below hBx; replace hF := hF.trans (Fr.of_below hBx)))
  refine (hmk _ v hP).mono ?_
  rintro e wn ⟨rfl, hQ, hG⟩
  replace hP := hQ
  replace hF := hF.trans hG
  clear hQ hG hmk
  go_upto_block 0 with fail
  have hKb : (0 : Int) ≤ (n : Int) % 80 ∧ (n : Int) % 80 < 80 := by omega
  generalize (n : Int) % 80 = KI at *
  obtain ⟨K, rfl⟩ := Int.eq_ofNat_of_zero_le hKb.1
  go_cut [7, 8] from 28 to 49 (fun s7 _ wx => ∃ (i m k : Nat), s7 = .int .i64 i ∧ i = K ∧ m = min 64 (i + 1) ∧ HP wx v k (some (PE b m 1)) ∧ k ≤ 1 + i ∧ Fr v.S w2 wx)
  case first =>
    go_wp2_with fail
    go_loopw [7, 8] (fun t7 _ wr => ∃ (i m k : Nat), t7 = .int .i64 i ∧ i ≤ K ∧ m = min 64 (i + 1) ∧ HP wr v k (some (PE b m 1)) ∧ k ≤ 1 + i ∧ Fr v.S w2 wr) (fun t7 _ _ => K - (intOf t7).toNat)
    case atStart => exact ⟨0, 1, _, rfl, Nat.zero_le _, rfl, hP, by omega, hF⟩
    case round =>
      obtain ⟨i, m, k, rfl, hi, hm, hPr, hk, hFr⟩ := hrel
      by_cases hlt : i < K
      · go_wp2_with (go_at_call 35; refine (hone _).mono ?_; rintro e wx ⟨rfl, hBx⟩; replace hPr := hPr.below hBx; replace hFr := hFr.trans (Fr.of_below hBx))
        by_cases h63 : i < 63
        · refine (hj _ v _ _ hPr (by omega) (by omega) (by omega)).mono ?_
          rintro e wn ⟨rfl, hP', hG⟩
          go_wp2_with fail
          exact ⟨⟨i + 1, m + 1, k + 1, by go_num, by omega, by omega, hP', by omega, hFr.trans hG⟩, by simp [intOf]; omega⟩
        · obtain rfl : m = 64 := by omega
          refine (hj64 _ v _ hPr (by omega)).mono ?_
          rintro e wn ⟨rfl, hP', hG⟩
          go_wp2_with fail
          exact ⟨⟨i + 1, 64, k, by go_num, by omega, by omega, hP', by omega, hFr.trans hG⟩, by simp [intOf]; omega⟩
      · go_wp2_with fail
        go_meet
        exact ⟨_, _, _, rfl, by omega, hm, hPr, hk, hFr⟩
  case rest =>
  obtain ⟨i1, m1, k1, rfl, rfl, hm1, hP1, hk1, hF1⟩ := hcut
  obtain ⟨M, hM⟩ : ∃ M, M = min i1 63 := ⟨_, rfl⟩
  have hmin : (if (63 : Int) < (i1 : Int) then (63 : Int) else (i1 : Int)) = (M : Int) := by split <;> omega
  obtain rfl : m1 = M + 1 := by omega
  clear hm1 hP hF
  go_upto_block 2 with fail
  go_cut [9] from 50 to 61 (fun _ wx => ∃ (k : Nat), HP wx v k (some (PE b 0 1)) ∧ k ≤ 200 ∧ Fr v.S w2 wx)
  case first =>
    go_wp2_with fail
    go_loopw [9] (fun t9 wr => ∃ (i m k : Nat), t9 = .int .i64 i ∧ i + m = M + 1 ∧ HP wr v k (some (PE b m 1)) ∧ k ≤ 81 + i ∧ Fr v.S w2 wr) (fun t9 _ => M + 1 - (intOf t9).toNat)
    case atStart => exact ⟨0, M + 1, _, rfl, by omega, hP1, by omega, hF1⟩
    case round =>
      obtain ⟨i, m, k, rfl, hi, hPr, hk, hFr⟩ := hrel
      by_cases hlt : i < M + 1
      · have hlt' : (i : Int) < (M : Int) + 1 := by omega
        obtain ⟨m', rfl⟩ : ∃ m', m = m' + 1 := ⟨m - 1, by omega⟩
        go_wp2_with (go_at_call 35; refine (hone _).mono ?_; rintro e wx ⟨rfl, hBx⟩; replace hPr := hPr.below hBx; replace hFr := hFr.trans (Fr.of_below hBx))
        refine (hl _ v _ _ hPr (by omega)).mono ?_
        rintro e wn ⟨rfl, hP', hG⟩
        go_wp2_with fail
        exact ⟨⟨i + 1, m', k + 1, by go_num, by omega, hP', by omega, hFr.trans hG⟩, by simp [intOf]; omega⟩
      · have hlt' : ¬ (i : Int) < (M : Int) + 1 := by omega
        obtain rfl : m = 0 := by omega
        go_wp2_with fail
        go_meet
        exact ⟨_, hPr, by omega, hFr⟩
  case rest =>
  obtain ⟨k2, hP, hk2, hF⟩ := hcut
  clear hP1 hF1 hj hj64 hl
  go_wp2_with (go_at_call 35; refine (hone _).mono ?_; rintro e wx ⟨rfl, hBx⟩; replace hP := hP.below hBx; replace hF := hF.trans (Fr.of_below hBx))
  refine (hget _ v _ hP).mono ?_
  rintro e w10 ⟨rfl, hQ, hG⟩
  replace hF := hF.trans hG
  have hBa := below_new1 w10 (.cells #[.int .i64 pe, .int .i64 pr, .int .i64 pw, .string pb] 28)
  replace hP := hQ.below hBa
  replace hF := hF.trans (Fr.of_below hBa)
  have hb := blk_new w10 (.cells #[.int .i64 pe, .int .i64 pr, .int .i64 pw, .string pb] 28)
  have hnS := hQ.notS (Nat.le_refl _)
  clear hQ hG hBa
  go_wp2_with (go_at_call 35; refine (hone _).mono ?_; rintro e wx ⟨rfl, hBx⟩; replace hP := hP.below hBx; replace hF := hF.trans (Fr.of_below hBx); replace hb := hBx.heapS hb)
  refine (hj0 _ v _ hP (by omega)).mono ?_
  rintro e wn2 ⟨rfl, hQ, hG⟩
  replace hP := hQ
  replace hF := hF.trans hG
  replace hb := hG.heap hnS hb
  clear hQ hG
  go_wp2_with (go_at_call 35; refine (hone _).mono ?_; rintro e wx ⟨rfl, hBx⟩; replace hP := hP.below hBx; replace hF := hF.trans (Fr.of_below hBx); replace hb := hBx.heapS hb)
  refine (hl0 _ v _ hP (by omega)).mono ?_
  rintro e wn2 ⟨rfl, hQ, hG⟩
  replace hP := hQ
  replace hF := hF.trans hG
  replace hb := hG.heap hnS hb
  clear hQ hG
  go_wp2_with (go_at_call 35; refine (hone _).mono ?_; rintro e wx ⟨rfl, hBx⟩; replace hP := hP.below hBx; replace hF := hF.trans (Fr.of_below hBx); replace hb := hBx.heapS hb)
  refine (hlast _ v _ hP (by omega)).mono ?_
  rintro e wn2 ⟨rfl, hQ, hG⟩
  replace hP := hQ
  replace hF := hF.trans hG
  replace hb := hG.heap hnS hb
  clear hQ hG
  go_wp2_with (go_at_call 35; refine (hone _).mono ?_; rintro e wx ⟨rfl, hBx⟩; replace hP := hP.below hBx; replace hF := hF.trans (Fr.of_below hBx); replace hb := hBx.heapS hb)
  refine (hgn _ v _ hP).mono ?_
  rintro e w14 ⟨rfl, hQ, hG⟩
  replace hF := hF.trans hG
  replace hb := blk_alloc (hG.heap hnS hb) (.cells #[.int .i64 0, .int .i64 0, .int .i64 0, .string ⟨#[]⟩] 28)
  have hBz := below_new1 w14 (.cells #[.int .i64 0, .int .i64 0, .int .i64 0, .string ⟨#[]⟩] 28)
  replace hP := hQ.below hBz
  replace hF := hF.trans (Fr.of_below hBz)
  clear hQ hG hBz
  obtain ⟨g0, g1, g2, g3⟩ := blk4 hb
  have hs2 : (pr + pw == 1) = true := by simp [hsum]
  go_wp2_with (first | (go_at_call 35; refine (hone _).mono ?_; rintro e wx ⟨rfl, hBx⟩; replace hP := hP.below hBx; replace hF := hF.trans (Fr.of_below hBx); replace hb := hBx.heapS hb) | (go_at_call 68; refine (hof _).mono ?_; rintro e wy ⟨rfl, hBy⟩; replace hP := hP.below hBy; replace hF := hF.trans (Fr.of_below hBy)))
  refine (hhas _ v _ hP).mono ?_
  rintro e wz ⟨rfl, _, hG⟩
  replace hF := hF.trans hG
  have hA := hB0.trans' ((below_new1 w0 (.cells #[.pointer none] 197)).trans' hB)
  have hall := hA.trans (hF.below (B := w.heap.size) hA.size (fun i hi => by have := hS i hi; have := hB0.size; simp at *; omega))
  go_wp2_with fail
  go_ret
  exact ⟨rfl, hall⟩

end Go.Proofs.YtdjjfjnkkgmadaaGreatDoor
