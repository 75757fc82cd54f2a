/-
  replevinlaw32.PipeBusy.
-/
import Derived.Test.YtdjjfjnkkgmadaaGreatDoorPipeK
import Derived.Deep.CutBlock
import Derived.Deep.CutRange
namespace Go.Proofs.YtdjjfjnkkgmadaaGreatDoor
open Go Go.RowKit

/-- A pipe of epoch 0 with one reader and one writer. -/
def Q1 (q : Pp) : Prop := q.e = 0 ∧ q.r = 1 ∧ q.w = 1 ∧ q.b.size ≤ 256

theorem Q1.err {q : Pp} (h : Q1 q) : q.err = 0 := Pp.of_zero ⟨by rw [h.1]; decide, by rw [h.2.1]; decide, by rw [h.2.2.1]; decide, by rw [h.2.1, h.2.2.1]; decide, h.2.2.2⟩

theorem wstep (W : World) (v : VW) (k : Nat) (q : Pp) (h : HP W v k (some q)) (hk : k < 1000000) (hq : Q1 q) (s : ByteArray) (hs0 : s.size ≠ 0) (hs : s.size ≤ 600) :
    Calls Tryz.prog 38 #[v.p, oneV, .int .i64 0, .string s] W fun e w' => ∃ (c : Nat) (f : Int) (q' : Pp) (k' : Nat), e = .returned (.tuple #[.int .i64 c, .int .i64 f]) ∧ HP w' v k' (some q') ∧ Q1 q' ∧ k ≤ k' ∧ k' ≤ k + 1 ∧ Fr v.S W w' ∧
      ((q.b.size < 256 ∧ f = 0 ∧ c = min s.size (256 - q.b.size) ∧ q'.b.size = q.b.size + c) ∨ (256 ≤ q.b.size ∧ f = 19 ∧ q' = q ∧ c = 0 ∧ k' = k)) := by
  have h1 := wrt_hp W v k q h hk 0 hq.1 s (by omega)
  by_cases hb : 256 ≤ q.b.size
  · have e : wrF q s = (false, 19, q, 0) := by
      rw [wrF, if_neg hs0, if_neg (by rw [hq.2.1]; decide), if_pos hb]
    rw [e] at h1
    refine h1.mono ?_
    rintro e w' ⟨rfl, h2, h3⟩
    exact ⟨0, 19, q, k, rfl, h2, hq, Nat.le_refl _, Nat.le_succ _, h3, .inr ⟨hb, rfl, rfl, rfl, rfl⟩⟩
  · have e : wrF q s = (true, 0, { q with b := q.b ++ s.extract 0 (min s.size (256 - q.b.size)) }, min s.size (256 - q.b.size)) := by
      rw [wrF, if_neg hs0, if_neg (by rw [hq.2.1]; decide), if_neg hb]
    rw [e] at h1
    have hsz : (q.b ++ s.extract 0 (min s.size (256 - q.b.size))).size = q.b.size + min s.size (256 - q.b.size) := by
      simp only [ByteArray.size_append, ByteArray.size_extract]
      omega
    have hq' : Q1 { q with b := q.b ++ s.extract 0 (min s.size (256 - q.b.size)) } := ⟨hq.1, hq.2.1, hq.2.2.1, by show ByteArray.size _ ≤ _; rw [hsz]; omega⟩
    refine h1.mono ?_
    rintro e w' ⟨rfl, h2, h3⟩
    refine ⟨_, 0, _, k + 1, rfl, ?_, hq', Nat.le_succ _, Nat.le_refl _, h3, .inl ⟨by omega, rfl, rfl, hsz⟩⟩
    have : aft q { q with b := q.b ++ s.extract 0 (min s.size (256 - q.b.size)) } true = some { q with b := q.b ++ s.extract 0 (min s.size (256 - q.b.size)) } := by
      simp [aft, hq.2.1, hq.2.2.1]
    simp only [this] at h2
    exact h2

theorem rstep (W : World) (v : VW) (k : Nat) (q : Pp) (h : HP W v k (some q)) (hk : k < 1000000) (hq : Q1 q) (n : Int) (hn : 0 < n) :
    Calls Tryz.prog 37 #[v.p, oneV, .int .i64 0, .int .i64 n] W fun e w' => ∃ (c : ByteArray) (f : Int) (q' : Pp) (k' : Nat), e = .returned (.tuple #[.string c, .int .i64 f]) ∧ HP w' v k' (some q') ∧ Q1 q' ∧ k ≤ k' ∧ k' ≤ k + 1 ∧ Fr v.S W w' ∧
      ((q.b.size = 0 ∧ f = 19 ∧ q' = q ∧ k' = k) ∨ (0 < q.b.size ∧ f = 0 ∧ c.size = min n.toNat q.b.size ∧ q'.b.size = q.b.size - min n.toNat q.b.size ∧ q.b = c ++ q'.b)) := by
  have h1 := read_hp W v k q h hk 0 hq.1 n
  by_cases hb : q.b.size = 0
  · have e : rdF q n = (false, 19, q, ⟨#[]⟩) := by
      rw [rdF, if_neg (by omega), if_neg (by omega), if_pos ⟨hb, by rw [hq.2.2.1]; decide⟩]
    rw [e] at h1
    refine h1.mono ?_
    rintro e w' ⟨rfl, h2, h3⟩
    exact ⟨_, 19, q, k, rfl, h2, hq, Nat.le_refl _, Nat.le_succ _, h3, .inl ⟨hb, rfl, rfl, rfl⟩⟩
  · have e : rdF q n = (true, 0, { q with b := q.b.extract (min n.toNat q.b.size) q.b.size }, q.b.extract 0 (min n.toNat q.b.size)) := by
      rw [rdF, if_neg (by omega), if_neg (by omega), if_neg (fun h => hb h.1)]
      have : decide (0 < min n.toNat q.b.size) = true := by simp; omega
      rw [this]
    rw [e] at h1
    have hsz : (q.b.extract (min n.toNat q.b.size) q.b.size).size = q.b.size - min n.toNat q.b.size := by
      simp only [ByteArray.size_extract]
      omega
    have hq' : Q1 { q with b := q.b.extract (min n.toNat q.b.size) q.b.size } := ⟨hq.1, hq.2.1, hq.2.2.1, by show ByteArray.size _ ≤ _; rw [hsz]; have := hq.2.2.2; omega⟩
    refine h1.mono ?_
    rintro e w' ⟨rfl, h2, h3⟩
    refine ⟨_, 0, _, k + 1, rfl, ?_, hq', Nat.le_succ _, Nat.le_refl _, h3, .inr ⟨by omega, rfl, ?_, hsz, ?_⟩⟩
    · have : aft q { q with b := q.b.extract (min n.toNat q.b.size) q.b.size } true = some { q with b := q.b.extract (min n.toNat q.b.size) q.b.size } := by
        simp [aft, hq.2.1, hq.2.2.1]
      simp only [this] at h2
      exact h2
    · simp only [ByteArray.size_extract]
      omega
    · show q.b = q.b.extract 0 (min n.toNat q.b.size) ++ q.b.extract (min n.toNat q.b.size) q.b.size
      rw [ByteArray.extract_append_extract]
      simp


/-- Where the writing stands behind i rounds. -/
def BC (f : Int) (i : Nat) (q : Pp) : Prop := (f = 0 ∧ i ≤ 256 ∧ min 256 (i + 1) ≤ q.b.size) ∨ (f = 19 ∧ q.b.size = 256)

theorem BC.step {f' : Int} {i c : Nat} {q q' : Pp} {s : ByteArray} {k k' : Nat} (hs : s.size ≠ 0) (hq : Q1 q) (h : i ≤ 256 ∧ min 256 (i + 1) ≤ q.b.size)
    (hstep : (q.b.size < 256 ∧ f' = 0 ∧ c = min s.size (256 - q.b.size) ∧ q'.b.size = q.b.size + c) ∨ (256 ≤ q.b.size ∧ f' = 19 ∧ q' = q ∧ c = 0 ∧ k' = k)) : BC f' (i + 1) q' := by
  rcases hstep with ⟨h1, rfl, h2, h3⟩ | ⟨h1, rfl, rfl, _, _⟩
  · left; refine ⟨rfl, by omega, by omega⟩
  · right; exact ⟨rfl, by have := hq.2.2.2; omega⟩

set_option maxRecDepth 100000 in
set_option maxHeartbeats 8000000 in
theorem busy_main (s : ByteArray) (hs0 : s.size ≠ 0) (hs : s.size ≤ 600) (n : Nat) (hn : n < 65536) (w : World) :
    Calls Tryz.prog 4 #[.string s, .int .u16 n] w fun e w' => e = .returned (.bool true) ∧ Below w.heap.size w w' := by
  have hsl : s.toList ≠ [] := by rw [ByteArray.toList_eq]; intro e; have := dl s; rw [e] at this; simp at this; omega
  have hsl2 : (s.toList == []) = false := by simpa using hsl
  have hone := one_any
  have hmk : ∀ W v, HP W v 0 none → Calls Tryz.prog 34 #[v.p, oneV, .int .i64 0] W fun e w' => e = .returned (.int .i64 0) ∧ HP w' v 1 (some (Pp.fresh 0)) ∧ Fr v.S W w' := fun W v h => make_hp W v 0 h (by decide) 0 (by decide)
  have hws := fun W v k q h hk hq => wstep W v k q h hk hq s hs0 hs
  have hrs := rstep
  have hmark := mark_hp
  generalize oneV = ov at *
  unfold VW.p at *
  go_enter Tryz.func4, Tryz.ntmps4
  go_wp2_with (first | (go_at_call 24; refine (known_any _).mono ?_; rintro e w0 ⟨rfl, hB0⟩) | (go_at_call 33; refine (stateNew_any _).mono ?_; rintro e w1 ⟨rfl, rfl⟩) | (go_at_call 32; refine (viewNew_hp _ _ (base_new _)).mono ?_; rintro e w2 ⟨v, rfl, hP, hB, hS⟩; have hF := Fr.refl v.S w2) | (go_at_call 35; refine (hone _).mono ?_; rintro e wx ⟨rfl, hBx⟩; replace hP := hP.below hBx; replace hF := hF.trans (Fr.of_below hBx)))
  have hNN : (1 : Int) ≤ 1 + (n : Int) % 300 ∧ 1 + (n : Int) % 300 ≤ 300 := by omega
  generalize (1 : Int) + (n : Int) % 300 = NN at *
  refine (hmk _ v hP).mono ?_
  rintro e wn ⟨rfl, hQ, hG⟩
  replace hP := hQ
  replace hF := hF.trans hG
  clear hQ hG hmk
  go_wp2_with (first | (go_at_call 36; refine (hmark _ _ _ _ hP).mono ?_; rintro e wm ⟨rfl, rfl⟩) | (go_at_call 35; refine (hone _).mono ?_; rintro e wx ⟨rfl, hBx⟩; replace hP := hP.below hBx; replace hF := hF.trans (Fr.of_below hBx)))
  refine (hrs _ v _ _ hP (by decide) ⟨rfl, rfl, rfl, by decide⟩ NN (by omega)).mono ?_
  rintro e wn2 ⟨c1, f1, q1, k1, rfl, hQ, hq1, hk1, hk1', hG, (⟨_, rfl, rfl, rfl⟩ | ⟨hbad, _⟩)⟩
  case inr => exact absurd hbad (by decide)
  replace hP := hQ
  replace hF := hF.trans hG
  clear hQ hG
  go_wp2_with (first | (go_at_call 36; refine (hmark _ _ _ _ hP).mono ?_; rintro e wm ⟨rfl, rfl⟩) | (go_at_call 35; refine (hone _).mono ?_; rintro e wx ⟨rfl, hBx⟩; replace hP := hP.below hBx; replace hF := hF.trans (Fr.of_below hBx)))
  refine (hws _ v _ _ hP (by decide) hq1).mono ?_
  rintro e wn3 ⟨c2, f2, q2, k2, rfl, hQ, hq2, hk2, hk2', hG, (⟨_, rfl, hc2, hz2⟩ | ⟨hbad, _⟩)⟩
  case inr => exact absurd hbad (by decide)
  replace hP := hQ
  replace hF := hF.trans hG
  clear hQ hG
  have hz2' : q2.b.size = c2 := by rw [hz2]; have : (Pp.fresh 0).b.size = 0 := rfl; omega
  have hc2' : c2 = min s.size 256 := by rw [hc2]; have : (Pp.fresh 0).b.size = 0 := rfl; omega
  have hBC : BC 0 0 q2 := .inl ⟨rfl, by omega, by omega⟩
  go_upto_block 0 with fail
  go_cut [12, 13] from 63 to 77 (fun s12 s13 wx => ∃ (i : Nat) (f : Int) (q : Pp) (k : Nat), s12 = .int .i64 f ∧ s13 = .int .i64 i ∧ i ≤ 3 ∧ HP wx v k (some q) ∧ Q1 q ∧ k ≤ 3 + i ∧ Fr v.S w2 wx ∧ BC f i q ∧ (f = 0 → i = 3))
  case first =>
    go_wp2_with fail
    go_loopw [12, 13] (fun t12 t13 wr => ∃ (i : Nat) (f : Int) (q : Pp) (k : Nat), t12 = .int .i64 f ∧ t13 = .int .i64 i ∧ i ≤ 3 ∧ HP wr v k (some q) ∧ Hid (Q1 q) ∧ k ≤ 3 + i ∧ Fr v.S w2 wr ∧ BC f i q) (fun _ t13 _ => 3 - (intOf t13).toNat)
    case atStart => exact ⟨0, _, _, _, rfl, rfl, Nat.zero_le _, hP, Lib.hid hq2, by omega, hF, hBC⟩
    case round =>
      obtain ⟨i, f, q, k, rfl, rfl, hi, hPr, HQ, hk, hFr, hC⟩ := hrel
      by_cases hlt : i < 3
      · rcases hC with ⟨rfl, hC⟩ | ⟨rfl, hC⟩
        · go_wp2_with (go_at_call 35; refine (hone _).mono ?_; rintro e wx ⟨rfl, hBx⟩; replace hPr := hPr.below hBx; replace hFr := hFr.trans (Fr.of_below hBx))
          refine (hws _ v _ _ hPr (by omega) HQ.out).mono ?_
          rintro e wn ⟨c, f', q', k', rfl, hP', hq', hk1, hk2, hG, hst⟩
          have hBC' := BC.step hs0 HQ.out hC hst
          clear hst hC
          go_wp2_with fail
          exact ⟨⟨i + 1, f', q', k', rfl, by go_num, by omega, hP', Lib.hid hq', by omega, hFr.trans hG, hBC'⟩, by simp [intOf]; omega⟩
        · go_wp2_with fail
          go_meet
          exact ⟨_, _, _, _, rfl, rfl, hi, hPr, HQ.out, hk, hFr, .inr ⟨rfl, hC⟩, fun h => by omega⟩
      · go_wp2_with fail
        go_meet
        exact ⟨_, _, _, _, rfl, rfl, hi, hPr, HQ.out, hk, hFr, hC, fun _ => by omega⟩
  case rest =>
  obtain ⟨i3, f3, q3, k3, rfl, rfl, hi3, hP3, hq3, hk3, hF3, hBC3, -⟩ := hcut
  replace hBC : BC f3 0 q3 := by
    rcases hBC3 with ⟨h1, h2, h3⟩ | h
    · exact .inl ⟨h1, by omega, by omega⟩
    · exact .inr h
  replace hP := hP3
  replace hF := hF3
  have hq2' := hq2
  clear hBC3 hF3 hP3 hq2
  have hq2 := hq3
  go_upto_block 2 with fail
  go_cut [12, 14] from 78 to 92 (fun s12 s13 wx => ∃ (i : Nat) (f : Int) (q : Pp) (k : Nat), s12 = .int .i64 f ∧ s13 = .int .i64 i ∧ i ≤ 600 ∧ HP wx v k (some q) ∧ Q1 q ∧ k ≤ 6 + i ∧ Fr v.S w2 wx ∧ BC f i q ∧ (f = 0 → i = 600))
  case first =>
    go_wp2_with fail
    go_loopw [12, 14] (fun t12 t13 wr => ∃ (i : Nat) (f : Int) (q : Pp) (k : Nat), t12 = .int .i64 f ∧ t13 = .int .i64 i ∧ i ≤ 600 ∧ HP wr v k (some q) ∧ Hid (Q1 q) ∧ k ≤ 6 + i ∧ Fr v.S w2 wr ∧ BC f i q) (fun _ t13 _ => 600 - (intOf t13).toNat)
    case atStart => exact ⟨0, _, _, _, rfl, rfl, Nat.zero_le _, hP, Lib.hid hq2, by omega, hF, hBC⟩
    case round =>
      obtain ⟨i, f, q, k, rfl, rfl, hi, hPr, HQ, hk, hFr, hC⟩ := hrel
      by_cases hlt : i < 600
      · rcases hC with ⟨rfl, hC⟩ | ⟨rfl, hC⟩
        · go_wp2_with (go_at_call 35; refine (hone _).mono ?_; rintro e wx ⟨rfl, hBx⟩; replace hPr := hPr.below hBx; replace hFr := hFr.trans (Fr.of_below hBx))
          refine (hws _ v _ _ hPr (by omega) HQ.out).mono ?_
          rintro e wn ⟨c, f', q', k', rfl, hP', hq', hk1, hk2, hG, hst⟩
          have hBC' := BC.step hs0 HQ.out hC hst
          clear hst hC
          go_wp2_with fail
          exact ⟨⟨i + 1, f', q', k', rfl, by go_num, by omega, hP', Lib.hid hq', by omega, hFr.trans hG, hBC'⟩, by simp [intOf]; omega⟩
        · go_wp2_with fail
          go_meet
          exact ⟨_, _, _, _, rfl, rfl, hi, hPr, HQ.out, hk, hFr, .inr ⟨rfl, hC⟩, fun h => by omega⟩
      · go_wp2_with fail
        go_meet
        exact ⟨_, _, _, _, rfl, rfl, hi, hPr, HQ.out, hk, hFr, hC, fun _ => by omega⟩
  case rest =>
  obtain ⟨i4, f4, q4, k4, rfl, rfl, hi4, hP4, hq4, hk4, hF4, hBC4, hend⟩ := hcut
  obtain ⟨rfl, hz4⟩ : f4 = 19 ∧ q4.b.size = 256 := by
    rcases hBC4 with ⟨h1, h2, h3⟩ | h
    · have := hend h1; omega
    · exact h
  replace hP := hP4
  replace hF := hF4
  clear hend hP4 hF4
  go_wp2_with (first | (go_at_call 36; refine (hmark _ _ _ _ hP).mono ?_; rintro e wm ⟨rfl, rfl⟩) | (go_at_call 35; refine (hone _).mono ?_; rintro e wx ⟨rfl, hBx⟩; replace hP := hP.below hBx; replace hF := hF.trans (Fr.of_below hBx)))
  refine (hws _ v _ _ hP (by omega) hq4).mono ?_
  rintro e wn5 ⟨c5, f5, q5, k5, rfl, hQ, hq5, hk5, hk5', hG, (⟨hbad, _⟩ | ⟨_, rfl, rfl, rfl, rfl⟩)⟩
  case inl => omega
  replace hP := hQ
  replace hF := hF.trans hG
  clear hQ hG
  go_wp2_with (first | (go_at_call 36; refine (hmark _ _ _ _ hP).mono ?_; rintro e wm ⟨rfl, rfl⟩) | (go_at_call 35; refine (hone _).mono ?_; rintro e wx ⟨rfl, hBx⟩; replace hP := hP.below hBx; replace hF := hF.trans (Fr.of_below hBx)))
  refine (hrs _ v _ _ hP (by omega) hq4 NN (by omega)).mono ?_
  rintro e wn6 ⟨c6, f6, q6, k6, rfl, hQ, hq6, hk6, hk6', hG, (⟨hbad, _⟩ | ⟨_, rfl, hc6, hz6, _⟩)⟩
  case inl => omega
  replace hP := hQ
  replace hF := hF.trans hG
  clear hQ hG
  go_wp2_with (first | (go_at_call 36; refine (hmark _ _ _ _ hP).mono ?_; rintro e wm ⟨rfl, rfl⟩) | (go_at_call 35; refine (hone _).mono ?_; rintro e wx ⟨rfl, hBx⟩; replace hP := hP.below hBx; replace hF := hF.trans (Fr.of_below hBx)))
  refine (hws _ v _ _ hP (by omega) hq6).mono ?_
  rintro e wn7 ⟨c7, f7, q7, k7, rfl, hQ, hq7, hk7, hk7', hG, (⟨_, rfl, hc7, _⟩ | ⟨hbad, _⟩)⟩
  case inr => omega
  replace hF := hF.trans hG
  clear hQ hG
  have m1 : (if (256 : Int) < s.size then (256 : Int) else s.size) = ((min s.size 256 : Nat) : Int) := by split <;> omega
  have m2 : (if (256 : Int) < NN then (256 : Int) else NN) = (c6.size : Int) := by split <;> omega
  have hcs : ((c6.size : Int) < s.size ∧ c7 = c6.size) ∨ (¬ (c6.size : Int) < s.size ∧ c7 = s.size) := by omega
  clear hc7 hc6 hz6 hz4 hc2' hz2 hz2' hBC hq7 hq6 hq5 hq4 hq3 hq2 hq2' hws hrs
  have hA := hB0.trans' ((below_new1 w0 (.cells #[.pointer none] 197)).trans' hB)
  have hall := hA.trans (hF.below (B := w.heap.size) hA.size (fun i hi => by have := hS i hi; have := hB0.size; simp at *; omega))
  rcases hcs with ⟨hcs, rfl⟩ | ⟨hcs, rfl⟩
  · go_wp2_with fail
    go_ret
    exact ⟨by simp, hall⟩
  · go_wp2_with fail
    go_ret
    exact ⟨by simp, hall⟩

set_option maxRecDepth 100000 in
theorem busy_any (s : ByteArray) (n : Nat) (hn : n < 65536) (w : World) :
    Calls Tryz.prog 4 #[.string s, .int .u16 n] w fun e w' => e = .returned (.bool true) ∧ Below w.heap.size w w' := by
  by_cases hs0 : s.size = 0
  · have hsl : s.toList = [] := by rw [ByteArray.toList_eq]; exact List.eq_nil_of_length_eq_zero (by rw [dl, hs0])
    have hT := Below.refl w.heap.size w
    go_enter Tryz.func4, Tryz.ntmps4
    go_wp2_with (go_at_call 24; refine (known_any _).mono ?_; rintro e w0 ⟨rfl, hB0⟩; replace hT := hT.trans (hB0.mono hT.size))
    go_ret
    exact ⟨rfl, hT⟩
  · by_cases hs : s.size ≤ 600
    · exact busy_main s hs0 hs n hn w
    · have hsl : s.toList ≠ [] := by rw [ByteArray.toList_eq]; intro e; have := dl s; rw [e] at this; simp at this; omega
      have hsl2 : (s.toList == []) = false := by simpa using hsl
      have hT := Below.refl w.heap.size w
      go_enter Tryz.func4, Tryz.ntmps4
      go_wp2_with (go_at_call 24; refine (known_any _).mono ?_; rintro e w0 ⟨rfl, hB0⟩; replace hT := hT.trans (hB0.mono hT.size))
      go_ret
      exact ⟨rfl, hT⟩

end Go.Proofs.YtdjjfjnkkgmadaaGreatDoor
