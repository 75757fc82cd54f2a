/-
  The reference of chapter 32: To, Check, and the reference codec's Natural, Text, Parse.
-/
import Derived.Test.YtdjjfjnkkgmadaaGreatDoorVals0
import Derived.Deep.CutRange
import Derived.Deep.CutBlock
import Derived.LoopIn
namespace Go.Proofs.YtdjjfjnkkgmadaaGreatDoor
open Go Go.RowKit

set_option maxRecDepth 100000 in
theorem to_any (p : Pp) (w : World) : Calls Tryz.prog 26 #[p.v] w fun e w' => e = .returned p.v ∧ Below w.heap.size w w' := by
  have hB := below_new2 w (.cells #[.int .i64 p.e, .int .i64 p.r, .int .i64 p.w, .string p.b] 23) (.cells #[.int .i64 p.e, .int .i64 p.r, .int .i64 p.w, .string p.b] 28)
  unfold Pp.v
  go_enter Tryz.func26, Tryz.ntmps26
  go_wp2
  refine bodyPost_ret (v := .agg #[.int .i64 p.e, .int .i64 p.r, .int .i64 p.w, .string p.b]) (results_cell_row rfl _ _ (w.heap.size + 1) 28 _ (0, 0) _ rfl (blk_new1 w _ _) Tryz.underlying28 rfl (by kernel_rfl)) rfl ⟨rfl, hB⟩

set_option maxRecDepth 100000 in
set_option maxHeartbeats 4000000 in
theorem rcheck_any (p : Pp) (w : World) : Calls Tryz.prog 31 #[p.v] w fun e w' => e = .returned (.int .i64 p.err) ∧ Below w.heap.size w w' := by
  have hB := below_new1 w (.cells #[.int .i64 p.e, .int .i64 p.r, .int .i64 p.w, .string p.b] 23)
  unfold Pp.v
  by_cases h1 : p.e < 0
  · rw [err_two (.inl h1)]
    go_enter Tryz.func31, Tryz.ntmps31
    go_wp2
    go_ret
    exact ⟨rfl, hB⟩
  by_cases h2 : 1073741824 < p.e
  · rw [err_two (.inr (.inl h2))]
    go_enter Tryz.func31, Tryz.ntmps31
    go_wp2
    go_ret
    exact ⟨rfl, hB⟩
  by_cases h3 : p.r < 0
  · rw [err_two (.inr (.inr (.inl h3)))]
    go_enter Tryz.func31, Tryz.ntmps31
    go_wp2
    go_ret
    exact ⟨rfl, hB⟩
  by_cases h4 : 64 < p.r
  · rw [err_two (.inr (.inr (.inr (.inl h4))))]
    go_enter Tryz.func31, Tryz.ntmps31
    go_wp2
    go_ret
    exact ⟨rfl, hB⟩
  by_cases h5 : p.w < 0
  · rw [err_two (.inr (.inr (.inr (.inr (.inl h5)))))]
    go_enter Tryz.func31, Tryz.ntmps31
    go_wp2
    go_ret
    exact ⟨rfl, hB⟩
  by_cases h6 : 64 < p.w
  · rw [err_two (.inr (.inr (.inr (.inr (.inr h6)))))]
    go_enter Tryz.func31, Tryz.ntmps31
    go_wp2
    go_ret
    exact ⟨rfl, hB⟩
  rw [err_rest (by omega)]
  by_cases h7 : p.r = 0
  · by_cases h8 : p.w = 0
    · rw [if_pos (by omega)]
      have h7' : (p.r == 0) = true := by simpa using h7
      have h8' : (p.w == 0) = true := by simpa using h8
      clear h7 h8
      go_enter Tryz.func31, Tryz.ntmps31
      go_wp2
      go_ret
      exact ⟨rfl, hB⟩
    · rw [if_neg (by omega)]
      have h7' : (p.r == 0) = true := by simpa using h7
      have h8' : (p.w == 0) = false := by simpa using h8
      clear h7 h8
      by_cases h9 : 256 < p.b.size
      · rw [if_pos h9]
        go_enter Tryz.func31, Tryz.ntmps31
        go_wp2
        go_ret
        exact ⟨rfl, hB⟩
      · rw [if_neg h9]
        go_enter Tryz.func31, Tryz.ntmps31
        go_wp2
        go_ret
        exact ⟨rfl, hB⟩
  · rw [if_neg (by omega)]
    have h7' : (p.r == 0) = false := by simpa using h7
    clear h7
    by_cases h9 : 256 < p.b.size
    · rw [if_pos h9]
      go_enter Tryz.func31, Tryz.ntmps31
      go_wp2
      go_ret
      exact ⟨rfl, hB⟩
    · rw [if_neg h9]
      go_enter Tryz.func31, Tryz.ntmps31
      go_wp2
      go_ret
      exact ⟨rfl, hB⟩

set_option maxRecDepth 100000 in
set_option maxHeartbeats 1000000 in
theorem naturalR_any (u : Nat) (w : World) (hu : u < 18446744073709551616) :
    Calls Tryz.prog 106 #[.int .u64 u] w fun e w' => ∃ v, e = .returned v ∧ w'.ownsRow w.heap.size 5 1 v (Cd.nat u).length (bv (Cd.nat u)) ∧ Below w.heap.size w w' := by
  have Hu := Lib.hid hu
  have hul := nat_len10 u hu
  clear hu
  go_enter Tryz.func106, Tryz.ntmps106
  go_wp2_with fail
  go_loopw [0, 3] (fun t0 t3 wr => ∃ (m : Nat) (l0 : List UInt8) (a3 : Option Addr) (c3 : Nat), t0 = .int .u64 m ∧ m ≤ u ∧ l0.length + (Cd.nat m).length ≤ (Cd.nat u).length ∧ Hid (Cd.nat u = l0 ++ Cd.nat m) ∧ t3 = .slice a3 l0.length c3 ∧ wr.ownsRow w.heap.size 5 1 (.slice a3 l0.length c3) l0.length (bv l0) ∧ Below w.heap.size w wr) (fun t0 _ _ => (intOf t0).toNat)
  case atStart => exact ⟨u, [], none, 0, rfl, Nat.le_refl _, by simp, rfl, rfl, World.ownsRow_nil .., Below.refl _ _⟩
  case round =>
    obtain ⟨m, l0, a3, c3, rfl, hm, hlen, Hl, rfl, hown, hB⟩ := hrel
    have hsz := hB.size
    have hnl := Cd.nat_len_pos m
    have hw : IntKind.u64.wrap ((m : Int) / 128) = ((m / 128 : Nat) : Int) := by have := Hu.out; rw [IntKind.wrap_u64]; omega
    by_cases h128 : 128 ≤ m
    · go_wp2_with (at_builtin; refine app_bytes rfl _ _ rfl w.heap.size (.slice a3 l0.length c3) _ l0 [UInt8.ofNat (m % 128 + 128)] rfl (hown.alloc _) rfl (bytes_new1' _ _ _ (by rw [Cd.toNat_ofNat (by omega)]; omega)) (by simp; omega) (by simp; omega) ?_; intro a' c' w' hown' hgrow _)
      have hB' := (hB.alloc hsz _).grown hgrow (by simp; omega) (fun k e => (hown.lt k e.symm.symm).1)
      have hm' := Cd.nat_big (u := m) (by omega)
      refine ⟨⟨m / 128, l0 ++ [UInt8.ofNat (m % 128 + 128)], a', c', rfl, by omega, ?_, ?_, by simp, hown', hB'⟩, by simp [intOf]; omega⟩
      · rw [hm'] at hlen
        simp at hlen ⊢
        omega
      · show _ = _
        rw [Hl.out, hm']
        simp
    · go_wp2_with (at_builtin; refine app_bytes rfl _ _ rfl w.heap.size (.slice a3 l0.length c3) _ l0 [UInt8.ofNat m] rfl (hown.alloc _) rfl (bytes_new1' _ _ _ (by rw [Cd.toNat_ofNat (by omega)])) (by simp; omega) (by simp; omega) ?_; intro a' c' w' hown' hgrow _)
      go_ret
      have hB' := (hB.alloc hsz _).grown hgrow (by simp; omega) (fun k e => (hown.lt k e.symm.symm).1)
      have hm' := Cd.nat_small (u := m) (by omega)
      rw [← hm', ← Hl.out] at hown'
      refine ⟨_, rfl, ?_, hB'⟩
      have hlen2 : l0.length + 1 = (Cd.nat u).length := by rw [Hl.out, hm']; simp
      show w'.ownsRow w.heap.size 5 1 (.slice a' (l0.length + 1) c') _ _
      rw [hlen2]
      exact hown'

theorem take_succ_getD (l : List UInt8) (i : Nat) (hi : i < l.length) : l.take (i + 1) = l.take i ++ [l.getD i 0] := by
  rw [List.take_add_one, List.getD, List.getElem?_eq_getElem hi]
  rfl

set_option maxRecDepth 100000 in
set_option maxHeartbeats 1000000 in
theorem textR_any (s : ByteArray) (w : World) (hs : s.size ≤ 16777216) :
    Calls Tryz.prog 107 #[.string s] w fun e w' => ∃ v, e = .returned v ∧ w'.ownsRow w.heap.size 5 1 v (Cd.nat s.size ++ s.data.toList).length (bv (Cd.nat s.size ++ s.data.toList)) ∧ Below w.heap.size w w' := by
  have hnat := naturalR_any s.size w (by omega)
  have hnl := nat_len10 s.size (by omega)
  have hd := dl s
  go_enter Tryz.func107, Tryz.ntmps107
  go_wp2_with (go_at_call 106; refine hnat.mono ?_; rintro e w1 ⟨v, rfl, ho, hB1⟩; obtain ⟨a, c, rfl⟩ := owns_slice ho)
  go_loopw [3, 4] (fun t3 t4 wr => ∃ (i : Nat) (l0 : List UInt8) (a3 : Option Addr) (c3 : Nat), t4 = .int .i64 i ∧ i ≤ s.size ∧ l0 = Cd.nat s.size ++ s.data.toList.take i ∧ t3 = .slice a3 l0.length c3 ∧ wr.ownsRow w.heap.size 5 1 (.slice a3 l0.length c3) l0.length (bv l0) ∧ Below w.heap.size w wr) (fun _ t4 _ => s.size - (intOf t4).toNat)
  case atStart => exact ⟨0, Cd.nat s.size, a, c, rfl, Nat.zero_le _, by simp, rfl, ho, hB1⟩
  case round =>
    obtain ⟨i, l0, a3, c3, rfl, hi, hl0, rfl, hown, hB⟩ := hrel
    have hsz := hB.size
    have hlen : l0.length = (Cd.nat s.size).length + i := by rw [hl0]; simp; omega
    by_cases hlt : i < s.size
    · have hb : s.data.toList.getD i 0 = s[i]'hlt := by rw [List.getD, List.getElem?_eq_getElem (by omega)]; rfl
      go_wp2_with (at_builtin; refine app_bytes rfl _ _ rfl w.heap.size (.slice a3 l0.length c3) _ l0 [s.data.toList.getD i 0] rfl (hown.alloc _) rfl (bytes_new1' _ _ _ (by rw [hb])) (by simp; omega) (by simp; omega) ?_; intro a' c' w' hown' hgrow _)
      have hB' := (hB.alloc hsz _).grown hgrow (by simp; omega) (fun k e => (hown.lt k e.symm.symm).1)
      refine ⟨⟨i + 1, l0 ++ [s.data.toList.getD i 0], a', c', by go_num, by omega, ?_, by simp; omega, hown', hB'⟩, by simp [intOf]; omega⟩
      rw [hl0, take_succ_getD _ _ (by omega), List.append_assoc]
    · have hi' : i = s.size := by omega
      have hl0' : l0 = Cd.nat s.size ++ s.data.toList := by rw [hl0, List.take_of_length_le (by omega)]
      subst hl0'
      go_wp2_with fail
      go_ret
      exact ⟨_, rfl, hown, hB⟩

section
variable {l : List UInt8} {k n : Nat}
theorem gr_ok' (H : Hid (Cd.dec 9 true l = (Cd.dec (9 - k) (k == 0) (l.drop k)).shift n k)) (hk : k < l.length) (h9 : k ≤ 8) (h1 : l[k].toNat < 128) (hz : ¬ (l[k].toNat = 0 ∧ 0 < k)) :
    Cd.dec 9 true l = .ok (n + 128 ^ k * (l[k].toNat % 128)) (k + 1) := by
  rw [H.out, drop_cons hk]
  obtain ⟨m, hm⟩ : ∃ m, 9 - k = m + 1 := ⟨8 - k, by omega⟩
  have hz' : ¬ (l[k].toNat = 0 ∧ (k == 0) = false) := by
    rintro ⟨h, h'⟩
    exact hz ⟨h, by simp at h'; omega⟩
  rw [hm, Cd.dec, if_pos h1, if_neg hz', Nat.mod_eq_of_lt h1]
  rfl
end

theorem pow_le_9 {k : Nat} (hk : k ≤ 9) : 128 ^ k ≤ 9223372036854775808 := by
  have : 128 ^ k ≤ 128 ^ 9 := Nat.pow_le_pow_right (by omega) hk
  have h9 : (128 : Nat) ^ 9 = 9223372036854775808 := by decide
  omega

/-- One step of the sum from behind. -/
theorem gsum_step (l : List UInt8) (j k acc : Nat) (h : gsum l (j + 1) + 128 ^ (j + 1) * acc = gsum l (k + 1)) :
    gsum l j + 128 ^ j * (128 * acc + (l.getD j 0).toNat % 128) = gsum l (k + 1) := by
  rw [← h, gsum, Nat.mul_add, Nat.pow_succ, Nat.mul_assoc]
  omega

theorem acc_step (j k acc c : Nat) (hj : j ≤ k) (hk : k ≤ 8) (h : acc < 128 ^ (k - j)) : 128 * acc + c % 128 < 128 ^ (k + 1 - j) ∧ 128 * acc + c % 128 < 9223372036854775808 ∧ 128 * acc < 9223372036854775808 := by
  have e : k + 1 - j = (k - j) + 1 := by omega
  have h1 : 128 * acc + c % 128 < 128 ^ (k + 1 - j) := by
    rw [e, Nat.pow_succ]; omega
  have h2 := pow_le_9 (k := k + 1 - j) (by omega)
  omega

set_option maxRecDepth 100000 in
set_option maxHeartbeats 2000000 in
theorem groupsR_any (v : Value) (l : List UInt8) (w : World) (hl : l.length ≤ maxLen) (hv : Bytes w v l) :
    Calls Tryz.prog 201 #[v, .int .i64 9] w fun e w' => e = .returned (Cd.dec 9 true l).ret ∧ w = w' := by
  unfold maxLen at hl
  rcases hv with ⟨rfl, rfl⟩ | ⟨b, off, cap, cs, t, f, rfl, hcap, hm, hh, _, hc⟩
  · go_enter Tryz.func201, Tryz.ntmps201
    go_wp2
    refine (wp_loop_rounds 1 ?_)
    rw [rounds_succ]
    go_wp2
    go_ret3
    exact ⟨rfl, rfl⟩
  · have hcell : ∀ i, i < l.length → w.cell? ⟨b, off + i, none⟩ = some (.int .u8 (l.getD i 0).toNat) := fun i hi => by
      rw [← hc i hi]; simp [World.cell?, hh]
    have Hc := Lib.hid hcell
    clear hcell hc hh
    go_enter Tryz.func201, Tryz.ntmps201
    go_upto_block 0 with fail
    go_cut [7] from 10 to 27 (fun s7 wx => ∃ (k : Nat), s7 = .int .i64 k ∧ k ≤ l.length ∧ k ≤ 9 ∧ gsum l k < 128 ^ k ∧ Hid (Cd.dec 9 true l = (Cd.dec (9 - k) (k == 0) (l.drop k)).shift (gsum l k) k) ∧ (k < 9 → k < l.length → (l.getD k 0).toNat < 128) ∧ w = wx)
    case first =>
      go_wp2_with fail
      go_loop [7] (fun t7 => ∃ (k : Nat), t7 = .int .i64 k ∧ k ≤ l.length ∧ k ≤ 9 ∧ gsum l k < 128 ^ k ∧ Hid (Cd.dec 9 true l = (Cd.dec (9 - k) (k == 0) (l.drop k)).shift (gsum l k) k)) (fun t7 => l.length - (intOf t7).toNat)
      case atStart => exact ⟨0, rfl, Nat.zero_le _, Nat.zero_le _, by simp [gsum], by show _ = _; simp [shift_zero, gsum]⟩
      case round =>
        obtain ⟨k, rfl, hk, hk9, hn, Hd⟩ := hrel
        by_cases hlt : k < l.length
        · by_cases hk8 : k < 9
          · have hcell : w.cell? ⟨b, off + k, none⟩ = some (.int .u8 (l.getD k 0).toNat) := Hc.out k hlt
            have hgd : l.getD k 0 = l[k] := by simp [List.getD, hlt]
            by_cases h128 : 128 ≤ (l.getD k 0).toNat
            · obtain ⟨g1, g2⟩ := gr_more Hd hlt (by omega) hn (by rw [← hgd]; exact h128)
              have gs : gsum l (k + 1) = gsum l k + 128 ^ k * ((l.getD k 0).toNat % 128) := rfl
              rw [← hgd, ← gs] at g1 g2
              have h128' : (128 : Int) ≤ ((l.getD k 0).toNat : Int) := by omega
              generalize (l.getD k 0).toNat = cc at *
              go_wp2_with fail
              exact ⟨⟨k + 1, by go_num, by omega, by omega, g1, g2⟩, by simp [intOf]; omega⟩
            · have h128' : ¬ (128 : Int) ≤ ((l.getD k 0).toNat : Int) := by omega
              have hfin : k < 9 → k < l.length → (l.getD k 0).toNat < 128 := fun _ _ => by omega
              generalize hcc : (l.getD k 0).toNat = cc at *
              have Hcc := Lib.hid hcc
              clear hcc
              go_wp2_with fail
              go_meet
              exact ⟨k, rfl, hk, hk9, hn, Hd, by rw [Hcc.out]; exact hfin, rfl⟩
          · go_wp2_with fail
            go_meet
            exact ⟨k, rfl, hk, hk9, hn, Hd, fun h => absurd h hk8, rfl⟩
        · go_wp2_with fail
          go_meet
          exact ⟨k, rfl, hk, hk9, hn, Hd, fun _ h => absurd h hlt, rfl⟩
    case rest =>
      obtain ⟨k, rfl, hk, hk9, hn, Hd, hfin, rfl⟩ := hcut
      by_cases hk9' : k = 9
      · subst hk9'
        go_wp2_with fail
        go_ret3
        rw [gr_nine Hd rfl]
        exact ⟨rfl, rfl⟩
      · have hk9b : ((k : Int) == 9) = false := by simp; omega
        by_cases hkl : k = l.length
        · have hklb : ((k : Int) == (l.length : Int)) = true := by simp; omega
          go_wp2_with fail
          go_ret3
          rw [gr_end Hd hk (by omega) hk9, if_neg (by omega)]
          exact ⟨rfl, rfl⟩
        · have hklb : ((k : Int) == (l.length : Int)) = false := by simp; omega
          have hlt : k < l.length := by omega
          have h128 := hfin (by omega) hlt
          have hcell : w.cell? ⟨b, off + k, none⟩ = some (.int .u8 (l.getD k 0).toNat) := Hc.out k hlt
          have hgd : l.getD k 0 = l[k] := by simp [List.getD, hlt]
          by_cases hz : (l[k]).toNat = 0 ∧ 0 < k
          · have hdec := gr_zero Hd hlt (by omega) hz.1 hz.2
            have hz2 : (((l.getD k 0).toNat : Int) == 0) = true := by rw [hgd, hz.1]; rfl
            have hk0 := hz.2
            generalize (l.getD k 0).toNat = cc at *
            go_wp2_with fail
            go_ret3
            rw [hdec]
            exact ⟨rfl, rfl⟩
          · have hdec := gr_ok' Hd hlt (by omega) (by rw [← hgd]; exact h128) hz
            have htot : gsum l (k + 1) = gsum l k + 128 ^ k * (l[k].toNat % 128) := by rw [gsum, hgd]
            rw [← htot] at hdec
            have Hdec := Lib.hid hdec
            have Hn := Lib.hid hn
            clear hdec htot hn Hd
            have hzz : ¬ (((l.getD k 0).toNat : Int) == 0) = true ∨ ¬ 0 < k := by
              rcases Nat.eq_zero_or_pos k with h | h
              · exact .inr (by omega)
              · exact .inl (fun hh => hz ⟨by rw [← hgd]; simpa using hh, h⟩)
            generalize hcc : (l.getD k 0).toNat = cc at *
            have Hcc := Lib.hid hcc
            clear hcc hz hfin
            go_upto_block 3 with fail
            · exact absurd hzz (by rintro (h | h) <;> exact h ‹_›)
            all_goals clear hcell h128 hzz Hcc
            all_goals
              go_wp2_with fail
              go_loop [8, 9] (fun t8 t9 => ∃ (j acc : Nat), j ≤ k + 1 ∧ acc < 128 ^ (k + 1 - j) ∧ Hid (gsum l j + 128 ^ j * acc = gsum l (k + 1)) ∧ t8 = .int .u64 acc ∧ t9 = .int .i64 ((j : Int) - 1)) (fun _ t9 => (intOf t9 + 1).toNat)
              case atStart => exact ⟨k + 1, 0, Nat.le_refl _, by simp, Lib.hid (by simp), rfl, by simp⟩
              case round =>
                obtain ⟨j, acc, hj, hacc, hsum, rfl, rfl⟩ := hrel
                cases j with
                | zero =>
                  have h0 : 0 + 128 ^ 0 * acc = gsum l (k + 1) := hsum.out
                  obtain rfl : acc = gsum l (k + 1) := by simpa using h0
                  clear h0 hsum
                  go_wp2_with fail
                  go_ret3
                  rw [Hdec.out]
                  exact ⟨rfl, rfl⟩
                | succ j =>
                  have e : (((j + 1 : Nat) : Int) - 1) = (j : Int) := by omega
                  rw [e]
                  have hcell : w.cell? ⟨b, off + j, none⟩ = some (.int .u8 (l.getD j 0).toNat) := Hc.out j (by omega)
                  have hst := gsum_step l j k acc hsum.out
                  have hac := acc_step j k acc (l.getD j 0).toNat (by omega) (by omega) (by rw [show k + 1 - (j + 1) = k - j by omega] at hacc; exact hacc)
                  generalize (l.getD j 0).toNat = c2 at *
                  go_wp2_with fail
                  exact ⟨⟨j, 128 * acc + c2 % 128, by omega, hac.1, Lib.hid hst, by simp, rfl⟩, by simp [intOf]⟩

end Go.Proofs.YtdjjfjnkkgmadaaGreatDoor
