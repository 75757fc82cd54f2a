/-
  strconv.Atoi at one to six digits.
-/
import Derived.Test.YtdjjfjnkkgmadaaGreatDoorWriter
import Derived.Test.YtdjjfjnkkgmadaaGreatDoorLin
namespace Go.Proofs.YtdjjfjnkkgmadaaGreatDoor
open Go Go.RowKit

set_option maxRecDepth 100000 in
set_option maxHeartbeats 2000000 in
theorem atoi_in (s : ByteArray) (w : World) (h0 : 0 < s.size) (h6 : s.size ≤ 6) (hd : ∀ c ∈ s.data.toList, Ln.isDig c = true) :
    Calls Tryz.prog 226 #[.string s] w fun e w' => e = .returned (.tuple #[.int .i64 (Ln.val s.data.toList), .nilIface]) ∧ Below w.heap.size w w' := by
  have hb : ∀ i, (h : i < s.size) → 48 ≤ s[i].toNat ∧ s[i].toNat ≤ 57 := fun i h => by
    have h1 : s[i] = s.data.toList[i]'(by rw [dl]; exact h) := rfl
    have h2 := hd s[i] (by rw [h1]; exact List.getElem_mem _)
    simpa [Ln.isDig] using h2
  have hb0 := hb 0 h0
  have Hb := Lib.hid hb
  have Hd := Lib.hid hd
  obtain ⟨c2, w2, hcv, hb2, hB2, hsz2⟩ := conv_string w s (by unfold maxLen; omega)
  have hbs := hb2.bytes
  have h45 : ((s[0].toNat : Int) == 45) = false := by simp; omega
  have h43 : ((s[0].toNat : Int) == 43) = false := by simp; omega
  have hcell : ∀ i, i < s.size → w2.cell? ⟨w.heap.size, i, none⟩ = some (.int .u8 (s.data.toList.getD i 0).toNat) := by
    rcases hbs with ⟨h, _⟩ | ⟨b, off, cap, cs, t, f, g1, g2, g3, g4, g5, g6⟩
    · simp at h
    · intro i hi
      injection g1 with g1 _ _
      injection g1 with g1
      injection g1 with g1 g1'
      subst g1 g1'
      have := g6 i (by rw [dl]; exact hi)
      simp only [Nat.zero_add] at this
      rw [← this]
      simp [World.cell?, g4]
  have Hs := Lib.hid hsz2
  have Hc := Lib.hid hcell
  have hS6 : (s.data.toList.length : Int) = s.size := by rw [dl]
  have hB3 := hB2
  clear hb hd hsz2 hb2 hbs hb0 hcell hS6
  go_enter Tryz.func226, Tryz.ntmps226
  go_wp2_with fail
  go_simp
  go_wp2_with fail
  go_loop [6, 49] (fun t6 t49 => ∃ k : Nat, k ≤ s.size ∧ t49 = .int .i64 k ∧ t6 = .int .i64 (Ln.val (s.data.toList.take k)) ∧ Ln.val (s.data.toList.take k) < 10 ^ k) (fun _ t49 => s.size - (intOf t49).toNat)
  case atStart => exact ⟨0, Nat.zero_le _, rfl, rfl, by simp [Ln.val]⟩
  case round =>
    obtain ⟨k, hk, rfl, rfl, hv⟩ := hrel
    by_cases hlt : k < s.size
    · have hcell := Hc.out k hlt
      have hd := Hb.out k hlt
      have e1 : (s.data.toList.getD k 0) = s[k] := by
        rw [List.getD, List.getElem?_eq_getElem (by rw [dl]; exact hlt)]; rfl
      rw [e1] at hcell
      have hp : (10 : Nat) ^ k ≤ 10 ^ 6 := Nat.pow_le_pow_right (by omega) (by omega)
      have hp6 : (10 : Nat) ^ 6 = 1000000 := by decide
      have hv6 : Ln.val (s.data.toList.take k) < 1000000 := by omega
      have Hv := Lib.hid hv
      generalize hc : s[k] = c at *
      have Hcc := Lib.hid hc
      clear hc e1 hp hp6 hv
      generalize hx : Ln.val (s.data.toList.take k) = x at *
      have Hx := Lib.hid hx
      clear hx
      go_wp2_with fail
      have e2 : s.data.toList.take (k + 1) = s.data.toList.take k ++ [c] := by
        rw [List.take_succ_eq_append_getElem (by rw [dl]; exact hlt), ← Hcc.out]; rfl
      have e3 : Ln.val (s.data.toList.take (k + 1)) = x * 10 + (c.toNat - 48) := by rw [e2, Ln.val_snoc, Hx.out]
      refine ⟨⟨k + 1, by omega, by go_num, ?_, ?_⟩, by simp [intOf]; omega⟩
      · rw [e3]
        go_num
      · rw [e3, Nat.pow_succ]
        have := Hv.out
        omega
    · have hk' : k = s.size := by omega
      have e : s.data.toList.take k = s.data.toList := by rw [hk', ← dl, List.take_length]
      rw [e] at hv ⊢
      clear e
      go_wp2_with fail
      go_ret2
      exact ⟨rfl, hB3⟩

set_option maxRecDepth 100000 in
theorem atoi_any (s : ByteArray) (w : World) (h0 : 0 < s.size) (h6 : s.size ≤ 6) (hd : ∀ c ∈ s.data.toList, Ln.isDig c = true) :
    Calls Tryz.prog 215 #[.string s] w fun e w' => e = .returned (.tuple #[.int .i64 (Ln.val s.data.toList), .nilIface]) ∧ Below w.heap.size w w' := by
  have h := atoi_in s w h0 h6 hd
  clear hd
  go_enter Tryz.func215, Tryz.ntmps215
  go_wp2_with (go_at_call 226; refine h.mono ?_; rintro e w1 ⟨rfl, hB⟩)
  go_ret2
  exact ⟨rfl, hB⟩

end Go.Proofs.YtdjjfjnkkgmadaaGreatDoor
