/-
  codec.Reader: what its methods return and leave.
-/
import Derived.Test.YtdjjfjnkkgmadaaGreatDoorGroups
namespace Go.Proofs.YtdjjfjnkkgmadaaGreatDoor
open Go Go.RowKit

def Cd.TR.ret : Cd.TR → Value
  | .ok t s => .tuple #[.string (bs t), .int .i64 s, .int .i64 0]
  | .err e => .tuple #[.string (bs []), .int .i64 0, .int .i64 e]

theorem Cd.dec_len (l : List UInt8) (n s : Nat) (h : Cd.dec 9 true l = .ok n s) : n < 9223372036854775808 ∧ s ≤ l.length ∧ s ≤ 9 := by
  obtain ⟨h1, h2, _, r, h4⟩ := Cd.dec_ok 9 true l n s h
  refine ⟨h1, ?_, ?_⟩
  · rw [h4, List.length_append]; omega
  · rw [h2]; exact Cd.nat_len_le 9 n h1 (by omega)

set_option maxRecDepth 100000 in
theorem numFn_any (most : Int) (b : Nat) (v : Value) (l : List UInt8) (w : World) (hl : l.length ≤ maxLen) (hv : Bytes w v l) (hb : w.cell? ⟨b, 0, none⟩ = some (.int .i64 most)) :
    Calls Tryz.prog 167 #[v, .pointer (some ⟨b, 0, none⟩)] w fun e w' => e = .returned (Cd.num most l).retP ∧ w = w' := by
  have hg := parse_any v l w hl hv
  have hd := fun n s h => (Cd.dec_len l n s h).1
  have hz := fun e h => Cd.dec_err 9 true l e h
  unfold Cd.num
  generalize Cd.dec 9 true l = q at *
  cases q with
  | err e =>
    have he : e ≠ 0 := by have := hz e rfl; omega
    have he' : ((e : Int) == 0) = false := by simp; omega
    simp only [Cd.PR.retP] at *
    clear hv hd he hz
    go_enter Tryz.func167, Tryz.ntmps167
    go_wp2_with (go_at_call 168; refine hg.mono ?_; rintro e w' ⟨rfl, rfl⟩)
    go_ret3
    exact ⟨rfl, rfl⟩
  | ok n s =>
    have hn := hd n s rfl
    by_cases hm : most < (n : Int)
    · simp only [Cd.PR.retP, if_pos hm] at *
      clear hd hv hz
      go_enter Tryz.func167, Tryz.ntmps167
      go_wp2_with (go_at_call 168; refine hg.mono ?_; rintro e w' ⟨rfl, rfl⟩)
      go_ret3
      exact ⟨rfl, rfl⟩
    · simp only [Cd.PR.retP, if_neg hm] at *
      clear hd hv hz
      go_enter Tryz.func167, Tryz.ntmps167
      go_wp2_with (go_at_call 168; refine hg.mono ?_; rintro e w' ⟨rfl, rfl⟩)
      go_ret3
      exact ⟨rfl, rfl⟩


set_option maxRecDepth 100000 in
theorem txtFn_any (most : Int) (b : Nat) (v : Value) (l : List UInt8) (w : World) (hmost : most ≤ 16777216) (hl : l.length ≤ maxLen) (hv : Bytes w v l) (hb : w.cell? ⟨b, 0, none⟩ = some (.int .i64 most)) :
    Calls Tryz.prog 170 #[v, .pointer (some ⟨b, 0, none⟩)] w fun e w' => e = .returned (Cd.txt most l).ret ∧ w = w' := by
  have hg := parse_any v l w hl hv
  have hd := fun n s h => (Cd.dec_len l n s h)
  have hz := fun e h => Cd.dec_err 9 true l e h
  obtain ⟨a, cap, hvv, hcap⟩ := hv.len
  unfold Cd.txt
  unfold maxLen at hl
  generalize Cd.dec 9 true l = q at *
  cases q with
  | err e =>
    have he : e ≠ 0 := by have := hz e rfl; omega
    have he' : ((e : Int) != 0) = true := by rw [bne_iff_ne]; omega
    simp only [Cd.PR.retP, Cd.TR.ret] at *
    clear hv hd he hz hvv
    go_enter Tryz.func170, Tryz.ntmps170
    go_wp2_with (go_at_call 168; refine hg.mono ?_; rintro e w' ⟨rfl, rfl⟩)
    go_ret3
    exact ⟨rfl, rfl⟩
  | ok n s =>
    obtain ⟨hn, hs, hs9⟩ := hd n s rfl
    by_cases hm : most < (n : Int)
    · simp only [Cd.PR.retP, if_pos hm, Cd.TR.ret] at *
      subst hvv
      clear hd hv hz
      go_enter Tryz.func170, Tryz.ntmps170
      go_wp2_with (go_at_call 168; refine hg.mono ?_; rintro e w' ⟨rfl, rfl⟩)
      go_ret3
      exact ⟨rfl, rfl⟩
    · by_cases ht : l.length < s + n
      · simp only [Cd.PR.retP, if_neg hm, if_pos ht, Cd.TR.ret] at *
        subst hvv
        clear hd hv hz
        go_enter Tryz.func170, Tryz.ntmps170
        go_wp2_with (go_at_call 168; refine hg.mono ?_; rintro e w' ⟨rfl, rfl⟩)
        go_ret3
        exact ⟨rfl, rfl⟩
      · obtain ⟨v', hv', _, hsl⟩ := slice_bytes hv s (s + n) (by omega) (by omega)
        have hcv := conv_bytes hv'
        have hsl' := hsl w
        rw [show s + n - s = n by omega] at hcv
        rw [show ((s + n : Nat) : Int) = (s : Int) + (n : Int) from by omega] at hsl'
        simp only [Cd.PR.retP, if_neg hm, if_neg ht, Cd.TR.ret] at *
        subst hvv
        clear hd hv hz hv' hsl
        go_enter Tryz.func170, Tryz.ntmps170
        go_wp2_with (go_at_call 168; refine hg.mono ?_; rintro e w' ⟨rfl, rfl⟩)
        go_ret3
        rw [show ((s + n : Nat) : Int) = (s : Int) + (n : Int) from by omega]
        exact ⟨rfl, rfl⟩


theorem Cd.num_len (most : Int) (l : List UInt8) (n s : Nat) (h : Cd.num most l = .ok n s) : s ≤ l.length := by
  unfold Cd.num at h
  split at h
  · split at h
    · cases h
    · injection h with h1 h2
      rename_i h' _
      have := (Cd.dec_len l _ _ h').2.1
      omega
  · cases h

theorem Cd.num_err (most : Int) (l : List UInt8) (e : Nat) (h : Cd.num most l = .err e) : e ≠ 0 := by
  unfold Cd.num at h
  split at h
  · split at h
    · injection h; omega
    · cases h
  · injection h with h
    rename_i h'
    have := Cd.dec_err _ _ _ _ h'
    omega

theorem Cd.txt_len (most : Int) (l : List UInt8) (t : List UInt8) (s : Nat) (h : Cd.txt most l = .ok t s) : s ≤ l.length := by
  unfold Cd.txt at h
  split at h
  · split at h
    · cases h
    · split at h
      · cases h
      · injection h with h1 h2
        omega
  · cases h

theorem Cd.txt_err (most : Int) (l : List UInt8) (e : Nat) (h : Cd.txt most l = .err e) : e ≠ 0 := by
  unfold Cd.txt at h
  split at h
  · split at h
    · injection h; omega
    · split at h
      · injection h; omega
      · cases h
  · injection h with h
    rename_i h'
    have := Cd.dec_err _ _ _ _ h'
    omega

theorem quiet_same {P : Program} {f : FuncId} {args : Array Value} {w : World} {n : Nat} {v : Value}
    (h : Calls P f args (w.drewN n) fun e w' => e = .returned v ∧ w.drewN n = w') : Calls P f args (w.drewN n) fun e w'' => e = .returned v ∧ ∃ m, w'' = w.drewN m :=
  h.mono fun _ _ ⟨he, hm⟩ => ⟨he, n, hm.symm⟩

/-- Block r is a Reader before the bytes l, with the error e. -/
def IsReader (w : World) (r : Nat) (l : List UInt8) (e : Nat) : Prop :=
  ∃ (v : Value) (full : List UInt8) (k : Nat), w.heap[r]? = some (.cells #[v, .int .i64 k, .int .i64 e] 254 (0, 0)) ∧ Bytes w v full ∧ k ≤ full.length ∧ full.length ≤ maxLen ∧ l = full.drop k

theorem IsReader.kept {w w' : World} {r : Nat} {l : List UInt8} {e : Nat} (h : IsReader w r l e) (hk : KeepT (fun t => t = 254 ∨ t = 5) w w') : IsReader w' r l e := by
  obtain ⟨v, full, k, h1, h2, h3, h4, h5⟩ := h
  exact ⟨v, full, k, hk _ _ _ _ h1 (.inl rfl), h2.kept hk (.inr rfl), h3, h4, h5⟩

set_option maxRecDepth 100000 in
set_option maxHeartbeats 1000000 in
theorem readNum_any (most : Int) (b r : Nat) (l : List UInt8) (e : Nat) (w : World) (hr : IsReader w r l e) (hb : w.cell? ⟨b, 0, none⟩ = some (.int .i64 most)) :
    Calls Tryz.prog 166 #[.pointer (some ⟨r, 0, none⟩), .func (.func 167) #[] #[.pointer (some ⟨b, 0, none⟩)]] w fun e' w' =>
      e' = .returned (.int .i64 (Cd.rnum most l e).1) ∧ IsReader w' r (Cd.rnum most l e).2.1 (Cd.rnum most l e).2.2 ∧ Fr (· = r) w w' := by
  have hr0 := hr
  obtain ⟨v, full, k, h1, h2, h3, h4, h5⟩ := hr
  have c0 := blk_cell h1 0
  have c1 := blk_cell h1 1
  have c2 := blk_cell h1 2
  have f1 := blk_free h1 1
  have f2 := blk_free h1 2
  simp only [List.getElem?_toArray, List.getElem?_cons_zero, List.getElem?_cons_succ] at c0 c1 c2
  by_cases he : e = 0
  · subst he
    obtain ⟨v', hv', hsl⟩ := slice_bytes_l h2 k h3
    have hf := fun n => quiet_same (n := n) (numFn_any most b v' (full.drop k) (w.drewN n) (by rw [List.length_drop]; omega) hv' hb)
    rw [← h5] at hf
    have hll : l.length = full.length - k := by rw [h5, List.length_drop]
    have Hl := Lib.hid h5
    clear hv' h5
    unfold Cd.rnum
    rw [if_pos rfl]
    cases hq : Cd.num most l with
    | ok n s =>
      have hs := Cd.num_len most l n s hq
      have hks : k + s ≤ full.length := by omega
      have hks2 : (k : Int) + s ≤ 9223372036854775807 := by unfold maxLen at h4; omega
      have Hll := Lib.hid hll
      clear hll hs
      simp only [hq, Cd.PR.retP] at hf
      clear hr0 hq
      go_enter Tryz.func166, Tryz.ntmps166
      go_wp2_with fail
      go_quiet ((go_at_call 167; exact hf _))
      go_wp2_with fail
      go_ret
      refine ⟨rfl, ⟨v, full, k + s, ?_, ?_, hks, h4, by rw [Hl.out, List.drop_drop]⟩, ((Fr.refl (· = r) w).drewN nq).setCell (a := ⟨r, 1, none⟩) (.inl rfl) _⟩
      · have := blk_set (w := w.drewN nq) h1 1 (.int .i64 ((k : Int) + s))
        rw [show ((k + s : Nat) : Int) = (k : Int) + s from by omega]
        exact this
      · exact h2.kept (((KeepT.refl (fun t => t = 5) w).drewN nq).setCell (a := ⟨r, 1, none⟩) h1 (by decide) _) rfl
    | err e' =>
      have hs := Cd.num_err most l e' hq
      have he' : ((e' : Int) != 0) = true := by rw [bne_iff_ne]; omega
      simp only [hq, Cd.PR.retP] at hf
      clear hr0 hq hs
      go_enter Tryz.func166, Tryz.ntmps166
      go_wp2_with fail
      go_quiet ((go_at_call 167; exact hf _))
      go_wp2_with fail
      go_ret
      refine ⟨rfl, ⟨v, full, k, ?_, ?_, h3, h4, Hl.out⟩, ((Fr.refl (· = r) w).drewN nq).setCell (a := ⟨r, 2, none⟩) (.inl rfl) _⟩
      · exact blk_set (w := w.drewN nq) h1 2 (.int .i64 (e' : Int))
      · exact h2.kept (((KeepT.refl (fun t => t = 5) w).drewN nq).setCell (a := ⟨r, 2, none⟩) h1 (by decide) _) rfl
  · have he' : ((e : Int) != 0) = true := by rw [bne_iff_ne]; omega
    unfold Cd.rnum
    rw [if_neg he]
    go_enter Tryz.func166, Tryz.ntmps166
    go_wp2_with fail
    go_ret
    exact ⟨rfl, hr0, Fr.refl _ _⟩

set_option maxRecDepth 100000 in
set_option maxHeartbeats 1000000 in
theorem readTxt_any (most : Int) (b r : Nat) (l : List UInt8) (e : Nat) (w : World) (hmost : most ≤ 16777216) (hr : IsReader w r l e) (hb : w.cell? ⟨b, 0, none⟩ = some (.int .i64 most)) :
    Calls Tryz.prog 169 #[.pointer (some ⟨r, 0, none⟩), .func (.func 170) #[] #[.pointer (some ⟨b, 0, none⟩)]] w fun e' w' =>
      e' = .returned (.string (bs (Cd.rtxt most l e).1)) ∧ IsReader w' r (Cd.rtxt most l e).2.1 (Cd.rtxt most l e).2.2 ∧ Fr (· = r) w w' := by
  have hr0 := hr
  obtain ⟨v, full, k, h1, h2, h3, h4, h5⟩ := hr
  have c0 := blk_cell h1 0
  have c1 := blk_cell h1 1
  have c2 := blk_cell h1 2
  have f1 := blk_free h1 1
  have f2 := blk_free h1 2
  simp only [List.getElem?_toArray, List.getElem?_cons_zero, List.getElem?_cons_succ] at c0 c1 c2
  by_cases he : e = 0
  · subst he
    obtain ⟨v', hv', hsl⟩ := slice_bytes_l h2 k h3
    have hf := fun n => quiet_same (n := n) (txtFn_any most b v' (full.drop k) (w.drewN n) hmost (by rw [List.length_drop]; omega) hv' hb)
    rw [← h5] at hf
    have hll : l.length = full.length - k := by rw [h5, List.length_drop]
    have Hl := Lib.hid h5
    clear hv' h5
    unfold Cd.rtxt
    rw [if_pos rfl]
    cases hq : Cd.txt most l with
    | ok n s =>
      have hs := Cd.txt_len most l n s hq
      have hks : k + s ≤ full.length := by omega
      have hks2 : (k : Int) + s ≤ 9223372036854775807 := by unfold maxLen at h4; omega
      have Hll := Lib.hid hll
      clear hll hs
      simp only [hq, Cd.TR.ret] at hf
      clear hr0 hq
      go_enter Tryz.func169, Tryz.ntmps169
      go_wp2_with fail
      go_quiet ((go_at_call 170; exact hf _))
      go_wp2_with fail
      go_ret
      refine ⟨rfl, ⟨v, full, k + s, ?_, ?_, hks, h4, by rw [Hl.out, List.drop_drop]⟩, ((Fr.refl (· = r) w).drewN nq).setCell (a := ⟨r, 1, none⟩) (.inl rfl) _⟩
      · have := blk_set (w := w.drewN nq) h1 1 (.int .i64 ((k : Int) + s))
        rw [show ((k + s : Nat) : Int) = (k : Int) + s from by omega]
        exact this
      · exact h2.kept (((KeepT.refl (fun t => t = 5) w).drewN nq).setCell (a := ⟨r, 1, none⟩) h1 (by decide) _) rfl
    | err e' =>
      have hs := Cd.txt_err most l e' hq
      have he' : ((e' : Int) != 0) = true := by rw [bne_iff_ne]; omega
      simp only [hq, Cd.TR.ret] at hf
      clear hr0 hq hs
      go_enter Tryz.func169, Tryz.ntmps169
      go_wp2_with fail
      go_quiet ((go_at_call 170; exact hf _))
      go_wp2_with fail
      go_ret
      refine ⟨rfl, ⟨v, full, k, ?_, ?_, h3, h4, Hl.out⟩, ((Fr.refl (· = r) w).drewN nq).setCell (a := ⟨r, 2, none⟩) (.inl rfl) _⟩
      · exact blk_set (w := w.drewN nq) h1 2 (.int .i64 (e' : Int))
      · exact h2.kept (((KeepT.refl (fun t => t = 5) w).drewN nq).setCell (a := ⟨r, 2, none⟩) h1 (by decide) _) rfl
  · have he' : ((e : Int) != 0) = true := by rw [bne_iff_ne]; omega
    unfold Cd.rtxt
    rw [if_neg he]
    go_enter Tryz.func169, Tryz.ntmps169
    go_wp2_with fail
    go_ret
    exact ⟨rfl, hr0, Fr.refl _ _⟩


end Go.Proofs.YtdjjfjnkkgmadaaGreatDoor
