/-
  pipe: change with the closures of Read, Write, Join, Leave (printed by tools/genchange.py).
-/
import Derived.Test.YtdjjfjnkkgmadaaGreatDoorPipe5
namespace Go.Proofs.YtdjjfjnkkgmadaaGreatDoor
open Go Go.RowKit

def cN (N : List (Nm × Ch)) (x : Nm) (ch : Bool) (p : Pp) : List (Nm × Ch) := if ch = true then upd N x p.ch else N
def ck (k : Nat) (ch : Bool) : Nat := if ch = true then k + 1 else k

set_option maxRecDepth 100000 in
set_option maxHeartbeats 8000000 in
theorem change_117 (w : World) (v : VW) (g : Nm → Option ByteArray) (R N : List (Nm × Ch)) (k : Nat) (hv : IsView w v g R N k) (hk : k < 1000000) (m : ByteArray) (n : Int) (hb : GB m n) (ep : Int) (he : within ep 1073741824 = true)
    (hs : (shV g N (pn m n)).1.size ≤ 140737488355328) (ib : Nat) (oi : Obj) (hi : w.heap[ib]? = some oi) (his : ¬ v.S ib) (ob : Nat) (oo oo' : Obj) (ho : w.heap[ob]? = some oo) (hos : ¬ v.S ob) (hot : ∀ (c : Array Value) (t : TypeId) (f : Nat × Nat), oo = .cells c t f → t ≠ 149 ∧ ¬ StT t ∧ t ≠ 28)
    (q q' : Pp) (hq : pget (shV g N (pn m n)).1 ep = (q, 0)) (ch : Bool) (er : Int) (hce : ch = true → er = 0 ∧ q'.may)
    (hf : ∀ W pb, W.heap[pb]? = some (.cells q.cs 28 (0, 0)) → W.heap[ib]? = some oi → W.heap[ob]? = some oo → Calls Tryz.prog 117 #[.pointer (some ⟨pb, 0, none⟩), .pointer (some ⟨ib, 0, none⟩), .pointer (some ⟨ob, 0, none⟩)] W fun e W' => e = .returned (.tuple #[.bool ch, .int .i64 er]) ∧ W'.heap[pb]? = some (.cells q'.cs 28 (0, 0)) ∧ W'.heap[ob]? = some oo' ∧ Fr (fun k => k = pb ∨ k = ob) W W') :
    Calls Tryz.prog 116 #[v.p, birthV m n, .int .i64 ep, .func (.func 117) #[] #[.pointer (some ⟨ib, 0, none⟩), .pointer (some ⟨ob, 0, none⟩)]] w fun e w' => e = .returned (.int .i64 er) ∧ IsView w' v g (rdR g R N (pn m n)) (cN N (pn m n) ch q') (ck k ch) ∧ w'.heap[ob]? = some oo' ∧ Fr (fun k => v.S k ∨ k = ob) w w' := by
  have hget := fun W (h : IsView W v g R N k) => pipeGet_ok W v g R N k h m n hb ep he hs
  rw [hq] at hget
  have hwr := fun W (h : IsView W v g (rdR g R N (pn m n)) N k) => write_ok W v g _ N k h hk m n hb q'
  clear hq hs he hk
  generalize rdR g R N (pn m n) = R2 at *
  unfold Pp.cs at hf
  unfold birthV Pp.v VW.p at *
  simp only at hget
  unfold cN ck
  generalize hN2 : upd N (pn m n) q'.ch = N2 at *
  clear hN2
  go_enter Tryz.func116, Tryz.ntmps116
  go_wp2_with fail
  have hv0 := hv.below (below_new1 w (.cells #[.string m, .int .i64 n] 47))
  refine (hget _ hv0).mono ?_
  rintro e w1 ⟨rfl, hv1, hF1⟩
  have hF01 := (Fr.of_below (S := v.S) (below_new1 w (.cells #[.string m, .int .i64 n] 47))).trans hF1
  have hb1 := hF1.heap (hv.notS (Nat.le_refl _)) (blk_new w (.cells #[.string m, .int .i64 n] 47))
  have hi1 := hF01.heap his hi
  have ho1 := hF01.heap hos ho
  go_wp2_with fail
  have hp2 := blk_new w1 (.cells #[.int .i64 q.e, .int .i64 q.r, .int .i64 q.w, .string q.b] 28)
  have hb2 := blk_alloc hb1 (.cells #[.int .i64 q.e, .int .i64 q.r, .int .i64 q.w, .string q.b] 28)
  have hi2 := blk_alloc hi1 (.cells #[.int .i64 q.e, .int .i64 q.r, .int .i64 q.w, .string q.b] 28)
  have ho2 := blk_alloc ho1 (.cells #[.int .i64 q.e, .int .i64 q.r, .int .i64 q.w, .string q.b] 28)
  have hv2 := hv1.below (below_new1 w1 (.cells #[.int .i64 q.e, .int .i64 q.r, .int .i64 q.w, .string q.b] 28))
  have hF02 := hF01.trans (Fr.of_below (S := v.S) (below_new1 w1 (.cells #[.int .i64 q.e, .int .i64 q.r, .int .i64 q.w, .string q.b] 28)))
  have hle2 : w.heap.size ≤ w1.heap.size := hF01.size
  have hns : ∀ k, v.S k → k < w.heap.size := fun k hk => Nat.lt_of_not_le fun hle => hv.notS hle hk
  refine (hf _ _ hp2 hi2 ho2).mono ?_
  rintro e w3 ⟨rfl, hp3, ho3, hF3⟩
  have hbne : w.heap.size ≠ w1.heap.size := by have := lt_of_block hb1; omega
  have hb3 := hF3.heap (k := w.heap.size) (by rintro (h | h); exact hbne h; (have := lt_of_block ho; omega)) hb2
  have hv3 : IsView w3 v g R2 N k := by
    refine hv2.fr hF3 ?_ ?_
    · intro k hk h
      have := hns k hk
      rcases h with h | h
      · omega
      · exact hos (h ▸ hk)
    · intro k c t f h hc
      rcases h with h | h
      · rw [h, hp2] at hc; cases hc; simp [StT]
      · rw [h, ho2] at hc; cases hc; exact ⟨(hot _ _ _ rfl).1, (hot _ _ _ rfl).2.1⟩
  have hF03 : Fr (fun k => v.S k ∨ k = ob) w w3 := (hF02.mono fun _ h => .inl h).trans' hF3 (by rintro i (h | h); exact .inr (by omega); exact .inl (.inr h))
  obtain ⟨d0, d1⟩ := blk2 hb3
  obtain ⟨e0, e1, e2, e3⟩ := blk4 hp3
  clear hf hget
  by_cases her : er = 0
  · subst her
    cases ch with
    | false =>
      go_wp2_with fail
      go_ret
      exact ⟨rfl, hv3, ho3, hF03⟩
    | true =>
      have hwr' := hwr w3 hv3 (hce rfl).2
      clear hwr
      go_wp2_with fail
      refine hwr'.mono ?_
      rintro e w4 ⟨rfl, hv4, hF4⟩
      go_wp2_with fail
      go_ret
      exact ⟨rfl, hv4, hF4.heap hos ho3, hF03.trans (hF4.mono fun _ h => .inl h)⟩
  · have hch : ch = false := by cases ch; rfl; exact absurd (hce rfl).1 her
    subst hch
    have her' : (er != 0) = true := by rw [bne_iff_ne]; exact her
    go_wp2_with fail
    go_ret
    exact ⟨rfl, hv3, ho3, hF03⟩


set_option maxRecDepth 100000 in
set_option maxHeartbeats 8000000 in
theorem change_118 (w : World) (v : VW) (g : Nm → Option ByteArray) (R N : List (Nm × Ch)) (k : Nat) (hv : IsView w v g R N k) (hk : k < 1000000) (m : ByteArray) (n : Int) (hb : GB m n) (ep : Int) (he : within ep 1073741824 = true)
    (hs : (shV g N (pn m n)).1.size ≤ 140737488355328) (ib : Nat) (oi : Obj) (hi : w.heap[ib]? = some oi) (his : ¬ v.S ib) (ob : Nat) (oo oo' : Obj) (ho : w.heap[ob]? = some oo) (hos : ¬ v.S ob) (hot : ∀ (c : Array Value) (t : TypeId) (f : Nat × Nat), oo = .cells c t f → t ≠ 149 ∧ ¬ StT t ∧ t ≠ 28)
    (q q' : Pp) (hq : pget (shV g N (pn m n)).1 ep = (q, 0)) (ch : Bool) (er : Int) (hce : ch = true → er = 0 ∧ q'.may)
    (hf : ∀ W pb, W.heap[pb]? = some (.cells q.cs 28 (0, 0)) → W.heap[ib]? = some oi → W.heap[ob]? = some oo → Calls Tryz.prog 118 #[.pointer (some ⟨pb, 0, none⟩), .pointer (some ⟨ib, 0, none⟩), .pointer (some ⟨ob, 0, none⟩)] W fun e W' => e = .returned (.tuple #[.bool ch, .int .i64 er]) ∧ W'.heap[pb]? = some (.cells q'.cs 28 (0, 0)) ∧ W'.heap[ob]? = some oo' ∧ Fr (fun k => k = pb ∨ k = ob) W W') :
    Calls Tryz.prog 116 #[v.p, birthV m n, .int .i64 ep, .func (.func 118) #[] #[.pointer (some ⟨ib, 0, none⟩), .pointer (some ⟨ob, 0, none⟩)]] w fun e w' => e = .returned (.int .i64 er) ∧ IsView w' v g (rdR g R N (pn m n)) (cN N (pn m n) ch q') (ck k ch) ∧ w'.heap[ob]? = some oo' ∧ Fr (fun k => v.S k ∨ k = ob) w w' := by
  have hget := fun W (h : IsView W v g R N k) => pipeGet_ok W v g R N k h m n hb ep he hs
  rw [hq] at hget
  have hwr := fun W (h : IsView W v g (rdR g R N (pn m n)) N k) => write_ok W v g _ N k h hk m n hb q'
  clear hq hs he hk
  generalize rdR g R N (pn m n) = R2 at *
  unfold Pp.cs at hf
  unfold birthV Pp.v VW.p at *
  simp only at hget
  unfold cN ck
  generalize hN2 : upd N (pn m n) q'.ch = N2 at *
  clear hN2
  go_enter Tryz.func116, Tryz.ntmps116
  go_wp2_with fail
  have hv0 := hv.below (below_new1 w (.cells #[.string m, .int .i64 n] 47))
  refine (hget _ hv0).mono ?_
  rintro e w1 ⟨rfl, hv1, hF1⟩
  have hF01 := (Fr.of_below (S := v.S) (below_new1 w (.cells #[.string m, .int .i64 n] 47))).trans hF1
  have hb1 := hF1.heap (hv.notS (Nat.le_refl _)) (blk_new w (.cells #[.string m, .int .i64 n] 47))
  have hi1 := hF01.heap his hi
  have ho1 := hF01.heap hos ho
  go_wp2_with fail
  have hp2 := blk_new w1 (.cells #[.int .i64 q.e, .int .i64 q.r, .int .i64 q.w, .string q.b] 28)
  have hb2 := blk_alloc hb1 (.cells #[.int .i64 q.e, .int .i64 q.r, .int .i64 q.w, .string q.b] 28)
  have hi2 := blk_alloc hi1 (.cells #[.int .i64 q.e, .int .i64 q.r, .int .i64 q.w, .string q.b] 28)
  have ho2 := blk_alloc ho1 (.cells #[.int .i64 q.e, .int .i64 q.r, .int .i64 q.w, .string q.b] 28)
  have hv2 := hv1.below (below_new1 w1 (.cells #[.int .i64 q.e, .int .i64 q.r, .int .i64 q.w, .string q.b] 28))
  have hF02 := hF01.trans (Fr.of_below (S := v.S) (below_new1 w1 (.cells #[.int .i64 q.e, .int .i64 q.r, .int .i64 q.w, .string q.b] 28)))
  have hle2 : w.heap.size ≤ w1.heap.size := hF01.size
  have hns : ∀ k, v.S k → k < w.heap.size := fun k hk => Nat.lt_of_not_le fun hle => hv.notS hle hk
  refine (hf _ _ hp2 hi2 ho2).mono ?_
  rintro e w3 ⟨rfl, hp3, ho3, hF3⟩
  have hbne : w.heap.size ≠ w1.heap.size := by have := lt_of_block hb1; omega
  have hb3 := hF3.heap (k := w.heap.size) (by rintro (h | h); exact hbne h; (have := lt_of_block ho; omega)) hb2
  have hv3 : IsView w3 v g R2 N k := by
    refine hv2.fr hF3 ?_ ?_
    · intro k hk h
      have := hns k hk
      rcases h with h | h
      · omega
      · exact hos (h ▸ hk)
    · intro k c t f h hc
      rcases h with h | h
      · rw [h, hp2] at hc; cases hc; simp [StT]
      · rw [h, ho2] at hc; cases hc; exact ⟨(hot _ _ _ rfl).1, (hot _ _ _ rfl).2.1⟩
  have hF03 : Fr (fun k => v.S k ∨ k = ob) w w3 := (hF02.mono fun _ h => .inl h).trans' hF3 (by rintro i (h | h); exact .inr (by omega); exact .inl (.inr h))
  obtain ⟨d0, d1⟩ := blk2 hb3
  obtain ⟨e0, e1, e2, e3⟩ := blk4 hp3
  clear hf hget
  by_cases her : er = 0
  · subst her
    cases ch with
    | false =>
      go_wp2_with fail
      go_ret
      exact ⟨rfl, hv3, ho3, hF03⟩
    | true =>
      have hwr' := hwr w3 hv3 (hce rfl).2
      clear hwr
      go_wp2_with fail
      refine hwr'.mono ?_
      rintro e w4 ⟨rfl, hv4, hF4⟩
      go_wp2_with fail
      go_ret
      exact ⟨rfl, hv4, hF4.heap hos ho3, hF03.trans (hF4.mono fun _ h => .inl h)⟩
  · have hch : ch = false := by cases ch; rfl; exact absurd (hce rfl).1 her
    subst hch
    have her' : (er != 0) = true := by rw [bne_iff_ne]; exact her
    go_wp2_with fail
    go_ret
    exact ⟨rfl, hv3, ho3, hF03⟩


set_option maxRecDepth 100000 in
set_option maxHeartbeats 8000000 in
theorem change_139 (w : World) (v : VW) (g : Nm → Option ByteArray) (R N : List (Nm × Ch)) (k : Nat) (hv : IsView w v g R N k) (hk : k < 1000000) (m : ByteArray) (n : Int) (hb : GB m n) (ep : Int) (he : within ep 1073741824 = true)
    (hs : (shV g N (pn m n)).1.size ≤ 140737488355328) (ib : Nat) (oi : Obj) (hi : w.heap[ib]? = some oi) (his : ¬ v.S ib)
    (q q' : Pp) (hq : pget (shV g N (pn m n)).1 ep = (q, 0)) (ch : Bool) (er : Int) (hce : ch = true → er = 0 ∧ q'.may)
    (hf : ∀ W pb, W.heap[pb]? = some (.cells q.cs 28 (0, 0)) → W.heap[ib]? = some oi → Calls Tryz.prog 139 #[.pointer (some ⟨pb, 0, none⟩), .pointer (some ⟨ib, 0, none⟩)] W fun e W' => e = .returned (.tuple #[.bool ch, .int .i64 er]) ∧ W'.heap[pb]? = some (.cells q'.cs 28 (0, 0)) ∧ Fr (fun k => k = pb) W W') :
    Calls Tryz.prog 116 #[v.p, birthV m n, .int .i64 ep, .func (.func 139) #[] #[.pointer (some ⟨ib, 0, none⟩)]] w fun e w' => e = .returned (.int .i64 er) ∧ IsView w' v g (rdR g R N (pn m n)) (cN N (pn m n) ch q') (ck k ch) ∧ Fr (v.S) w w' := by
  have hget := fun W (h : IsView W v g R N k) => pipeGet_ok W v g R N k h m n hb ep he hs
  rw [hq] at hget
  have hwr := fun W (h : IsView W v g (rdR g R N (pn m n)) N k) => write_ok W v g _ N k h hk m n hb q'
  clear hq hs he hk
  generalize rdR g R N (pn m n) = R2 at *
  unfold Pp.cs at hf
  unfold birthV Pp.v VW.p at *
  simp only at hget
  unfold cN ck
  generalize hN2 : upd N (pn m n) q'.ch = N2 at *
  clear hN2
  go_enter Tryz.func116, Tryz.ntmps116
  go_wp2_with fail
  have hv0 := hv.below (below_new1 w (.cells #[.string m, .int .i64 n] 47))
  refine (hget _ hv0).mono ?_
  rintro e w1 ⟨rfl, hv1, hF1⟩
  have hF01 := (Fr.of_below (S := v.S) (below_new1 w (.cells #[.string m, .int .i64 n] 47))).trans hF1
  have hb1 := hF1.heap (hv.notS (Nat.le_refl _)) (blk_new w (.cells #[.string m, .int .i64 n] 47))
  have hi1 := hF01.heap his hi
  go_wp2_with fail
  have hp2 := blk_new w1 (.cells #[.int .i64 q.e, .int .i64 q.r, .int .i64 q.w, .string q.b] 28)
  have hb2 := blk_alloc hb1 (.cells #[.int .i64 q.e, .int .i64 q.r, .int .i64 q.w, .string q.b] 28)
  have hi2 := blk_alloc hi1 (.cells #[.int .i64 q.e, .int .i64 q.r, .int .i64 q.w, .string q.b] 28)
  have hv2 := hv1.below (below_new1 w1 (.cells #[.int .i64 q.e, .int .i64 q.r, .int .i64 q.w, .string q.b] 28))
  have hF02 := hF01.trans (Fr.of_below (S := v.S) (below_new1 w1 (.cells #[.int .i64 q.e, .int .i64 q.r, .int .i64 q.w, .string q.b] 28)))
  have hle2 : w.heap.size ≤ w1.heap.size := hF01.size
  have hns : ∀ k, v.S k → k < w.heap.size := fun k hk => Nat.lt_of_not_le fun hle => hv.notS hle hk
  refine (hf _ _ hp2 hi2).mono ?_
  rintro e w3 ⟨rfl, hp3, hF3⟩
  have hbne : w.heap.size ≠ w1.heap.size := by have := lt_of_block hb1; omega
  have hb3 := hF3.heap (k := w.heap.size) (hbne) hb2
  have hv3 : IsView w3 v g R2 N k := by
    refine hv2.fr hF3 ?_ ?_
    · intro k hk h
      have := hns k hk
      have h : k = w1.heap.size := h
      omega
    · intro k c t f h hc
      have h : k = w1.heap.size := h
      rw [h, hp2] at hc; cases hc; simp [StT]
  have hF03 : Fr (v.S) w w3 := hF02.trans' hF3 (by intro i h; exact .inr (by omega))
  obtain ⟨d0, d1⟩ := blk2 hb3
  obtain ⟨e0, e1, e2, e3⟩ := blk4 hp3
  clear hf hget
  by_cases her : er = 0
  · subst her
    cases ch with
    | false =>
      go_wp2_with fail
      go_ret
      exact ⟨rfl, hv3, hF03⟩
    | true =>
      have hwr' := hwr w3 hv3 (hce rfl).2
      clear hwr
      go_wp2_with fail
      refine hwr'.mono ?_
      rintro e w4 ⟨rfl, hv4, hF4⟩
      go_wp2_with fail
      go_ret
      exact ⟨rfl, hv4, hF03.trans hF4⟩
  · have hch : ch = false := by cases ch; rfl; exact absurd (hce rfl).1 her
    subst hch
    have her' : (er != 0) = true := by rw [bne_iff_ne]; exact her
    go_wp2_with fail
    go_ret
    exact ⟨rfl, hv3, hF03⟩


set_option maxRecDepth 100000 in
set_option maxHeartbeats 8000000 in
theorem change_141 (w : World) (v : VW) (g : Nm → Option ByteArray) (R N : List (Nm × Ch)) (k : Nat) (hv : IsView w v g R N k) (hk : k < 1000000) (m : ByteArray) (n : Int) (hb : GB m n) (ep : Int) (he : within ep 1073741824 = true)
    (hs : (shV g N (pn m n)).1.size ≤ 140737488355328) (ib : Nat) (oi : Obj) (hi : w.heap[ib]? = some oi) (his : ¬ v.S ib)
    (q q' : Pp) (hq : pget (shV g N (pn m n)).1 ep = (q, 0)) (ch : Bool) (er : Int) (hce : ch = true → er = 0 ∧ q'.may)
    (hf : ∀ W pb, W.heap[pb]? = some (.cells q.cs 28 (0, 0)) → W.heap[ib]? = some oi → Calls Tryz.prog 141 #[.pointer (some ⟨pb, 0, none⟩), .pointer (some ⟨ib, 0, none⟩)] W fun e W' => e = .returned (.tuple #[.bool ch, .int .i64 er]) ∧ W'.heap[pb]? = some (.cells q'.cs 28 (0, 0)) ∧ Fr (fun k => k = pb) W W') :
    Calls Tryz.prog 116 #[v.p, birthV m n, .int .i64 ep, .func (.func 141) #[] #[.pointer (some ⟨ib, 0, none⟩)]] w fun e w' => e = .returned (.int .i64 er) ∧ IsView w' v g (rdR g R N (pn m n)) (cN N (pn m n) ch q') (ck k ch) ∧ Fr (v.S) w w' := by
  have hget := fun W (h : IsView W v g R N k) => pipeGet_ok W v g R N k h m n hb ep he hs
  rw [hq] at hget
  have hwr := fun W (h : IsView W v g (rdR g R N (pn m n)) N k) => write_ok W v g _ N k h hk m n hb q'
  clear hq hs he hk
  generalize rdR g R N (pn m n) = R2 at *
  unfold Pp.cs at hf
  unfold birthV Pp.v VW.p at *
  simp only at hget
  unfold cN ck
  generalize hN2 : upd N (pn m n) q'.ch = N2 at *
  clear hN2
  go_enter Tryz.func116, Tryz.ntmps116
  go_wp2_with fail
  have hv0 := hv.below (below_new1 w (.cells #[.string m, .int .i64 n] 47))
  refine (hget _ hv0).mono ?_
  rintro e w1 ⟨rfl, hv1, hF1⟩
  have hF01 := (Fr.of_below (S := v.S) (below_new1 w (.cells #[.string m, .int .i64 n] 47))).trans hF1
  have hb1 := hF1.heap (hv.notS (Nat.le_refl _)) (blk_new w (.cells #[.string m, .int .i64 n] 47))
  have hi1 := hF01.heap his hi
  go_wp2_with fail
  have hp2 := blk_new w1 (.cells #[.int .i64 q.e, .int .i64 q.r, .int .i64 q.w, .string q.b] 28)
  have hb2 := blk_alloc hb1 (.cells #[.int .i64 q.e, .int .i64 q.r, .int .i64 q.w, .string q.b] 28)
  have hi2 := blk_alloc hi1 (.cells #[.int .i64 q.e, .int .i64 q.r, .int .i64 q.w, .string q.b] 28)
  have hv2 := hv1.below (below_new1 w1 (.cells #[.int .i64 q.e, .int .i64 q.r, .int .i64 q.w, .string q.b] 28))
  have hF02 := hF01.trans (Fr.of_below (S := v.S) (below_new1 w1 (.cells #[.int .i64 q.e, .int .i64 q.r, .int .i64 q.w, .string q.b] 28)))
  have hle2 : w.heap.size ≤ w1.heap.size := hF01.size
  have hns : ∀ k, v.S k → k < w.heap.size := fun k hk => Nat.lt_of_not_le fun hle => hv.notS hle hk
  refine (hf _ _ hp2 hi2).mono ?_
  rintro e w3 ⟨rfl, hp3, hF3⟩
  have hbne : w.heap.size ≠ w1.heap.size := by have := lt_of_block hb1; omega
  have hb3 := hF3.heap (k := w.heap.size) (hbne) hb2
  have hv3 : IsView w3 v g R2 N k := by
    refine hv2.fr hF3 ?_ ?_
    · intro k hk h
      have := hns k hk
      have h : k = w1.heap.size := h
      omega
    · intro k c t f h hc
      have h : k = w1.heap.size := h
      rw [h, hp2] at hc; cases hc; simp [StT]
  have hF03 : Fr (v.S) w w3 := hF02.trans' hF3 (by intro i h; exact .inr (by omega))
  obtain ⟨d0, d1⟩ := blk2 hb3
  obtain ⟨e0, e1, e2, e3⟩ := blk4 hp3
  clear hf hget
  by_cases her : er = 0
  · subst her
    cases ch with
    | false =>
      go_wp2_with fail
      go_ret
      exact ⟨rfl, hv3, hF03⟩
    | true =>
      have hwr' := hwr w3 hv3 (hce rfl).2
      clear hwr
      go_wp2_with fail
      refine hwr'.mono ?_
      rintro e w4 ⟨rfl, hv4, hF4⟩
      go_wp2_with fail
      go_ret
      exact ⟨rfl, hv4, hF03.trans hF4⟩
  · have hch : ch = false := by cases ch; rfl; exact absurd (hce rfl).1 her
    subst hch
    have her' : (er != 0) = true := by rw [bne_iff_ne]; exact her
    go_wp2_with fail
    go_ret
    exact ⟨rfl, hv3, hF03⟩


end Go.Proofs.YtdjjfjnkkgmadaaGreatDoor
