/-
  Ports: change (printed by tools/genportl.py).
-/
import Derived.Test.YtdjjfjnkkgmadaaGreatDoorPortK
import Derived.Test.YtdjjfjnkkgmadaaGreatDoorPipe3
namespace Go.Proofs.YtdjjfjnkkgmadaaGreatDoor
open Go Go.RowKit

/-- What a port's object holds. -/
def Po.ch (p : Po) : Ch := ⟨bs p.enc, false⟩
def ckp (k : Nat) (ch : Bool) : Nat := if ch = true then k + 1 else k
def pN (N : List (Nm × Ch)) (x : Nm) (ch : Bool) (p : Po) : List (Nm × Ch) := if ch = true then upd N x p.ch else N

theorem Po.enc_size {p : Po} (h : p.err = 0) : p.enc.length ≤ 65536 := by
  obtain ⟨_, h1, ⟨h2, h3⟩, ⟨h4, h5⟩, h6, h7⟩ := Po.err_zero h
  have l1 := nat_small_len (u := p.o.size) (by omega)
  have l2 := nat_small_len (u := p.e.toNat) (by omega)
  have l3 := nat_small_len (u := p.l.toNat) (by omega)
  have l4 := nat_small_len (u := p.q.length) (by omega)
  have l5 := dl p.o
  have l6 := penc_len (perrs_zero h7)
  simp only [Po.enc, List.length_append]
  omega

theorem IsView.fr2 {S : Nat → Prop} {w w' : World} {v : VW} {g : Nm → Option ByteArray} {R N : List (Nm × Ch)} {m : Nat} (h : IsView w v g R N m) (hF : Fr S w w') (hk : KeepT VT w w') (hv : ∀ k, v.S k → ¬ S k) : IsView w' v g R N m := by
  obtain ⟨⟨base, cv, xs, h1, h2, h3, h4⟩, h5, h6, h7⟩ := h
  refine ⟨⟨base, cv, xs, h1.keep (fun k c t f hc ht => hk k c t f hc (.inr ht)), hF.heap (hv _ (.inl rfl)) h2, ⟨h3.1, h3.2.imp id ?_⟩, h4⟩, h5.keep (hF.block _ h5.lt (hv _ (.inr (.inl rfl)))), h6.keep (hF.block _ h6.lt (hv _ (.inr (.inr rfl)))), h7⟩
  rintro ⟨b, cap, cur, rfl, g1, g2, g3⟩
  exact ⟨b, cap, cur, rfl, g1, hk _ _ _ _ g2 (.inl rfl), g3⟩

set_option maxRecDepth 100000 in
theorem pchange_no (w : World) (v : VW) (g : Nm → Option ByteArray) (R N : List (Nm × Ch)) (k : Nat) (hv : IsView w v g R N k) (n : Int) (hn : PN n) (ep : Int) (hs : (shV g N (xn n)).1.size ≤ 140737488355328) (fv : Value) (hq : rdP (shV g N (xn n)).1 ep = (Po.zero, 8)) :
    Calls Tryz.prog 148 #[v.p, .int .i64 n, .int .i64 ep, fv] w fun e w' => e = .returned (.int .i64 8) ∧ IsView w' v g (rdR g R N (xn n)) N k ∧ Fr v.S w w' := by
  have hrd := read37_ok w v g R N k hv n hn ep hs
  rw [hq] at hrd
  generalize rdR g R N (xn n) = R2 at *
  unfold Po.v Po.zero VW.p at *
  simp only at hrd
  clear hq hs hv
  go_enter Tryz.func148, Tryz.ntmps148
  go_wp2_with fail
  refine hrd.mono ?_
  rintro e w1 ⟨qv, rfl, hown, hv1, hF1⟩
  obtain ⟨av, cv, rfl⟩ := owns_slice hown
  go_wp2_with fail
  go_ret
  exact ⟨rfl, hv1.below (below_new1 w1 _), hF1.alloc _⟩

set_option maxRecDepth 100000 in
set_option maxHeartbeats 8000000 in
theorem pchange_149 (w : World) (v : VW) (g : Nm → Option ByteArray) (R N : List (Nm × Ch)) (k : Nat) (hv : IsView w v g R N k) (hk : k < 1000000) (n : Int) (hn : PN n) (ep : Int) (hs : (shV g N (xn n)).1.size ≤ 140737488355328)
    ( ob : Nat) (oo oo' : Obj) (ho : w.heap[ob]? = some oo) (hos : ¬ v.S ob)
    (q q' : Po) (hq : rdP (shV g N (xn n)).1 ep = (q, 0)) (ch : Bool) (er : Int) (hce : ch = true → q'.err = 0)
    (hf : ∀ W pb qv, w.heap.size ≤ pb → w.heap.size ≤ W.heap.size → W.heap[pb]? = some (.cells (q.cs qv) 56 (0, 0)) → W.ownsRow w.heap.size 123 2 qv q.q.length (pvs q.q) → Fr v.S w W → Calls Tryz.prog 149 #[.pointer (some ⟨pb, 0, none⟩), .pointer (some ⟨ob, 0, none⟩)] W fun e W' => ∃ qv', e = .returned (.tuple #[.bool ch, .int .i64 er]) ∧ W'.heap[pb]? = some (.cells (q'.cs qv') 56 (0, 0)) ∧ PksIn W' qv' q'.q ∧ W'.heap[ob]? = some oo' ∧ Fr (fun k => k = ob ∨ w.heap.size ≤ k) W W' ∧ KeepT VT W W') :
    Calls Tryz.prog 148 #[v.p, .int .i64 n, .int .i64 ep, .func (.func 149) #[] #[.pointer (some ⟨ob, 0, none⟩)]] w fun e w' => e = .returned (.int .i64 er) ∧ IsView w' v g (rdR g R N (xn n)) (pN N (xn n) ch q') (ckp k ch) ∧ w'.heap[ob]? = some oo' ∧ Fr (fun k => v.S k ∨ k = ob) w w' := by
  have hrd := read37_ok w v g R N k hv n hn ep hs
  rw [hq] at hrd
  have hof := fun w => ofPort_any n w
  have hset := fun W (h : IsView W v g (rdR g R N (xn n)) N k) (hc : (bs q'.enc).size ≤ 65536) => set_ok W v g _ N k h (xn n) hn.ok hn.passes (bs q'.enc) hc hk
  have hns : ∀ k, v.S k → k < w.heap.size := fun k hk => Nat.lt_of_not_le fun hle => hv.notS hle hk
  have holt := lt_of_block ho
  clear hq hs hk hv
  generalize rdR g R N (xn n) = R2 at *
  unfold pN ckp Po.ch
  generalize hN2 : upd N (xn n) ⟨bs q'.enc, false⟩ = N2 at *
  clear hN2
  unfold nameV at hof
  unfold Nm.v xn at hset
  simp only at hset
  unfold Po.cs at hf
  unfold Po.v VW.p at *
  simp only at hrd
  go_enter Tryz.func148, Tryz.ntmps148
  go_wp2_with fail
  refine hrd.mono ?_
  rintro e w1 ⟨qv, rfl, hown, hv1, hF1⟩
  obtain ⟨av, cv, rfl⟩ := owns_slice hown
  go_wp2_with fail
  have hp2 := blk_new w1 (.cells #[.string q.o, .int .i64 q.e, .int .i64 q.l, .slice av q.q.length cv] 56)
  have hown2 := hown.alloc (.cells #[.string q.o, .int .i64 q.e, .int .i64 q.l, .slice av q.q.length cv] 56)
  have hv2 := hv1.below (below_new1 w1 (.cells #[.string q.o, .int .i64 q.e, .int .i64 q.l, .slice av q.q.length cv] 56))
  have hF2 := hF1.alloc (.cells #[.string q.o, .int .i64 q.e, .int .i64 q.l, .slice av q.q.length cv] 56)
  have hle := hF1.size
  refine (hf _ _ _ hle hF2.size hp2 hown2 hF2).mono ?_
  rintro e w3 ⟨qv', rfl, hp3, hpk3, ho3, hF3, hK3⟩
  obtain ⟨a', c', rfl, hrest⟩ := id hpk3
  clear hrest
  have hv3 : IsView w3 v g R2 N k := hv2.fr2 hF3 hK3 (fun k hk h => by
    have := hns k hk
    rcases h with h | h
    · exact hos (h ▸ hk)
    · omega)
  have hF03 : Fr (fun k => v.S k ∨ k = ob) w w3 := (hF2.mono fun _ h => .inl h).trans' hF3 (by rintro i (h | h); exact .inl (.inr h); exact .inr h)
  obtain ⟨e0, e1, e2, e3⟩ := blk4 hp3
  clear hf hrd
  cases ch with
  | false =>
    go_wp2_with fail
    go_ret
    exact ⟨rfl, hv3, ho3, hF03⟩
  | true =>
    have hqe := hce rfl
    have henc := portEncode_ok q' _ w3 hpk3 hqe
    have hset' := fun W h => hset W h (by rw [bs_size]; exact Po.enc_size hqe)
    clear hset hce hqe
    unfold Po.v at henc
    generalize bs q'.enc = out at *
    go_wp2_with (first | (go_at_call 40; refine henc.mono ?_; rintro e w4 ⟨rfl, hB4⟩) | (go_at_call 85; refine (hof _).mono ?_; rintro e w5 ⟨rfl, hB5⟩))
    have hB35 := hB4.trans' hB5
    refine (hset' _ (hv3.below hB35)).mono ?_
    rintro e w6 ⟨rfl, hv6, hF6⟩
    go_wp2_with fail
    go_ret
    exact ⟨rfl, hv6, hF6.heap hos (hB35.heapS ho3), (hF03.trans (Fr.of_below hB35)).trans (hF6.mono fun _ h => .inl h)⟩

set_option maxRecDepth 100000 in
set_option maxHeartbeats 8000000 in
theorem pchange_151 (w : World) (v : VW) (g : Nm → Option ByteArray) (R N : List (Nm × Ch)) (k : Nat) (hv : IsView w v g R N k) (hk : k < 1000000) (n : Int) (hn : PN n) (ep : Int) (hs : (shV g N (xn n)).1.size ≤ 140737488355328)
    (wb ob : Nat) (oo oo' : Obj) (ho : w.heap[ob]? = some oo) (hos : ¬ v.S ob)
    (q q' : Po) (hq : rdP (shV g N (xn n)).1 ep = (q, 0)) (ch : Bool) (er : Int) (hce : ch = true → q'.err = 0)
    (hf : ∀ W pb qv, w.heap.size ≤ pb → w.heap.size ≤ W.heap.size → W.heap[pb]? = some (.cells (q.cs qv) 56 (0, 0)) → W.ownsRow w.heap.size 123 2 qv q.q.length (pvs q.q) → Fr v.S w W → Calls Tryz.prog 151 #[.pointer (some ⟨pb, 0, none⟩), .pointer (some ⟨wb, 0, none⟩), .pointer (some ⟨ob, 0, none⟩)] W fun e W' => ∃ qv', e = .returned (.tuple #[.bool ch, .int .i64 er]) ∧ W'.heap[pb]? = some (.cells (q'.cs qv') 56 (0, 0)) ∧ PksIn W' qv' q'.q ∧ W'.heap[ob]? = some oo' ∧ Fr (fun k => k = ob ∨ w.heap.size ≤ k) W W' ∧ KeepT VT W W') :
    Calls Tryz.prog 148 #[v.p, .int .i64 n, .int .i64 ep, .func (.func 151) #[] #[.pointer (some ⟨wb, 0, none⟩), .pointer (some ⟨ob, 0, none⟩)]] w fun e w' => e = .returned (.int .i64 er) ∧ IsView w' v g (rdR g R N (xn n)) (pN N (xn n) ch q') (ckp k ch) ∧ w'.heap[ob]? = some oo' ∧ Fr (fun k => v.S k ∨ k = ob) w w' := by
  have hrd := read37_ok w v g R N k hv n hn ep hs
  rw [hq] at hrd
  have hof := fun w => ofPort_any n w
  have hset := fun W (h : IsView W v g (rdR g R N (xn n)) N k) (hc : (bs q'.enc).size ≤ 65536) => set_ok W v g _ N k h (xn n) hn.ok hn.passes (bs q'.enc) hc hk
  have hns : ∀ k, v.S k → k < w.heap.size := fun k hk => Nat.lt_of_not_le fun hle => hv.notS hle hk
  have holt := lt_of_block ho
  clear hq hs hk hv
  generalize rdR g R N (xn n) = R2 at *
  unfold pN ckp Po.ch
  generalize hN2 : upd N (xn n) ⟨bs q'.enc, false⟩ = N2 at *
  clear hN2
  unfold nameV at hof
  unfold Nm.v xn at hset
  simp only at hset
  unfold Po.cs at hf
  unfold Po.v VW.p at *
  simp only at hrd
  go_enter Tryz.func148, Tryz.ntmps148
  go_wp2_with fail
  refine hrd.mono ?_
  rintro e w1 ⟨qv, rfl, hown, hv1, hF1⟩
  obtain ⟨av, cv, rfl⟩ := owns_slice hown
  go_wp2_with fail
  have hp2 := blk_new w1 (.cells #[.string q.o, .int .i64 q.e, .int .i64 q.l, .slice av q.q.length cv] 56)
  have hown2 := hown.alloc (.cells #[.string q.o, .int .i64 q.e, .int .i64 q.l, .slice av q.q.length cv] 56)
  have hv2 := hv1.below (below_new1 w1 (.cells #[.string q.o, .int .i64 q.e, .int .i64 q.l, .slice av q.q.length cv] 56))
  have hF2 := hF1.alloc (.cells #[.string q.o, .int .i64 q.e, .int .i64 q.l, .slice av q.q.length cv] 56)
  have hle := hF1.size
  refine (hf _ _ _ hle hF2.size hp2 hown2 hF2).mono ?_
  rintro e w3 ⟨qv', rfl, hp3, hpk3, ho3, hF3, hK3⟩
  obtain ⟨a', c', rfl, hrest⟩ := id hpk3
  clear hrest
  have hv3 : IsView w3 v g R2 N k := hv2.fr2 hF3 hK3 (fun k hk h => by
    have := hns k hk
    rcases h with h | h
    · exact hos (h ▸ hk)
    · omega)
  have hF03 : Fr (fun k => v.S k ∨ k = ob) w w3 := (hF2.mono fun _ h => .inl h).trans' hF3 (by rintro i (h | h); exact .inl (.inr h); exact .inr h)
  obtain ⟨e0, e1, e2, e3⟩ := blk4 hp3
  clear hf hrd
  cases ch with
  | false =>
    go_wp2_with fail
    go_ret
    exact ⟨rfl, hv3, ho3, hF03⟩
  | true =>
    have hqe := hce rfl
    have henc := portEncode_ok q' _ w3 hpk3 hqe
    have hset' := fun W h => hset W h (by rw [bs_size]; exact Po.enc_size hqe)
    clear hset hce hqe
    unfold Po.v at henc
    generalize bs q'.enc = out at *
    go_wp2_with (first | (go_at_call 40; refine henc.mono ?_; rintro e w4 ⟨rfl, hB4⟩) | (go_at_call 85; refine (hof _).mono ?_; rintro e w5 ⟨rfl, hB5⟩))
    have hB35 := hB4.trans' hB5
    refine (hset' _ (hv3.below hB35)).mono ?_
    rintro e w6 ⟨rfl, hv6, hF6⟩
    go_wp2_with fail
    go_ret
    exact ⟨rfl, hv6, hF6.heap hos (hB35.heapS ho3), (hF03.trans (Fr.of_below hB35)).trans (hF6.mono fun _ h => .inl h)⟩

end Go.Proofs.YtdjjfjnkkgmadaaGreatDoor
