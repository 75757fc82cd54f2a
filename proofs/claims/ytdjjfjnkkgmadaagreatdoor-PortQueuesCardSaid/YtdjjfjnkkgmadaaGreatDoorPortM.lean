/-
  Ports: Open, Close, Get.
-/
import Derived.Test.YtdjjfjnkkgmadaaGreatDoorPortL
namespace Go.Proofs.YtdjjfjnkkgmadaaGreatDoor
open Go Go.RowKit

/-- A fresh port. -/
def Po.fresh (who : ByteArray) (ep : Int) : Po := ⟨who, ep, 0, []⟩
theorem Po.fresh_err {who : ByteArray} {ep : Int} (h1 : Ln.valid who.data.toList = true) (h2 : within ep 1073741824 = true) : (Po.fresh who ep).err = 0 := by
  have h3 : within 0 1073741824 = true := by decide
  simp [Po.fresh, Po.err, h1, h2, h3, perrs]

/-- What opening returns. -/
def opE (who : ByteArray) (user n ep : Int) (s : ByteArray) : Int := if begErr who n ep ≠ 0 then begErr who n ep else if n ≤ 99 ∧ user ≠ 0 then 14 else if (rdP s ep).2 = 0 then 19 else 0
def opR (who : ByteArray) (user n ep : Int) (R R' : List (Nm × Ch)) : List (Nm × Ch) := if begErr who n ep ≠ 0 then R else if n ≤ 99 ∧ user ≠ 0 then R else R'

set_option maxRecDepth 100000 in
set_option maxHeartbeats 4000000 in
theorem open37_bad (w : World) (a : Addr) (who : ByteArray) (hw : who.size ≤ maxLen) (u0 n ep : Int) (h : begErr who n ep ≠ 0) :
    Calls Tryz.prog 75 #[.pointer (some a), .string who, .agg #[.int .i64 u0, .slice none 0 0], .int .i64 n, .int .i64 ep] w fun e w' => e = .returned (.int .i64 (begErr who n ep)) ∧ Below w.heap.size w w' := by
  have hbeg := begin37_any a who hw n ep
  generalize begErr who n ep = er at *
  have h' : (er != 0) = true := by rw [bne_iff_ne]; exact h
  clear h
  go_enter Tryz.func75, Tryz.ntmps75
  go_wp2_with (go_at_call 146; refine (hbeg _).mono ?_; rintro e w1 ⟨rfl, hB1⟩)
  go_ret
  exact ⟨rfl, (below_new1 w _).trans' hB1⟩

set_option maxRecDepth 100000 in
set_option maxHeartbeats 4000000 in
theorem open37_nil (w : World) (who : ByteArray) (u0 n ep : Int) :
    Calls Tryz.prog 75 #[.pointer none, .string who, .agg #[.int .i64 u0, .slice none 0 0], .int .i64 n, .int .i64 ep] w fun e w' => e = .returned (.int .i64 1) ∧ Below w.heap.size w w' := by
  have hbeg := begin37_nil who n ep
  go_enter Tryz.func75, Tryz.ntmps75
  go_wp2_with (go_at_call 146; refine (hbeg _).mono ?_; rintro e w1 ⟨rfl, rfl⟩)
  go_ret
  exact ⟨rfl, below_new1 w _⟩

set_option maxRecDepth 100000 in
set_option maxHeartbeats 4000000 in
theorem open37_denied (w : World) (a : Addr) (who : ByteArray) (hw : who.size ≤ maxLen) (u0 n ep : Int) (h : begErr who n ep = 0) (h99 : n ≤ 99) (hu : u0 ≠ 0) :
    Calls Tryz.prog 75 #[.pointer (some a), .string who, .agg #[.int .i64 u0, .slice none 0 0], .int .i64 n, .int .i64 ep] w fun e w' => e = .returned (.int .i64 14) ∧ Below w.heap.size w w' := by
  have hbeg := begin37_any a who hw n ep
  rw [h] at hbeg
  have hX := blk_new w (.cells #[.int .i64 u0, .slice none 0 0] 121)
  have hu' : (u0 != 0) = true := by rw [bne_iff_ne]; exact hu
  clear h hu
  go_enter Tryz.func75, Tryz.ntmps75
  go_wp2_with (go_at_call 146; refine (hbeg _).mono ?_; rintro e w1 ⟨rfl, hB1⟩; obtain ⟨c0, c1⟩ := blk2 (hB1.heapS hX))
  go_ret
  exact ⟨rfl, (below_new1 w _).trans' hB1⟩

set_option maxRecDepth 100000 in
set_option maxHeartbeats 8000000 in
theorem open37_busy (w : World) (v : VW) (g : Nm → Option ByteArray) (R N : List (Nm × Ch)) (k : Nat) (hv : IsView w v g R N k) (who : ByteArray) (hw : who.size ≤ maxLen) (u0 n ep : Int) (hs : (shV g N (xn n)).1.size ≤ 140737488355328)
    (h : begErr who n ep = 0) (hc : (n ≤ 99 ∧ u0 = 0) ∨ 99 < n) (hq : (rdP (shV g N (xn n)).1 ep).2 = 0) :
    Calls Tryz.prog 75 #[v.p, .string who, .agg #[.int .i64 u0, .slice none 0 0], .int .i64 n, .int .i64 ep] w fun e w' => e = .returned (.int .i64 19) ∧ IsView w' v g (rdR g R N (xn n)) N k ∧ Fr v.S w w' := by
  have hbeg := fun a => begin37_any a who hw n ep
  have hrd := fun W h' => read37_ok W v g R N k h' n (begErr_zero h).2.1 ep hs
  rw [h] at hbeg
  have hX := blk_new w (.cells #[.int .i64 u0, .slice none 0 0] 121)
  generalize rdP (shV g N (xn n)).1 ep = D at *
  obtain ⟨q, qe⟩ := D
  simp only at hq hrd
  subst hq
  generalize rdR g R N (xn n) = R2 at *
  unfold Po.v VW.p at *
  clear h hs
  rcases hc with ⟨h99, rfl⟩ | h99
  · go_enter Tryz.func75, Tryz.ntmps75
    go_wp2_with (go_at_call 146; refine (hbeg _ _).mono ?_; rintro e w1 ⟨rfl, hB1⟩; have hBa := (below_new1 w (.cells #[.int .i64 0, .slice none 0 0] 121)).trans' hB1; obtain ⟨c0, c1⟩ := blk2 (hB1.heapS hX))
    refine (hrd _ (hv.below hBa)).mono ?_
    rintro e w2 ⟨qv, rfl, hown, hv2, hF2⟩
    obtain ⟨av, cv, rfl⟩ := owns_slice hown
    go_wp2_with fail
    go_ret
    exact ⟨rfl, hv2.below (below_new1 w2 _), ((Fr.of_below hBa).trans hF2).alloc _⟩
  · go_enter Tryz.func75, Tryz.ntmps75
    go_wp2_with (go_at_call 146; refine (hbeg _ _).mono ?_; rintro e w1 ⟨rfl, hB1⟩; have hBa := (below_new1 w (.cells #[.int .i64 u0, .slice none 0 0] 121)).trans' hB1; obtain ⟨c0, c1⟩ := blk2 (hB1.heapS hX))
    refine (hrd _ (hv.below hBa)).mono ?_
    rintro e w2 ⟨qv, rfl, hown, hv2, hF2⟩
    obtain ⟨av, cv, rfl⟩ := owns_slice hown
    go_wp2_with fail
    go_ret
    exact ⟨rfl, hv2.below (below_new1 w2 _), ((Fr.of_below hBa).trans hF2).alloc _⟩

set_option maxRecDepth 100000 in
set_option maxHeartbeats 8000000 in
theorem open37_ok (w : World) (v : VW) (g : Nm → Option ByteArray) (R N : List (Nm × Ch)) (k : Nat) (hv : IsView w v g R N k) (hk : k < 1000000) (who : ByteArray) (hw : who.size ≤ maxLen) (u0 n ep : Int) (hs : (shV g N (xn n)).1.size ≤ 140737488355328)
    (h : begErr who n ep = 0) (hc : (n ≤ 99 ∧ u0 = 0) ∨ 99 < n) (hq : (rdP (shV g N (xn n)).1 ep).2 ≠ 0) :
    Calls Tryz.prog 75 #[v.p, .string who, .agg #[.int .i64 u0, .slice none 0 0], .int .i64 n, .int .i64 ep] w fun e w' => e = .returned (.int .i64 0) ∧ IsView w' v g (rdR g R N (xn n)) (upd N (xn n) (Po.fresh who ep).ch) (k + 1) ∧ Fr v.S w w' := by
  have hz := begErr_zero h
  have hbeg := fun a => begin37_any a who hw n ep
  have hrd := fun W h' => read37_ok W v g R N k h' n hz.2.1 ep hs
  have hof := fun w => ofPort_any n w
  have hpe := Po.fresh_err hz.1 hz.2.2
  have henc := fun W => portEncode_ok (Po.fresh who ep) (.slice none 0 0) W (pks_zero W) hpe
  have hset := fun W (h' : IsView W v g (rdR g R N (xn n)) N k) => set_ok W v g _ N k h' (xn n) hz.2.1.ok hz.2.1.passes (bs (Po.fresh who ep).enc) (by rw [bs_size]; exact Po.enc_size hpe) hk
  rw [h] at hbeg
  have hX := blk_new w (.cells #[.int .i64 u0, .slice none 0 0] 121)
  have hq8 : rdP (shV g N (xn n)).1 ep = (Po.zero, 8) := (rdP_err _ ep).resolve_right (fun h => hq h.1)
  rw [hq8] at hrd
  generalize rdR g R N (xn n) = R2 at *
  unfold Po.ch
  generalize hN2 : upd N (xn n) ⟨bs (Po.fresh who ep).enc, false⟩ = N2 at *
  clear hN2 hq hq8 hs h hz hk
  generalize bs (Po.fresh who ep).enc = out at *
  clear hpe
  unfold nameV at hof
  unfold Nm.v xn at hset
  simp only at hset
  unfold Po.v Po.zero Po.fresh VW.p at *
  simp only at hrd henc
  rcases hc with ⟨h99, rfl⟩ | h99
  · go_enter Tryz.func75, Tryz.ntmps75
    go_wp2_with (go_at_call 146; refine (hbeg _ _).mono ?_; rintro e w1 ⟨rfl, hB1⟩; have hBa := (below_new1 w (.cells #[.int .i64 0, .slice none 0 0] 121)).trans' hB1; obtain ⟨c0, c1⟩ := blk2 (hB1.heapS hX))
    refine (hrd _ (hv.below hBa)).mono ?_
    rintro e w2 ⟨qv, rfl, hown, hv2, hF2⟩
    obtain ⟨av, cv, rfl⟩ := owns_slice hown
    go_wp2_with (first | (go_at_call 40; refine (henc _).mono ?_; rintro e w4 ⟨rfl, hB4⟩) | (go_at_call 85; refine (hof _).mono ?_; rintro e w5 ⟨rfl, hB5⟩))
    have hB35 := ((below_new1 w2 _).trans' hB4).trans' hB5
    refine (hset _ (hv2.below hB35)).mono ?_
    rintro e w6 ⟨rfl, hv6, hF6⟩
    go_wp2_with fail
    go_ret
    exact ⟨rfl, hv6, (((Fr.of_below hBa).trans hF2).trans (Fr.of_below hB35)).trans hF6⟩
  · go_enter Tryz.func75, Tryz.ntmps75
    go_wp2_with (go_at_call 146; refine (hbeg _ _).mono ?_; rintro e w1 ⟨rfl, hB1⟩; have hBa := (below_new1 w (.cells #[.int .i64 u0, .slice none 0 0] 121)).trans' hB1; obtain ⟨c0, c1⟩ := blk2 (hB1.heapS hX))
    refine (hrd _ (hv.below hBa)).mono ?_
    rintro e w2 ⟨qv, rfl, hown, hv2, hF2⟩
    obtain ⟨av, cv, rfl⟩ := owns_slice hown
    go_wp2_with (first | (go_at_call 40; refine (henc _).mono ?_; rintro e w4 ⟨rfl, hB4⟩) | (go_at_call 85; refine (hof _).mono ?_; rintro e w5 ⟨rfl, hB5⟩))
    have hB35 := ((below_new1 w2 _).trans' hB4).trans' hB5
    refine (hset _ (hv2.below hB35)).mono ?_
    rintro e w6 ⟨rfl, hv6, hF6⟩
    go_wp2_with fail
    go_ret
    exact ⟨rfl, hv6, (((Fr.of_below hBa).trans hF2).trans (Fr.of_below hB35)).trans hF6⟩

theorem open37_any (w : World) (v : VW) (g : Nm → Option ByteArray) (R N : List (Nm × Ch)) (k : Nat) (hv : IsView w v g R N k) (hk : k < 1000000) (who : ByteArray) (hw : who.size ≤ maxLen) (u0 n ep : Int) (hs : (shV g N (xn n)).1.size ≤ 140737488355328) :
    Calls Tryz.prog 75 #[v.p, .string who, .agg #[.int .i64 u0, .slice none 0 0], .int .i64 n, .int .i64 ep] w fun e w' => e = .returned (.int .i64 (opE who u0 n ep (shV g N (xn n)).1)) ∧
      IsView w' v g (opR who u0 n ep R (rdR g R N (xn n))) (pN N (xn n) (decide (opE who u0 n ep (shV g N (xn n)).1 = 0)) (Po.fresh who ep)) (ckp k (decide (opE who u0 n ep (shV g N (xn n)).1 = 0))) ∧ Fr v.S w w' := by
  unfold opE opR
  by_cases h : begErr who n ep = 0
  · have hb : ¬ begErr who n ep ≠ 0 := fun h' => h' h
    simp only [if_neg hb]
    by_cases hc : n ≤ 99 ∧ u0 ≠ 0
    · simp only [if_pos hc]
      refine (open37_denied w _ who hw u0 n ep h hc.1 hc.2).mono ?_
      rintro e w' ⟨rfl, hB⟩
      exact ⟨rfl, by simpa [pN, ckp] using hv.below hB, Fr.of_below hB⟩
    · have hc' : (n ≤ 99 ∧ u0 = 0) ∨ 99 < n := by
        by_cases h9 : n ≤ 99
        · exact .inl ⟨h9, Decidable.byContradiction fun hu => hc ⟨h9, hu⟩⟩
        · exact .inr (by omega)
      simp only [if_neg hc]
      by_cases hq : (rdP (shV g N (xn n)).1 ep).2 = 0
      · simp only [if_pos hq]
        refine (open37_busy w v g R N k hv who hw u0 n ep hs h hc' hq).mono ?_
        rintro e w' ⟨rfl, hv', hF⟩
        exact ⟨rfl, by simpa [pN, ckp] using hv', hF⟩
      · simp only [if_neg hq]
        refine (open37_ok w v g R N k hv hk who hw u0 n ep hs h hc' hq).mono ?_
        rintro e w' ⟨rfl, hv', hF⟩
        exact ⟨rfl, by simpa [pN, ckp] using hv', hF⟩
  · have hb : begErr who n ep ≠ 0 := h
    simp only [if_pos hb]
    refine (open37_bad w _ who hw u0 n ep h).mono ?_
    rintro e w' ⟨rfl, hB⟩
    exact ⟨rfl, by simpa [pN, ckp, h] using hv.below hB, Fr.of_below hB⟩

/-- What looking gives. -/
def gtD (n ep : Int) (s : ByteArray) : Po × Int := if begErr ⟨#[]⟩ n ep ≠ 0 then (Po.zero, begErr ⟨#[]⟩ n ep) else rdP s ep
def bgR (who : ByteArray) (n ep : Int) (R R' : List (Nm × Ch)) : List (Nm × Ch) := if begErr who n ep ≠ 0 then R else R'

set_option maxRecDepth 100000 in
theorem get37_nil (w : World) (n ep : Int) : Calls Tryz.prog 80 #[.pointer none, .int .i64 n, .int .i64 ep] w fun e w' => e = .returned (.tuple #[Po.zero.v (.slice none 0 0), .int .i64 1]) ∧ Below w.heap.size w w' := by
  have hbeg := begin37_nil ⟨#[]⟩ n ep
  have hz5 := blk_new w (.cells #[.string ⟨#[]⟩, .int .i64 0, .int .i64 0, .slice none 0 0] 56)
  unfold Po.v Po.zero
  go_enter Tryz.func80, Tryz.ntmps80
  go_wp2_with (first | (go_at_call 146; refine (hbeg _).mono ?_; rintro e w1 ⟨rfl, rfl⟩) | (refine wpList_store_row rfl 56 _ _ rfl w.heap.size #[.string ⟨#[]⟩, .int .i64 0, .int .i64 0, .slice none 0 0] rfl rfl 56 _ hz5 (by kernel_rfl) rfl (by simp [Value.oneCell']) ?_))
  refine bodyPost_ret (results_row_tmp rfl _ _ w.heap.size 56 #[.string ⟨#[]⟩, .int .i64 0, .int .i64 0, .slice none 0 0] (0, 0) _ rfl (setRow_heap _ _ _ _ _ _ hz5) Tryz.underlying56 rfl (by kernel_rfl)) rfl ⟨rfl, ?_⟩
  exact (below_new1 w _).setRow (Nat.le_refl _) _

set_option maxRecDepth 100000 in
set_option maxHeartbeats 4000000 in
theorem get37_own (w : World) (v : VW) (g : Nm → Option ByteArray) (R N : List (Nm × Ch)) (k : Nat) (hv : IsView w v g R N k) (n ep : Int) (hs : (shV g N (xn n)).1.size ≤ 140737488355328) :
    Calls Tryz.prog 80 #[v.p, .int .i64 n, .int .i64 ep] w fun e w' => ∃ qv, e = .returned (.tuple #[(gtD n ep (shV g N (xn n)).1).1.v qv, .int .i64 (gtD n ep (shV g N (xn n)).1).2]) ∧
      w'.ownsRow w.heap.size 123 2 qv (gtD n ep (shV g N (xn n)).1).1.q.length (pvs (gtD n ep (shV g N (xn n)).1).1.q) ∧ IsView w' v g (bgR ⟨#[]⟩ n ep R (rdR g R N (xn n))) N k ∧ Fr v.S w w' := by
  have hbeg := fun a => begin37_any a ⟨#[]⟩ (by decide) n ep
  have hz5 := blk_new w (.cells #[.string ⟨#[]⟩, .int .i64 0, .int .i64 0, .slice none 0 0] 56)
  unfold gtD bgR
  by_cases h : begErr ⟨#[]⟩ n ep = 0
  · rw [if_neg (by simpa using h), if_neg (by simpa using h)]
    have hrd := fun W h' => read37_ok W v g R N k h' n (begErr_zero h).2.1 ep hs
    rw [h] at hbeg
    generalize rdP (shV g N (xn n)).1 ep = D at *
    obtain ⟨q, qe⟩ := D
    generalize rdR g R N (xn n) = R2 at *
    unfold Po.v VW.p at *
    simp only at hrd
    clear h hs
    go_enter Tryz.func80, Tryz.ntmps80
    go_wp2_with (go_at_call 146; refine (hbeg _ _).mono ?_; rintro e w1 ⟨rfl, hB1⟩; have hBa := (below_new1 w (.cells #[.string ⟨#[]⟩, .int .i64 0, .int .i64 0, .slice none 0 0] 56)).trans' hB1; have hz1 := hB1.heapS hz5)
    refine (hrd _ (hv.below hBa)).mono ?_
    rintro e w2 ⟨qv, rfl, hown, hv2, hF2⟩
    obtain ⟨av, cv, rfl⟩ := owns_slice hown
    have hz2 := hF2.heap (hv.notS (Nat.le_refl _)) hz1
    have hzl := lt_of_block hz1
    go_wp2_with (refine wpList_store_row rfl 56 _ _ rfl w.heap.size #[.string q.o, .int .i64 q.e, .int .i64 q.l, .slice av q.q.length cv] rfl rfl 56 _ hz2 (by kernel_rfl) rfl (by simp [Value.oneCell']) ?_)
    refine bodyPost_ret (results_row_tmp rfl _ _ w.heap.size 56 #[.string q.o, .int .i64 q.e, .int .i64 q.l, .slice av q.q.length cv] (0, 0) _ rfl (setRow_heap _ _ _ _ _ _ hz2) Tryz.underlying56 rfl (by kernel_rfl)) rfl ⟨_, rfl, ?_, ?_, ?_⟩
    · exact ownsRow_mono (owns_low hown (Fr.setRow1 _ w.heap.size _) (fun k hk => by omega)) (by omega)
    · exact hv2.setRow (hv.notS (Nat.le_refl _)) hz2 (by simp [StT]) _
    · have h := (Fr.of_below (S := v.S) hBa).trans hF2
      exact ⟨h.os, h.tape, h.output, by simp [World.setRow]; exact h.size, fun k hk hs => (setRow_other _ _ k _ (by omega)).trans (h.block k hk hs)⟩
  · rw [if_pos (by simpa using h), if_pos (by simpa using h)]
    generalize begErr ⟨#[]⟩ n ep = er at *
    have h' : (er != 0) = true := by rw [bne_iff_ne]; exact h
    clear h hs
    unfold Po.v Po.zero VW.p
    go_enter Tryz.func80, Tryz.ntmps80
    go_wp2_with (first | (go_at_call 146; refine (hbeg _ _).mono ?_; rintro e w1 ⟨rfl, hB1⟩; have hBa := (below_new1 w (.cells #[.string ⟨#[]⟩, .int .i64 0, .int .i64 0, .slice none 0 0] 56)).trans' hB1; have hz1 := hB1.heapS hz5) | (refine wpList_store_row rfl 56 _ _ rfl w.heap.size #[.string ⟨#[]⟩, .int .i64 0, .int .i64 0, .slice none 0 0] rfl rfl 56 _ hz1 (by kernel_rfl) rfl (by simp [Value.oneCell']) ?_))
    refine bodyPost_ret (results_row_tmp rfl _ _ w.heap.size 56 #[.string ⟨#[]⟩, .int .i64 0, .int .i64 0, .slice none 0 0] (0, 0) _ rfl (setRow_heap _ _ _ _ _ _ hz1) Tryz.underlying56 rfl (by kernel_rfl)) rfl ⟨.slice none 0 0, rfl, World.ownsRow_nil _ _ _ _, ?_, ?_⟩
    · exact (hv.below hBa).setRow (hv.notS (Nat.le_refl _)) hz1 (by simp [StT]) _
    · exact Fr.of_below (hBa.setRow (Nat.le_refl _) _)

theorem gtD_small (n ep : Int) (s : ByteArray) : ∀ p ∈ (gtD n ep s).1.q, p.f.size ≤ maxLen ∧ p.b.size ≤ maxLen := by
  intro p hp
  unfold gtD at hp
  split at hp
  · simp [Po.zero] at hp
  · exact rdP_small s ep p hp

theorem get37_any (w : World) (v : VW) (g : Nm → Option ByteArray) (R N : List (Nm × Ch)) (k : Nat) (hv : IsView w v g R N k) (n ep : Int) (hs : (shV g N (xn n)).1.size ≤ 140737488355328) :
    Calls Tryz.prog 80 #[v.p, .int .i64 n, .int .i64 ep] w fun e w' => ∃ qv, e = .returned (.tuple #[(gtD n ep (shV g N (xn n)).1).1.v qv, .int .i64 (gtD n ep (shV g N (xn n)).1).2]) ∧
      PksIn w' qv (gtD n ep (shV g N (xn n)).1).1.q ∧ IsView w' v g (bgR ⟨#[]⟩ n ep R (rdR g R N (xn n))) N k ∧ Fr v.S w w' :=
  (get37_own w v g R N k hv n ep hs).mono fun _ _ ⟨qv, h1, h2, h3⟩ => ⟨qv, h1, pks_of_owns h2 (gtD_small _ _ _), h3⟩

/-- What closing returns. -/
def clE (who : ByteArray) (n ep : Int) (s : ByteArray) : Int := if begErr who n ep ≠ 0 then begErr who n ep else if (rdP s ep).2 ≠ 0 then (rdP s ep).2 else if (rdP s ep).1.o ≠ who then 14 else 0

set_option maxRecDepth 100000 in
theorem close37_nil (w : World) (who : ByteArray) (n ep : Int) : Calls Tryz.prog 81 #[.pointer none, .string who, .int .i64 n, .int .i64 ep] w fun e w' => e = .returned (.int .i64 1) ∧ w = w' := by
  have hbeg := begin37_nil who n ep
  go_enter Tryz.func81, Tryz.ntmps81
  go_wp2_with (go_at_call 146; refine (hbeg _).mono ?_; rintro e w1 ⟨rfl, rfl⟩)
  go_ret
  exact ⟨rfl, rfl⟩

set_option maxRecDepth 100000 in
set_option maxHeartbeats 8000000 in
theorem close37_any (w : World) (v : VW) (g : Nm → Option ByteArray) (R N : List (Nm × Ch)) (k : Nat) (hv : IsView w v g R N k) (hk : k < 1000000) (who : ByteArray) (hw : who.size ≤ maxLen) (n ep : Int) (hs : (shV g N (xn n)).1.size ≤ 140737488355328) :
    Calls Tryz.prog 81 #[v.p, .string who, .int .i64 n, .int .i64 ep] w fun e w' => e = .returned (.int .i64 (clE who n ep (shV g N (xn n)).1)) ∧
      IsView w' v g (bgR who n ep R (rdR g R N (xn n))) (if clE who n ep (shV g N (xn n)).1 = 0 then upd N (xn n) ⟨⟨#[]⟩, true⟩ else N) (ckp k (decide (clE who n ep (shV g N (xn n)).1 = 0))) ∧ Fr v.S w w' := by
  have hbeg := fun a => begin37_any a who hw n ep
  unfold clE bgR
  by_cases h : begErr who n ep = 0
  · have hb : ¬ begErr who n ep ≠ 0 := fun h' => h' h
    simp only [if_neg hb]
    clear hb
    have hz := begErr_zero h
    have hrd := fun W h' => read37_ok W v g R N k h' n hz.2.1 ep hs
    have hof := fun w => ofPort_any n w
    have hdel := fun W (h' : IsView W v g (rdR g R N (xn n)) N k) => delete_ok W v g _ N k h' (xn n) hz.2.1.ok hz.2.1.passes hk
    rw [h] at hbeg
    have herr := rdP_err (shV g N (xn n)).1 ep
    generalize rdP (shV g N (xn n)).1 ep = D at *
    generalize rdR g R N (xn n) = R2 at *
    generalize hN2 : upd N (xn n) ⟨⟨#[]⟩, true⟩ = N2 at *
    clear hN2 h hs hz hk
    obtain ⟨q, qe⟩ := D
    unfold nameV at hof
    unfold Nm.v xn at hdel
    unfold Po.v VW.p at *
    simp only at hrd hdel herr ⊢
    have hqe : qe = 0 ∨ qe = 8 := by
      rcases herr with h | h
      · right; exact congrArg Prod.snd h
      · exact .inl h.1
    clear herr
    rcases hqe with rfl | rfl
    · by_cases ho : q.o = who
      · have hoo : ¬ q.o ≠ who := fun h' => h' ho
        have h00 : ¬ (0 : Int) ≠ 0 := by decide
        simp only [if_neg h00, if_neg hoo]
        clear hoo h00
        have ho' : (q.o.toList != who.toList) = false := by rw [ho]; simp
        have ho2 : (q.o.toList == who.toList) = true := by rw [ho]; simp
        clear ho
        go_enter Tryz.func81, Tryz.ntmps81
        go_wp2_with (go_at_call 146; refine (hbeg _ _).mono ?_; rintro e w1 ⟨rfl, hB1⟩)
        refine (hrd _ (hv.below hB1)).mono ?_
        rintro e w2 ⟨qv, rfl, hown, hv2, hF2⟩
        obtain ⟨av, cv, rfl⟩ := owns_slice hown
        go_wp2_with (go_at_call 85; refine (hof _).mono ?_; rintro e w5 ⟨rfl, hB5⟩)
        have hB35 := (below_new1 w2 _).trans' hB5
        refine (hdel _ (hv2.below hB35)).mono ?_
        rintro e w6 ⟨rfl, hv6, hF6⟩
        go_wp2_with fail
        go_ret
        exact ⟨rfl, by simpa [ckp] using hv6, (((Fr.of_below hB1).trans hF2).trans (Fr.of_below hB35)).trans hF6⟩
      · have h00 : ¬ (0 : Int) ≠ 0 := by decide
        have hoo : q.o ≠ who := ho
        simp only [if_neg h00, if_pos hoo]
        clear h00 hoo
        have ho2 : (q.o.toList == who.toList) = false := str_ne ho
        have ho' : (q.o.toList != who.toList) = true := by simp only [bne, ho2]; rfl
        clear ho
        go_enter Tryz.func81, Tryz.ntmps81
        go_wp2_with (go_at_call 146; refine (hbeg _ _).mono ?_; rintro e w1 ⟨rfl, hB1⟩)
        refine (hrd _ (hv.below hB1)).mono ?_
        rintro e w2 ⟨qv, rfl, hown, hv2, hF2⟩
        obtain ⟨av, cv, rfl⟩ := owns_slice hown
        go_wp2_with fail
        go_ret
        exact ⟨rfl, by simpa [ckp] using hv2.below (below_new1 w2 _), ((Fr.of_below hB1).trans hF2).alloc _⟩
    · have h80 : (8 : Int) ≠ 0 := by decide
      simp only [if_pos h80]
      clear h80
      go_enter Tryz.func81, Tryz.ntmps81
      go_wp2_with (go_at_call 146; refine (hbeg _ _).mono ?_; rintro e w1 ⟨rfl, hB1⟩)
      refine (hrd _ (hv.below hB1)).mono ?_
      rintro e w2 ⟨qv, rfl, hown, hv2, hF2⟩
      obtain ⟨av, cv, rfl⟩ := owns_slice hown
      go_wp2_with fail
      go_ret
      exact ⟨rfl, by simpa [ckp] using hv2.below (below_new1 w2 _), ((Fr.of_below hB1).trans hF2).alloc _⟩
  · have hb : begErr who n ep ≠ 0 := h
    simp only [if_pos hb]
    clear hb
    rw [if_neg h]
    have hck : ckp k (decide (begErr who n ep = 0)) = k := by simp [ckp, h]
    rw [hck]
    generalize begErr who n ep = er at *
    have h' : (er != 0) = true := by rw [bne_iff_ne]; exact h
    clear h hs hck
    unfold VW.p
    go_enter Tryz.func81, Tryz.ntmps81
    go_wp2_with (go_at_call 146; refine (hbeg _ _).mono ?_; rintro e w1 ⟨rfl, hB1⟩)
    go_ret
    exact ⟨rfl, hv.below hB1, Fr.of_below hB1⟩

end Go.Proofs.YtdjjfjnkkgmadaaGreatDoor
