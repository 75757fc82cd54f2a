/-
  view: New, Get, call, Set, Delete.
-/
import Derived.Test.YtdjjfjnkkgmadaaGreatDoorState
import Derived.Test.YtdjjfjnkkgmadaaGreatDoorAppend
import Derived.Test.YtdjjfjnkkgmadaaGreatDoorCheck
import Derived.Deep.AppendLies
import Derived.Deep.RegionLaw
import Derived.StillTailTactics
import Derived.Deep.Cut
import Derived.Deep.CutRange
namespace Go.Proofs.YtdjjfjnkkgmadaaGreatDoor
open Go Go.RowKit

/-- Where a view lies: its struct, its reads, its last calls. -/
structure VW where
  vb : Nat
  rb : Nat
  nb : Nat

def VW.p (v : VW) : Value := .pointer (some ⟨v.vb, 0, none⟩)
def VW.S (v : VW) (k : Nat) : Prop := k = v.vb ∨ k = v.rb ∨ k = v.nb

structure IsView (w : World) (v : VW) (g : Nm → Option ByteArray) (R N : List (Nm × Ch)) (m : Nat) : Prop where
  st : ∃ base cv xs, Base w base g ∧ w.heap[v.vb]? = some (.cells #[base, .map (some v.rb), cv, .map (some v.nb)] 194 (0, 0)) ∧ w.ownsRow 0 149 7 cv m xs ∧ ∀ u ∈ xs, u.oneCell' = true
  rd : MapIs w v.rb R
  nw : MapIs w v.nb N
  ne : v.rb ≠ v.nb

theorem info149 : (Tryz.prog.info? 149).map (fun i => (i.zero, i.size, i.bytes)) = some (some (.agg #[.int .i64 0, .string ⟨#[]⟩, .int .i64 0, .int .i64 0, .string ⟨#[]⟩, .string ⟨#[]⟩, .bool false]), 7, 80) := by kernel_rfl

theorem MapIs.not_cells {w : World} {b : Nat} {L : List (Nm × Ch)} (h : MapIs w b L) {c : Array Value} {t : TypeId} {f : Nat × Nat} (hc : w.heap[b]? = some (.cells c t f)) : False := by
  obtain ⟨es, h1, _⟩ := h
  rw [h1] at hc
  cases hc

theorem owns_fr {S : Nat → Prop} {w w' : World} {b : Nat} {e : TypeId} {size : Nat} {v : Value} {n : Nat} {xs : List Value} (h : w.ownsRow b e size v n xs) (hf : Fr S w w') (hS : ∀ g c f, S g → w.heap[g]? = some (Obj.cells c e f) → False) : w'.ownsRow b e size v n xs := by
  refine ⟨h.1, h.2.imp id ?_⟩
  rintro ⟨g, cap, cur, rfl, h1, h2, h3⟩
  exact ⟨g, cap, cur, rfl, h1, hf.heap (fun hs => hS g _ _ hs h2) h2, h3⟩

theorem IsView.below {w w' : World} {v : VW} {g : Nm → Option ByteArray} {R N : List (Nm × Ch)} {m : Nat} (h : IsView w v g R N m) (hB : Below w.heap.size w w') : IsView w' v g R N m := by
  obtain ⟨⟨base, cv, xs, h1, h2, h3, h4⟩, h5, h6, h7⟩ := h
  exact ⟨⟨base, cv, xs, h1.keep (KeepT.of_below hB), hB.heapS h2, owns_fr (S := fun _ => False) h3 (Fr.of_below hB) (fun _ _ _ h => h.elim), h4⟩, h5.keep (hB.block _ h5.lt), h6.keep (hB.block _ h6.lt), h7⟩

/-- A view lies as it lay where none of its blocks is turned. -/
theorem IsView.fr {S : Nat → Prop} {w w' : World} {v : VW} {g : Nm → Option ByteArray} {R N : List (Nm × Ch)} {m : Nat} (h : IsView w v g R N m) (hF : Fr S w w') (hv : ∀ k, v.S k → ¬ S k) (hS : ∀ (k : Nat) (c : Array Value) (t : TypeId) (f : Nat × Nat), S k → w.heap[k]? = some (.cells c t f) → t ≠ 149 ∧ ¬ StT t) : IsView w' v g R N m := by
  obtain ⟨⟨base, cv, xs, h1, h2, h3, h4⟩, h5, h6, h7⟩ := h
  exact ⟨⟨base, cv, xs, h1.keep (KeepT.of_fr hF fun k c t f hk hc => (hS k c t f hk hc).2), hF.heap (hv _ (.inl rfl)) h2, owns_fr h3 hF (fun k c f hk hc => (hS k c _ f hk hc).1 rfl), h4⟩,
    h5.keep (hF.block _ h5.lt (hv _ (.inr (.inl rfl)))), h6.keep (hF.block _ h6.lt (hv _ (.inr (.inr rfl)))), h7⟩

set_option maxRecDepth 100000 in
theorem viewNew_any (w : World) (p : Value) (g : Nm → Option ByteArray) (hb : Base w p g) :
    Calls Tryz.prog 32 #[p] w fun e w' => e = .returned (VW.mk (w.heap.size + 2) w.heap.size (w.heap.size + 1)).p ∧ IsView w' (VW.mk (w.heap.size + 2) w.heap.size (w.heap.size + 1)) g [] [] 0 ∧ Below w.heap.size w w' := by
  obtain ⟨⟨a, rfl⟩, _⟩ := id hb
  have hm := @run_makeMap Tryz.prog
  go_enter Tryz.func32, Tryz.ntmps32
  go_wp2
  go_ret
  have hB : Below w.heap.size w (((w.alloc (.map #[] 0)).alloc (.map #[] 0)).alloc (.cells #[.pointer (some a), .map (some w.heap.size), .slice none 0 0, .map (some (w.heap.size + 1))] 194)) := (below_new2 w _ _).alloc (by simp; omega) _
  refine ⟨by simp [VW.p], ⟨⟨_, _, [], hb.keep (KeepT.of_below hB), ?_, World.ownsRow_nil _ _ _ _, by simp⟩, ?_, ?_, by simp⟩, hB⟩
  · have := blk_new ((w.alloc (.map #[] 0)).alloc (.map #[] 0)) (.cells #[.pointer (some a), .map (some w.heap.size), .slice none 0 0, .map (some (w.heap.size + 1))] 194)
    simpa using this
  · exact (MapIs.new w).keep (((Below.refl _ _).alloc (Nat.le_refl _) _).alloc (by simp) _ |>.block _ (by simp))
  · have := (MapIs.new (w.alloc (.map #[] 0)))
    rw [World.size_alloc] at this
    exact this.keep (Below.heap_alloc _ _ _ (by simp))

set_option maxRecDepth 100000 in
theorem clone_any (w : World) (v : Value) (m : Nat) (xs : List Value) (h : w.ownsRow 0 149 7 v m xs) (h1 : ∀ u ∈ xs, u.oneCell' = true) (hm : m ≤ 1000000) :
    Calls Tryz.prog 175 #[v] w fun e w' => ∃ a c, e = .returned (.slice a m c) ∧ w'.ownsRow w.heap.size 149 7 (.slice a m c) m xs ∧ Below w.heap.size w w' := by
  obtain ⟨i, hi, hz0, hz1, hz2⟩ := info_parts info149
  rcases id h.2 with ⟨rfl, rfl⟩ | ⟨g, cap, cur, rfl, hb, hg, hc, hc2, hsz, htk⟩
  · have hx : xs = [] := List.eq_nil_of_length_eq_zero (by simpa using h.1)
    subst hx
    have he : ∀ w, (binOp .eql 113 (.slice none 0 0) (.slice none 0 0)).run Tryz.prog w = .ok (.bool true) w := fun _ => rfl
    go_enter Tryz.func175, Tryz.ntmps175
    go_wp2
    go_ret
    exact ⟨none, 0, rfl, World.ownsRow_nil _ _ _ _, Below.refl _ _⟩
  · have hown := World.ownsRow_made (w := w) (base := w.heap.size) (e := 149) (size := 7) #[] 0 (Nat.le_refl _) (Nat.zero_le _) rfl
    have hcl := fun j u => (h.kept (World.grownBy_alloc w (.cells #[] 149) none) (.inr (by simp [Value.ownBlock]))).cells (g := g) rfl j u
    have he : ∀ w, (binOp .eql 113 (.slice (some ⟨g, 0, none⟩) m cap) (.slice none 0 0)).run Tryz.prog w = .ok (.bool false) w := fun _ => rfl
    go_enter Tryz.func175, Tryz.ntmps175
    go_wp2_with (refine wpList_append_own2 rfl _ _ 113 rfl w.heap.size 149 i _ 7 80 Tryz.underlying113 hi hz0 hz1 hz2 rfl (by decide) _ _ _ rfl hown ⟨g, 0, none⟩ m cap xs rfl h.1 hcl h1 (by unfold maxLen; omega) (by omega) (by simp) ?_; intro a' c' w' ho' hgr hw)
    go_ret
    refine ⟨a', c', rfl, by simpa using ho', (below_new1 w _).grown hgr (by simp) ?_⟩
    intro k e
    have : w.heap.size = k := by simpa [Value.ownBlock, Act.eval] using e
    omega

theorem blk7 {w : World} {b : Nat} {x0 x1 x2 x3 x4 x5 x6 : Value} {t : TypeId} (h : w.heap[b]? = some (.cells #[x0, x1, x2, x3, x4, x5, x6] t (0, 0))) :
    w.cell? ⟨b, 0, none⟩ = some x0 ∧ w.cell? ⟨b, 1, none⟩ = some x1 ∧ w.cell? ⟨b, 2, none⟩ = some x2 ∧ w.cell? ⟨b, 3, none⟩ = some x3 ∧ w.cell? ⟨b, 4, none⟩ = some x4 ∧ w.cell? ⟨b, 5, none⟩ = some x5 ∧ w.cell? ⟨b, 6, none⟩ = some x6 :=
  ⟨blk_cell h 0, blk_cell h 1, blk_cell h 2, blk_cell h 3, blk_cell h 4, blk_cell h 5, blk_cell h 6⟩

/-- The name passes its check. -/
def Passes (x : Nm) : Prop := ∀ W, Calls Tryz.prog 155 #[x.v] W fun e W' => e = .returned (.int .i64 0) ∧ Below W.heap.size W W'

theorem ownsRow_le {W : World} {b : Nat} {e : TypeId} {size : Nat} {v : Value} {k : Nat} {xs : List Value} (h : W.ownsRow b e size v k xs) : ∀ g, v.ownBlock = some g → b ≤ g := by
  intro g' e'
  rcases h.2 with ⟨rfl, _⟩ | ⟨g, cap, cur, rfl, hb, hg, _⟩
  · simp [Value.ownBlock] at e'
  · obtain rfl : g = g' := by simpa [Value.ownBlock] using e'
    exact hb

theorem ownsRow_drew {W : World} {b : Nat} {e : TypeId} {size : Nat} {v : Value} {k : Nat} {xs : List Value} (h : W.ownsRow b e size v k xs) : W.drew.ownsRow b e size v k xs := h

theorem wpList_upd {ops : Array Oper} {rest : List Oper} {o : Oper} {a : Act} {w : World} {Q : Exit → Act → World → Prop} (hg : o.guard = none) (m k e : Operand) (ho : o.op = .mapUpdate 192 m k e) (b : Nat) (hm : a.eval m = .map (some b))
    (x : Nm) (c : Ch) (hk : a.eval k = x.v) (he : a.eval e = chV x c) (L : List (Nm × Ch)) (hL : MapIs w b L) (hx : x.ok)
    (h : ∀ w', MapIs w' b (upd L x c) → Fr (fun k => k = b) w w' → wpList Tryz.prog ops Q rest (a.put o.dst undef) w') : wpList Tryz.prog ops Q (o :: rest) a w := by
  refine wpList_plain hg fun K hK => ?_
  obtain ⟨w', hr, h1, h2⟩ := run_upd hL hx c
  unfold Oper.wp execOp
  simp only [ho, hm, hk, he, hr, Sem.run_bind, Result.andThen_ok]
  exact hK _ _ (h w' h1 h2)

theorem view_mk {w1 wc w4 : World} {v : VW} {g : Nm → Option ByteArray} {R N' : List (Nm × Ch)} {m : Nat} {N : List (Nm × Ch)} {base cv cv' : Value} {xs' : List Value}
    (hbase : Base w1 base g) (HV : w1.heap[v.vb]? = some (.cells #[base, .map (some v.rb), cv, .map (some v.nb)] 194 (0, 0)))
    (HVc : wc.heap[v.vb]? = some (.cells #[base, .map (some v.rb), cv', .map (some v.nb)] 194 (0, 0))) (hownc : wc.ownsRow 0 149 7 cv' m xs') (honec : ∀ u ∈ xs', u.oneCell' = true) (hFc : Fr (fun k => k = v.vb) w1 wc)
    (hNc : MapIs wc v.nb N) (hRc : MapIs wc v.rb R) (hne : v.rb ≠ v.nb) (hF4 : Fr (fun k => k = v.nb) wc.drew w4) (hN4 : MapIs w4 v.nb N') : IsView w4 v g R N' m := by
  have hvn : v.vb ≠ v.nb := fun e => hNc.not_cells (by rw [← e]; exact HVc)
  have hF4' : Fr (fun k => k = v.nb) wc w4 := ((Fr.refl _ wc).drew).trans hF4
  refine ⟨⟨base, cv', xs', (hbase.keep (KeepT.of_fr hFc ?_)).keep (KeepT.of_fr hF4' ?_), hF4'.heap hvn HVc, owns_fr hownc hF4' ?_, honec⟩, hRc.keep (hF4'.block _ hRc.lt hne), hN4, hne⟩
  · intro k c t f hk hc
    rw [hk, HV] at hc
    cases hc
    simp [StT]
  · intro k c t f hk hc
    rw [hk] at hc
    exact (hNc.not_cells hc).elim
  · intro k c f hk hc
    rw [hk] at hc
    exact hNc.not_cells hc

set_option maxRecDepth 100000 in
set_option maxHeartbeats 8000000 in
theorem call_ok (w : World) (v : VW) (g : Nm → Option ByteArray) (R N : List (Nm × Ch)) (m : Nat) (hv : IsView w v g R N m) (x : Nm) (hx : x.ok) (hp : Passes x) (c : Ch) (hc : c.val.size ≤ 65536) (hm : m < 1000000) :
    Calls Tryz.prog 136 #[v.p, chV x c] w fun e w' => e = .returned (.int .i64 0) ∧ IsView w' v g R (upd N x c) (m + 1) ∧ Fr v.S w w' := by
  obtain ⟨i0, hi, hz0, hz1, hz2⟩ := info_parts info149
  unfold VW.p chV
  unfold Passes Nm.v at hp
  go_enter Tryz.func136, Tryz.ntmps136
  go_wp2_with (go_at_call 155; refine (hp _).mono ?_; rintro e w1 ⟨rfl, hB⟩; have hbox := hB.heapS (blk_new w _); obtain ⟨c0, c1, c2, c3, c4, c5, c6⟩ := blk7 hbox)
  have hB1 : Below w.heap.size w w1 := (below_new1 w _).trans' hB
  have hv1 := hv.below hB1
  obtain ⟨⟨base, cv, xs, hbase, HV, hown, hone⟩, hR, hN, hne⟩ := id hv1
  have hlt1 : w.heap.size < w1.heap.size := lt_of_block hbox
  have hvlt := lt_of_block HV
  obtain ⟨b0, b1, b2, b3⟩ : w1.cell? ⟨v.vb, 0, none⟩ = _ ∧ w1.cell? ⟨v.vb, 1, none⟩ = _ ∧ w1.cell? ⟨v.vb, 2, none⟩ = _ ∧ w1.cell? ⟨v.vb, 3, none⟩ = _ := ⟨blk_cell HV 0, blk_cell HV 1, blk_cell HV 2, blk_cell HV 3⟩
  simp only [List.getElem?_toArray, List.getElem?_cons_zero, List.getElem?_cons_succ] at b0 b1 b2 b3
  clear hp hB hv
  go_cut [] from 18 to 28 (fun wx => ∃ cv' xs', wx.heap[v.vb]? = some (.cells #[base, .map (some v.rb), cv', .map (some v.nb)] 194 (0, 0)) ∧ wx.ownsRow 0 149 7 cv' (m + 1) xs' ∧ (∀ u ∈ xs', u.oneCell' = true) ∧ Fr (fun k => k = v.vb) w1 wx)
  case first =>
    go_region_law (first | (refine step_append_lies _ rfl _ _ 113 rfl w1.heap.size 149 i0 _ 7 80 Tryz.underlying113 hi hz0 hz1 hz2 rfl (by decide) _ m xs rfl (by first | exact hcl | exact hcl.alloc _) ⟨_, 0, none⟩ 1 1 [.int .i64 x.k, .string x.o, .int .i64 x.n, .int .i64 x.i, .string x.t, .string c.val, .bool c.absent] rfl rfl (by first | exact World.news_of_block hnew | exact World.news_of_block (blk_new w' _)) (by simp [Value.oneCell']) (by decide) (by unfold maxLen; omega) (by omega) (by first | exact hBc.size | (simp; exact Nat.le_succ_of_le hBc.size)) _ rfl ?_; intro g' cap' w3 hown3 hgr3 hat3 hlt3; have hB3 : Below w1.heap.size w1 w3 := Below.grown (by first | exact hBc | exact hBc.drew | exact hBc.drew.drew | exact hBc.alloc hBc.size _ | exact (hBc.alloc hBc.size _).drew | exact (hBc.alloc hBc.size _).drew.drew) hgr3 (by first | exact hBc.size | (simp; exact Nat.le_succ_of_le hBc.size)) (fun k e => ownsRow_le hcl k e); have HV3 := hB3.heap' hvlt HV; have k2 := blk_cell HV3 2; have k3 := blk_free HV3 2; simp only [List.getElem?_toArray, List.getElem?_cons_zero, List.getElem?_cons_succ] at k2) | (go_simp; go_at_call 175; refine (clone_any _ _ m xs (by first | exact hown | exact hown.alloc _) hone (by omega)).mono ?_; rintro e w' ⟨a, c', rfl, ho, hB⟩; have hBc : Below w1.heap.size w1 w' := (by first | exact hB | exact (Below.refl _ w1).drew.trans' hB | exact (below_new1 w1 _).trans' hB | exact (below_new1 w1 _).drew.trans' hB | exact (below_new1 w1 _).drew.drew.trans' hB); have hcl := ownsRow_mono ho (b' := w1.heap.size) (by simp); obtain ⟨d0, d1, d2, d3, d4, d5, d6⟩ := blk7 (hBc.heap' hlt1 hbox); have hlt2 : w.heap.size < w'.heap.size := (by have := hBc.size; omega); try have hnew := hB.heapS (blk_new w1 _)))
    all_goals (go_wp2_with fail; go_meet)
    all_goals exact ⟨_, _, blk_set HV3 2 _, owns_fr (S := fun k => k = v.vb) (ownsRow_mono hown3 (Nat.zero_le _)) ((Fr.refl (fun k => k = v.vb) w3).setCell (a := ⟨v.vb, 2, none⟩) (.inl rfl) _) (fun g c f hg hc => by subst hg; rw [HV3] at hc; cases hc), (by
      intro u hu
      rcases List.mem_append.1 hu with hu | hu
      · exact hone u hu
      · simp at hu
        rcases hu with rfl | rfl | rfl | rfl | rfl | rfl | rfl <;> rfl), (Fr.of_below (S := fun k => k = v.vb) hB3).setCell (a := ⟨v.vb, 2, none⟩) (.inl rfl) _⟩
  case rest =>
    obtain ⟨cv', xs', HVc, hownc, honec, hFc⟩ := hcut
    have hNc : MapIs wc v.nb N := hN.keep (hFc.block _ hN.lt (fun e => hN.not_cells (by rw [e]; exact HV)))
    have hRc : MapIs wc v.rb R := hR.keep (hFc.block _ hR.lt (fun e => hR.not_cells (by rw [e]; exact HV)))
    have hboxc := hFc.heap (k := w.heap.size) (fun e => by rw [e] at hbox; rw [HV] at hbox; cases hbox) hbox
    obtain ⟨d0, d1, d2, d3, d4, d5, d6⟩ := blk7 hboxc
    have e3 := blk_cell HVc 3
    simp only [List.getElem?_toArray, List.getElem?_cons_zero, List.getElem?_cons_succ] at e3
    go_wp2_with fail
    go_still_tail 7, (by kernel_rfl)
    change wpList _ _ _ _ _ wc.drew
    refine wpList_upd rfl _ _ _ rfl v.nb rfl x c rfl rfl N hNc hx ?_
    intro w4 hN4 hF4
    go_wp2_with fail
    go_ret
    exact ⟨rfl, view_mk hbase HV HVc hownc honec hFc hNc hRc hne hF4 hN4, ((Fr.of_below hB1).trans ((hFc.mono fun _ h => .inl h).trans ((Fr.refl _ _).drew))).trans (hF4.mono fun _ h => .inr (.inr h))⟩

end Go.Proofs.YtdjjfjnkkgmadaaGreatDoor
