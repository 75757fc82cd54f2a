/-
  view: Set, Delete, Get, Has.
-/
import Derived.Test.YtdjjfjnkkgmadaaGreatDoorView
namespace Go.Proofs.YtdjjfjnkkgmadaaGreatDoor
open Go Go.RowKit

set_option maxRecDepth 100000 in
theorem set_via (w : World) (a : Option Addr) (x : Nm) (val : ByteArray) (R : Int → World → Prop)
    (h : ∀ W, Below w.heap.size w W → Calls Tryz.prog 136 #[.pointer a, chV x ⟨val, false⟩] W fun e w' => ∃ r, e = .returned (.int .i64 r) ∧ R r w') :
    Calls Tryz.prog 61 #[.pointer a, x.v, .string val] w fun e w' => ∃ r, e = .returned (.int .i64 r) ∧ R r w' := by
  have h' := h _ (below_new1 w (.cells #[.int .i64 x.k, .string x.o, .int .i64 x.n, .int .i64 x.i, .string x.t] 91))
  clear h
  unfold chV at h'
  unfold Nm.v
  go_enter Tryz.func61, Tryz.ntmps61
  go_wp2_with (go_at_call 136; refine h'.mono ?_; rintro e w' ⟨r, rfl, hR⟩)
  go_ret
  exact ⟨r, rfl, hR⟩

set_option maxRecDepth 100000 in
theorem delete_via (w : World) (a : Option Addr) (x : Nm) (R : Int → World → Prop)
    (h : ∀ W, Below w.heap.size w W → Calls Tryz.prog 136 #[.pointer a, chV x ⟨⟨#[]⟩, true⟩] W fun e w' => ∃ r, e = .returned (.int .i64 r) ∧ R r w') :
    Calls Tryz.prog 134 #[.pointer a, x.v] w fun e w' => ∃ r, e = .returned (.int .i64 r) ∧ R r w' := by
  have h' := h _ (below_new1 w (.cells #[.int .i64 x.k, .string x.o, .int .i64 x.n, .int .i64 x.i, .string x.t] 91))
  clear h
  unfold chV at h'
  unfold Nm.v
  go_enter Tryz.func134, Tryz.ntmps134
  go_wp2_with (go_at_call 136; refine h'.mono ?_; rintro e w' ⟨r, rfl, hR⟩)
  go_ret
  exact ⟨r, rfl, hR⟩

theorem set_ok (w : World) (v : VW) (g : Nm → Option ByteArray) (R N : List (Nm × Ch)) (m : Nat) (hv : IsView w v g R N m) (x : Nm) (hx : x.ok) (hp : Passes x) (val : ByteArray) (hc : val.size ≤ 65536) (hm : m < 1000000) :
    Calls Tryz.prog 61 #[v.p, x.v, .string val] w fun e w' => e = .returned (.int .i64 0) ∧ IsView w' v g R (upd N x ⟨val, false⟩) (m + 1) ∧ Fr v.S w w' := by
  refine (set_via w _ x val (fun r w' => r = 0 ∧ IsView w' v g R (upd N x ⟨val, false⟩) (m + 1) ∧ Fr v.S w w') fun W hB => ?_).mono ?_
  · refine (call_ok W v g R N m (hv.below hB) x hx hp ⟨val, false⟩ hc hm).mono ?_
    rintro e w' ⟨rfl, h1, h2⟩
    exact ⟨0, rfl, rfl, h1, (Fr.of_below hB).trans h2⟩
  · rintro e w' ⟨r, rfl, rfl, h1, h2⟩
    exact ⟨rfl, h1, h2⟩

theorem delete_ok (w : World) (v : VW) (g : Nm → Option ByteArray) (R N : List (Nm × Ch)) (m : Nat) (hv : IsView w v g R N m) (x : Nm) (hx : x.ok) (hp : Passes x) (hm : m < 1000000) :
    Calls Tryz.prog 134 #[v.p, x.v] w fun e w' => e = .returned (.int .i64 0) ∧ IsView w' v g R (upd N x ⟨⟨#[]⟩, true⟩) (m + 1) ∧ Fr v.S w w' := by
  refine (delete_via w _ x (fun r w' => r = 0 ∧ IsView w' v g R (upd N x ⟨⟨#[]⟩, true⟩) (m + 1) ∧ Fr v.S w w') fun W hB => ?_).mono ?_
  · refine (call_ok W v g R N m (hv.below hB) x hx hp ⟨⟨#[]⟩, true⟩ (by decide) hm).mono ?_
    rintro e w' ⟨rfl, h1, h2⟩
    exact ⟨0, rfl, rfl, h1, (Fr.of_below hB).trans h2⟩
  · rintro e w' ⟨r, rfl, rfl, h1, h2⟩
    exact ⟨rfl, h1, h2⟩

/-- What a view shows. -/
def shows (g : Nm → Option ByteArray) (N : List (Nm × Ch)) (x : Nm) : Option ByteArray :=
  match look N x with
  | some c => if c.absent then none else some c.val
  | none => g x

set_option maxRecDepth 100000 in
set_option maxHeartbeats 8000000 in
theorem get_now (w : World) (v : VW) (g : Nm → Option ByteArray) (R N : List (Nm × Ch)) (m : Nat) (hv : IsView w v g R N m) (x : Nm) (hx : x.ok) (hp : Passes x) (c : Ch) (hl : look N x = some c) :
    Calls Tryz.prog 123 #[v.p, x.v] w fun e w' => e = .returned (.tuple #[.string c.val, .bool (!c.absent)]) ∧ Below w.heap.size w w' := by
  unfold VW.p
  unfold Passes Nm.v at hp
  unfold Nm.v
  go_enter Tryz.func123, Tryz.ntmps123
  go_wp2_with (go_at_call 155; refine (hp _).mono ?_; rintro e w1 ⟨rfl, hB⟩; have hbox := hB.heapS (blk_new w _); obtain ⟨c0, c1, c2, c3, c4⟩ := blk5 hbox)
  have hB1 : Below w.heap.size w w1 := (below_new1 w _).trans' hB
  have hv1 := hv.below hB1
  obtain ⟨⟨base, cv, xs, hbase, HV, hown, hone⟩, hR, hN, hne⟩ := id hv1
  have hlt1 : w.heap.size < w1.heap.size := lt_of_block hbox
  have hvlt := lt_of_block HV
  have b3 := blk_cell HV 3
  simp only [List.getElem?_toArray, List.getElem?_cons_zero, List.getElem?_cons_succ] at b3
  have e0 := run_look hN hx
  have e1 := run_look (w := w1.drew) hN hx
  have e2 := run_look (w := w1.drew.drew) hN hx
  have hNa : MapIs (w1.alloc (.cells #[.int .i64 0, .string ⟨#[]⟩, .int .i64 0, .int .i64 0, .string ⟨#[]⟩, .string ⟨#[]⟩, .bool false] 149)) v.nb N := hN.keep (Below.heap_alloc w1 _ _ hN.lt)
  have e3 := run_look hNa hx
  have e4 := run_look (w := (w1.alloc (.cells #[.int .i64 0, .string ⟨#[]⟩, .int .i64 0, .int .i64 0, .string ⟨#[]⟩, .string ⟨#[]⟩, .bool false] 149)).drew) hNa hx
  have e5 := run_look (w := (w1.alloc (.cells #[.int .i64 0, .string ⟨#[]⟩, .int .i64 0, .int .i64 0, .string ⟨#[]⟩, .string ⟨#[]⟩, .bool false] 149)).drew.drew) hNa hx
  rw [hl] at e0 e1 e2 e3 e4 e5
  unfold Nm.v chV at e0 e1 e2 e3 e4 e5
  simp only at e0 e1 e2 e3 e4 e5
  clear hp hB hv
  go_cut [6, 7] from 17 to 25 (fun s6 s7 wx => ∃ cb, s6 = .pointer (some ⟨cb, 0, none⟩) ∧ s7 = .bool true ∧ wx.heap[cb]? = some (.cells #[.int .i64 x.k, .string x.o, .int .i64 x.n, .int .i64 x.i, .string x.t, .string c.val, .bool c.absent] 149 (0, 0)) ∧ Below w1.heap.size w1 wx)
  case first =>
    go_region
    all_goals (go_wp2_with fail; go_meet)
    all_goals exact ⟨_, rfl, rfl, blk_new w1 _, (below_new1 w1 _).drew⟩
  case rest =>
    obtain ⟨cb, rfl, rfl, hcb, hB2⟩ := hcut
    obtain ⟨d0, d1, d2, d3, d4, d5, d6⟩ := blk7 hcb
    clear e0 e1 e2 e3 e4 e5
    go_wp2_with fail
    go_quiet (fail)
    go_wp2_with fail
    go_ret2
    exact ⟨rfl, hB1.trans' (hB2.drewN _)⟩

theorem view_mk2 {wc w4 : World} {v : VW} {g : Nm → Option ByteArray} {R R' N : List (Nm × Ch)} {m : Nat} (h : IsView wc v g R N m) (hF4 : Fr (fun k => k = v.rb) wc.drew w4) (hR4 : MapIs w4 v.rb R') : IsView w4 v g R' N m := by
  obtain ⟨⟨base, cv, xs, h1, h2, h3, h4⟩, h5, h6, h7⟩ := h
  have hF4' : Fr (fun k => k = v.rb) wc w4 := ((Fr.refl _ wc).drew).trans hF4
  have hvn : v.vb ≠ v.rb := fun e => h5.not_cells (by rw [← e]; exact h2)
  refine ⟨⟨base, cv, xs, h1.keep (KeepT.of_fr hF4' ?_), hF4'.heap hvn h2, owns_fr h3 hF4' ?_, h4⟩, hR4, h6.keep (hF4'.block _ h6.lt (Ne.symm h7)), h7⟩
  · intro k c t f hk hc
    rw [hk] at hc
    exact (h5.not_cells hc).elim
  · intro k c f hk hc
    rw [hk] at hc
    exact h5.not_cells hc

set_option maxRecDepth 100000 in
set_option maxHeartbeats 8000000 in
theorem get_base (w : World) (v : VW) (g : Nm → Option ByteArray) (R N : List (Nm × Ch)) (m : Nat) (hv : IsView w v g R N m) (x : Nm) (hx : x.ok) (hp : Passes x) (hl : look N x = none) :
    Calls Tryz.prog 123 #[v.p, x.v] w fun e w' => e = .returned (.tuple #[.string ((g x).getD ⟨#[]⟩), .bool (g x).isSome]) ∧ IsView w' v g (upd R x ⟨(g x).getD ⟨#[]⟩, !(g x).isSome⟩) N m ∧ Fr v.S w w' := by
  unfold VW.p
  unfold Passes Nm.v at hp
  unfold Nm.v
  go_enter Tryz.func123, Tryz.ntmps123
  go_wp2_with (go_at_call 155; refine (hp _).mono ?_; rintro e w1 ⟨rfl, hB⟩; have hbox := hB.heapS (blk_new w _); obtain ⟨c0, c1, c2, c3, c4⟩ := blk5 hbox)
  have hB1 : Below w.heap.size w w1 := (below_new1 w _).trans' hB
  have hv1 := hv.below hB1
  obtain ⟨⟨base, cv, xs, hbase, HV, hown, hone⟩, hR, hN, hne⟩ := id hv1
  have hlt1 : w.heap.size < w1.heap.size := lt_of_block hbox
  have hvlt := lt_of_block HV
  have b3 := blk_cell HV 3
  simp only [List.getElem?_toArray, List.getElem?_cons_zero, List.getElem?_cons_succ] at b3
  have b0 := blk_cell HV 0
  have b1 := blk_cell HV 1
  simp only [List.getElem?_toArray, List.getElem?_cons_zero, List.getElem?_cons_succ] at b0 b1
  have e0 := run_look hN hx
  have e1 := run_look (w := w1.drew) hN hx
  have e2 := run_look (w := w1.drew.drew) hN hx
  have hNa : MapIs (w1.alloc (.cells #[.int .i64 0, .string ⟨#[]⟩, .int .i64 0, .int .i64 0, .string ⟨#[]⟩, .string ⟨#[]⟩, .bool false] 149)) v.nb N := hN.keep (Below.heap_alloc w1 _ _ hN.lt)
  have e3 := run_look hNa hx
  have e4 := run_look (w := (w1.alloc (.cells #[.int .i64 0, .string ⟨#[]⟩, .int .i64 0, .int .i64 0, .string ⟨#[]⟩, .string ⟨#[]⟩, .bool false] 149)).drew) hNa hx
  have e5 := run_look (w := (w1.alloc (.cells #[.int .i64 0, .string ⟨#[]⟩, .int .i64 0, .int .i64 0, .string ⟨#[]⟩, .string ⟨#[]⟩, .bool false] 149)).drew.drew) hNa hx
  rw [hl] at e0 e1 e2 e3 e4 e5
  unfold Nm.v chV at e0 e1 e2 e3 e4 e5
  simp only at e0 e1 e2 e3 e4 e5
  clear hp hB hv
  go_cut [6, 7] from 17 to 25 (fun s6 s7 wx => ∃ cb, s6 = .pointer (some ⟨cb, 0, none⟩) ∧ s7 = .bool false ∧ wx.heap[cb]? = some (.cells #[.int .i64 0, .string ⟨#[]⟩, .int .i64 0, .int .i64 0, .string ⟨#[]⟩, .string ⟨#[]⟩, .bool false] 149 (0, 0)) ∧ Below w1.heap.size w1 wx)
  case first =>
    go_region
    all_goals (go_wp2_with fail; go_meet)
    all_goals exact ⟨_, rfl, rfl, blk_new w1 _, (below_new1 w1 _).drew⟩
  case rest =>
    obtain ⟨cb, rfl, rfl, hcb, hB2⟩ := hcut
    clear e0 e1 e2 e3 e4 e5 hNa
    have hv2 := hv1.below hB2
    have hbase2 := hbase.keep (KeepT.of_below hB2)
    have HV2 := hB2.heapS HV
    have hbox2 := hB2.heapS hbox
    have hg : ∀ W, KeepT StT wc W → Calls Tryz.prog 154 #[base, x.v] W fun e W' => e = .returned (.tuple #[.string ((g x).getD ⟨#[]⟩), .bool (g x).isSome]) ∧ Below W.heap.size W W' := fun W hW => hbase2.2 W hW x hx
    unfold Nm.v at hg
    generalize hval : (g x).getD ⟨#[]⟩ = val at *
    generalize his : (g x).isSome = is at *
    have Hval := Lib.hid hval
    have His := Lib.hid his
    clear hval his
    obtain ⟨q0, q1, q2, q3⟩ : wc.cell? ⟨v.vb, 0, none⟩ = _ ∧ wc.cell? ⟨v.vb, 1, none⟩ = _ ∧ wc.cell? ⟨v.vb, 2, none⟩ = _ ∧ wc.cell? ⟨v.vb, 3, none⟩ = _ := ⟨blk_cell HV2 0, blk_cell HV2 1, blk_cell HV2 2, blk_cell HV2 3⟩
    simp only [List.getElem?_toArray, List.getElem?_cons_zero, List.getElem?_cons_succ] at q0 q1 q2 q3
    obtain ⟨d0, d1, d2, d3, d4⟩ := blk5 hbox2
    go_wp2_with fail
    go_cut [8, 9] from 32 to 40 (fun s8 s9 wx => s8 = .string val ∧ s9 = .bool is ∧ Below wc.heap.size wc wx)
    case first =>
      go_region_with (go_at_call 154; refine (hg _ (by first | exact KeepT.refl _ _ | exact (KeepT.refl _ wc).drewN 1)).mono ?_; rintro e w' ⟨rfl, hB⟩; have hB3 : Below wc.heap.size wc w' := (by first | exact hB | exact (Below.refl _ wc).drew.trans' hB))
      all_goals (go_wp2_with fail; go_meet)
      all_goals first
        | exact ⟨rfl, rfl, hB3⟩
        | exact ⟨rfl, rfl, hB3.drew⟩
    case rest =>
      obtain ⟨rfl, rfl, hB3⟩ := hcut
      have hv3 := hv2.below hB3
      have HV3 := hB3.heapS HV2
      obtain ⟨f0, f1, f2, f3, f4⟩ := blk5 (hB3.heapS hbox2)
      have g1 := blk_cell HV3 1
      simp only [List.getElem?_toArray, List.getElem?_cons_zero, List.getElem?_cons_succ] at g1
      clear hg
      go_wp2_with fail
      go_still_tail 10, (by kernel_rfl)
      change wpList _ _ _ _ _ wc.drew
      refine wpList_upd rfl _ _ _ rfl v.rb rfl x ⟨val, !is⟩ rfl rfl R hv3.rd hx ?_
      intro w4 hR4 hF4
      go_wp2_with fail
      go_ret2
      obtain rfl := Hval.out
      obtain rfl := His.out
      exact ⟨rfl, view_mk2 hv3 hF4 hR4, (Fr.of_below ((hB1.trans' hB2).trans' hB3)).trans (((Fr.refl _ _).drew).trans (hF4.mono fun _ h => .inr (.inl h)))⟩

end Go.Proofs.YtdjjfjnkkgmadaaGreatDoor
