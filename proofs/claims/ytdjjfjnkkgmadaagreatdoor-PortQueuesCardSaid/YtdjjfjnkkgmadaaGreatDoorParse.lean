/-
  lineage.parse and lineage.Valid.
-/
import Derived.Test.YtdjjfjnkkgmadaaGreatDoorParts
import Derived.RangeFuncBox
import Derived.RegionIn
import Derived.Maps.AppendAt
namespace Go.Proofs.YtdjjfjnkkgmadaaGreatDoor
open Go Go.RowKit Go.Shelf
attribute [local go_sem] Oper.semAt_some

theorem parts_any (s : ByteArray) (w : World) :
    Calls Tryz.prog 187 #[.string s] w fun e w' => e = .returned (.func (.func 214) #[] #[.pointer (some ⟨w.heap.size, 0, none⟩)]) ∧ w' = w.alloc (.cells #[.string s] 9) := by
  have hmf : ∀ (fn : Fn) (first cap : Array Value) (w : World), (Instr.makeFunc fn first cap).run Tryz.prog w = .ok (.func fn first cap) w := fun _ _ _ _ => rfl
  go_enter Tryz.func187, Tryz.ntmps187
  go_wp2
  go_ret
  exact ⟨rfl, rfl⟩

theorem KeepT.grown {T : TypeId → Prop} {W W' : World} {row : Option Nat} (hg : W.grownBy W' row) (hr : ∀ k, row = some k → ∃ (cur : Array Value) (e : TypeId) (f : Nat × Nat), W.heap[k]? = some (Obj.cells cur e f) ∧ ¬ T e) : KeepT T W W' := by
  intro k c t f hk ht
  refine (hg.block k (lt_of_block hk) (fun e => ?_)).trans hk
  obtain ⟨cur, e', f', h1, h2⟩ := hr k e.symm
  rw [hk] at h1
  cases h1
  exact h2 ht

theorem info3 : (Tryz.prog.info? 3).map (fun i => (i.zero, i.size, i.bytes)) = some (some (.int .i64 0), 1, 8) := by kernel_rfl

theorem PKp_t {A B C : World} (h : PKp A B) (k : PKp B C) : PKp A C := KeepT.trans h k
theorem PKp_b (W : World) (l : Nat) (o o' : Obj) (h : W.heap[l]? = some o) (hc : o.isCells = false) : PKp W (W.putObj l o') := by
  intro k c t f hk _
  by_cases e : k = l
  · subst e; rw [hk] at h; cases h; cases hc
  · rw [← hk]; exact (grownBy_putObj' W l o').block k (lt_of_block hk) (fun e' => e (Option.some.inj e'))

theorem results_3 {P : Program} {fn : Func} {w : World} {p q r : Nat} {a b c : Tmp} {ta tb tc : TypeId} {x y z : Value} (h : fn.results = #[.cell a ta, .cell b tb, .cell c tc]) (tmps : Array Value)
    (ha : tmps.getD a undef = .pointer (some ⟨p, 0, none⟩)) (hb : tmps.getD b undef = .pointer (some ⟨q, 0, none⟩)) (hc : tmps.getD c undef = .pointer (some ⟨r, 0, none⟩))
    (hx : (loadVar ta ⟨p, 0, none⟩).run P w = .ok x w) (hy : (loadVar tb ⟨q, 0, none⟩).run P w = .ok y w) (hz : (loadVar tc ⟨r, 0, none⟩).run P w = .ok z w) :
    (results fn tmps).run P w = .ok (.tuple #[x, y, z]) w := by
  rw [Array.getD_eq_getD_getElem?] at ha hb hc
  simp only [results, h]
  simp [ha, hb, hc, asAddr, hx, hy, hz, Sem.run_bind, Result.andThen]

theorem ownsRow_mono {W : World} {b b' : Nat} {e : TypeId} {size : Nat} {v : Value} {k : Nat} {xs : List Value} (h : W.ownsRow b e size v k xs) (hb : b' ≤ b) : W.ownsRow b' e size v k xs := by
  refine ⟨h.1, h.2.imp id ?_⟩
  rintro ⟨g, cap, cur, rfl, h1, h2⟩
  exact ⟨g, cap, cur, rfl, Nat.le_trans hb h1, h2⟩

theorem ownsRow_ne {W : World} {b : Nat} {e : TypeId} {size : Nat} {v : Value} {k : Nat} {xs : List Value} (h : W.ownsRow b e size v k xs) {c : Nat} (hc : c < b) : some c ≠ v.ownBlock := by
  rcases h.2 with ⟨rfl, _⟩ | ⟨g, cap, cur, rfl, hb, _⟩
  · simp [Value.ownBlock]
  · intro e'
    have : c = g := by simpa [Value.ownBlock] using e'
    omega

theorem ownsRow_row {W : World} {b : Nat} {e : TypeId} {size : Nat} {v : Value} {k : Nat} {xs : List Value} (h : W.ownsRow b e size v k xs) : ∀ g, v.ownBlock = some g → ∃ cur f, W.heap[g]? = some (.cells cur e f) := by
  intro g' e'
  rcases h.2 with ⟨rfl, _⟩ | ⟨g, cap, cur, rfl, hb, hg, _⟩
  · simp [Value.ownBlock] at e'
  · obtain rfl : g = g' := by simpa [Value.ownBlock] using e'
    exact ⟨_, _, hg⟩

theorem KeepT.setBox {T : TypeId → Prop} {W : World} {b : Nat} {t : TypeId} {v : Value} (h : Boxed W b t v) (ht : ¬ T t) (u : Value) : KeepT T W (W.setCell ⟨b, 0, none⟩ u) :=
  (KeepT.refl T W).setCell (a := ⟨b, 0, none⟩) (show W.heap[b]? = _ from h) ht u

theorem loadVar_put {W : World} {b l : Nat} {t : TypeId} {v : Value} {o o' : Obj} (h : Boxed W b t v) (hl : W.heap[l]? = some o) (ho : o.isCells = false) (ht : ∀ w, (isAgg t).run Tryz.prog w = .ok false w) :
    (loadVar t ⟨b, 0, none⟩).run Tryz.prog (W.putObj l o') = .ok v (W.putObj l o') := by
  have hne : b ≠ l := fun e => by subst e; rw [show W.heap[b]? = _ from h] at hl; cases hl; cases ho
  have h2 : Boxed (W.putObj l o') b t v := h.kept (grownBy_putObj' W l o') (fun e => hne (by cases e; rfl))
  have hc := h2.cell
  simp [go_sem, hc, ht]

/-- The ordinals, as values. -/
def ordV (l : List Ln.Part) : List Value := l.map fun p => .int .i64 p.ord

set_option maxRecDepth 100000 in
theorem parts1_empty (s : ByteArray) (n l Bn : Nat) (J Jx : List Ln.Part → World → Prop) (W0 : World)
    (hBn : W0.heap[Bn]? = some (.cells #[.string s] 9 (0, 0))) (h0 : J [] W0) (hs0 : s.size = 0) :
    CallsIn Fence.wide n Tryz.prog 214 #[.func (.yield l) #[] #[], .pointer (some ⟨Bn, 0, none⟩)] W0 fun e W' => (∃ v, e = .returned v) ∧
      ((∃ ys, ys = Ln.all s.data.toList ∧ J ys W') ∨ (∃ pre, pre <+: Ln.all s.data.toList ∧ Jx pre W')) := by
  have hd : s.data.toList = [] := List.eq_nil_of_length_eq_zero (by rw [dl, hs0])
  have hne : s.toList = [] := by rw [ByteArray.toList_eq, hd]
  have ha : Ln.all s.data.toList = [] := by rw [Ln.all, if_pos hd]
  rw [ha]
  have hcs := blk_cell hBn 0
  simp only [List.getElem?_toArray, List.getElem?_cons_zero] at hcs
  clear hd ha
  refine callsIn_of_wp Tryz.func214 rfl trivial ?_ rfl
  simp only [Tryz.ntmps214, List.size_toArray, List.length_cons, List.length_nil, Nat.reduceAdd, Nat.reduceSub, Array.replicate_succ, Array.replicate_zero, List.push_toArray, List.append_toArray, List.nil_append, List.cons_append]
  gi_wp2
  gi_loopw [3, 4] (fun t3 t4 wr => wr = W0) (fun _ t4 _ => 0)
  case atStart => rfl
  case round =>
    obtain rfl := hrel
    gi_wp2
    go_end0
    exact ⟨⟨_, rfl⟩, .inl ⟨[], rfl, h0⟩⟩

theorem parts_stops (s : ByteArray) (hs : s.size ≤ maxLen) (Bn : Nat) (W0 : World) (bS : Boxed W0 Bn 9 (.string s)) :
    SeqStopsK Fence.wide (3 - 1) Tryz.prog 214 #[.pointer (some ⟨Bn, 0, none⟩)] (fun x : Ln.Part => #[encPart x]) PKp (fun ys => ys = Ln.all s.data.toList) (fun pre => pre <+: Ln.all s.data.toList) 9 W0 := by
  intro l J Jx W hW hJ _ hY h0
  by_cases hs0 : s.size = 0
  · exact parts1_empty s (3 - 1) l Bn J Jx W ((hW.block _ bS.lt).trans bS) h0 hs0
  · exact parts1_in s hs (3 - 1) l Bn J Jx W hJ hY ((hW.block _ bS.lt).trans bS) h0 (by omega) (by omega)

set_option maxRecDepth 100000 in
set_option maxHeartbeats 8000000 in
theorem lparse_any (s : ByteArray) (hs : s.size ≤ maxLen) (w : World) :
    Calls Tryz.prog 153 #[.string s] w fun e w' => Below w.heap.size w w' ∧ 
      ((Ln.valid s.data.toList = true ∧ ∃ v, e = .returned (.tuple #[v, .int .i64 0, .int .i64 0]) ∧ w'.ownsRow w.heap.size 3 1 v (Ln.all s.data.toList).length (ordV (Ln.all s.data.toList))) ∨
       (Ln.valid s.data.toList = false ∧ ∃ at_ e' : Int, e' ≠ 0 ∧ e = .returned (.tuple #[.slice none 0 0, .int .i64 at_, .int .i64 e']))) := by
  obtain ⟨i0, hi, hz0, hz1, hz2⟩ := info_parts info3
  refine (callsIn_wide (n := 3)).1 ?_
  refine callsIn_of_wp_marks Tryz.func153 rfl trivial ?_ rfl
  simp only [Tryz.ntmps153, List.size_toArray, List.length_cons, List.length_nil, Nat.reduceAdd, Nat.reduceSub, Array.replicate_succ, Array.replicate_zero, List.push_toArray, List.append_toArray, List.nil_append, List.cons_append]
  gi_wp2_with fail
  refine ⟨trivial, (callsIn_wide.2 (parts_any s _)).mono ?_⟩
  rintro e w1 ⟨rfl, rfl⟩
  gi_wp2_with fail
  have bR := ((((Boxed.new w 119 (.slice none 0 0)).alloc (.cells #[.int .i64 0] 3)).alloc (.cells #[.int .i64 0] 25)).alloc (.cells #[.slice none 0 0] 119)).alloc (.cells #[.string s] 9)
  have bA := (((Boxed.new (w.alloc (.cells #[.slice none 0 0] 119)) 3 (.int .i64 0)).alloc (.cells #[.int .i64 0] 25)).alloc (.cells #[.slice none 0 0] 119)).alloc (.cells #[.string s] 9)
  have bE := ((Boxed.new ((w.alloc (.cells #[.slice none 0 0] 119)).alloc (.cells #[.int .i64 0] 3)) 25 (.int .i64 0)).alloc (.cells #[.slice none 0 0] 119)).alloc (.cells #[.string s] 9)
  have bO := (Boxed.new (((w.alloc (.cells #[.slice none 0 0] 119)).alloc (.cells #[.int .i64 0] 3)).alloc (.cells #[.int .i64 0] 25)) 119 (.slice none 0 0)).alloc (.cells #[.string s] 9)
  have bS := Boxed.new ((((w.alloc (.cells #[.slice none 0 0] 119)).alloc (.cells #[.int .i64 0] 3)).alloc (.cells #[.int .i64 0] 25)).alloc (.cells #[.slice none 0 0] 119)) 9 (.string s)
  simp only [World.size_alloc] at bA bE bO bS
  have hB0 : Below w.heap.size w (((((w.alloc (.cells #[.slice none 0 0] 119)).alloc (.cells #[.int .i64 0] 3)).alloc (.cells #[.int .i64 0] 25)).alloc (.cells #[.slice none 0 0] 119)).alloc (.cells #[.string s] 9)) :=
    (((((Below.refl _ w).alloc (Nat.le_refl _) _).alloc (by simp) _).alloc (by simp; omega) _).alloc (by simp; omega) _).alloc (by simp; omega) _
  have hsz : (((((w.alloc (.cells #[.slice none 0 0] 119)).alloc (.cells #[.int .i64 0] 3)).alloc (.cells #[.int .i64 0] 25)).alloc (.cells #[.slice none 0 0] 119)).alloc (.cells #[.string s] 9)).heap.size = w.heap.size + 5 := by simp
  obtain ⟨W0, hW0⟩ : ∃ W0, (((((w.alloc (.cells #[.slice none 0 0] 119)).alloc (.cells #[.int .i64 0] 3)).alloc (.cells #[.int .i64 0] 25)).alloc (.cells #[.slice none 0 0] 119)).alloc (.cells #[.string s] 9)) = W0 := ⟨_, rfl⟩
  rw [hW0] at bR bA bE bO bS hB0 hsz ⊢
  clear hW0
  refine wpIn_rangeFunc_ownH rfl (by omega) (gf := 214) (lb := #[.pointer (some ⟨w.heap.size + 1 + 1 + 1 + 1, 0, none⟩)]) (encs := fun x : Ln.Part => #[encPart x]) (Kp := PKp) (S := fun ys => ys = Ln.all s.data.toList) (Sp := fun pre => pre <+: Ln.all s.data.toList) (N := 9) (w0 := W0) rfl trivial (enters_of Tryz.func214 (by kernel_rfl) rfl)
    (parts_stops s hs _ W0 bS) PKp_t (fun W l o o' _ h hc _ => PKp_b W l o o' h hc) (Below.refl _ _) (fun _ => rfl)
    (fun pre W => (Hid (pre.all (fun p => p.e = 0) = true) ∧ Boxed W w.heap.size 119 (.slice none 0 0) ∧ Boxed W (w.heap.size + 1) 3 (.int .i64 0) ∧ Boxed W (w.heap.size + 1 + 1) 25 (.int .i64 0) ∧ (∃ v, Boxed W (w.heap.size + 1 + 1 + 1) 119 v ∧ W.ownsRow (w.heap.size + 5) 3 1 v pre.length (ordV pre) ∧ True)) ∧ Below w.heap.size w W ∧ w.heap.size + 4 < W.heap.size)
    (fun c pre W => c = .ret ∧ (Hid (pre.all (fun p => p.e = 0) = false) ∧ Boxed W w.heap.size 119 (.slice none 0 0) ∧ (∃ at_ e : Int, e ≠ 0 ∧ Boxed W (w.heap.size + 1) 3 (.int .i64 at_) ∧ Boxed W (w.heap.size + 1 + 1) 25 (.int .i64 e))) ∧ Below w.heap.size w W)
    ?ownI ?ownIx
    ⟨⟨Lib.hid rfl, bR, bA, bE, ⟨_, bO, World.ownsRow_nil _ _ _ _, trivial⟩⟩, hB0, by omega⟩
    (fun x a' W => ∃ Bx, w.heap.size + 1 + 1 + 1 + 1 < Bx ∧ W.heap[Bx]? = some (.cells #[.int .i64 x.ord, .int .i64 x.at_, .int .i64 x.e] 284 (0, 0)) ∧ a' = { tmps := #[.string s, undef, .pointer (some ⟨w.heap.size, 0, none⟩), .pointer (some ⟨w.heap.size + 1, 0, none⟩), .pointer (some ⟨w.heap.size + 1 + 1, 0, none⟩), .pointer (some ⟨w.heap.size + 1 + 1 + 1, 0, none⟩), .pointer (some ⟨Bx, 0, none⟩), .string s, .func (.func 214) #[] #[.pointer (some ⟨w.heap.size + 1 + 1 + 1 + 1, 0, none⟩)], encPart x, undef, undef, undef, undef, undef, undef, undef, undef, undef, undef, undef, undef, undef], defers := [] })
    ?ownAx ?assign ?body ?done ?stop
  case ownI =>
    refine OwnFrom.and (OwnFrom.and (fun _ _ _ _ hs _ _ => hs) (OwnFrom.and (Own.from (boxed_own _ _ (fun _ => _)) _) (OwnFrom.and (Own.from (boxed_own _ _ (fun _ => _)) _) (OwnFrom.and (Own.from (boxed_own _ _ (fun _ => _)) _)
      (Own.from (holdsRow_own (w.heap.size + 5) (w.heap.size + 1 + 1 + 1) 119 3 1 (fun pre : List Ln.Part => pre.length) (fun pre => ordV pre) (fun _ _ => True)) _))))) (OwnFrom.and (ownFrom_below (Nat.le_refl _) (by omega)) ?_)
    intro pre X Y row hs hg _
    exact Nat.lt_of_lt_of_le hs hg.size
  case ownIx =>
    intro c
    refine OwnFrom.and (fun _ _ _ _ hs _ _ => hs) (OwnFrom.and (OwnFrom.and (fun _ _ _ _ hs _ _ => hs) (OwnFrom.and (Own.from (boxed_own _ _ (fun _ => _)) _) ?_)) (ownFrom_below (Nat.le_refl _) (by omega)))
    rintro pre X Y row ⟨a, e, h0, h1, h2⟩ hg hr
    exact ⟨a, e, h0, boxed_own _ _ (fun _ : Unit => _) () X Y row h1 hg (fun r e => (hr r e).2), boxed_own _ _ (fun _ : Unit => _) () X Y row h2 hg (fun r e => (hr r e).2)⟩
  case ownAx =>
    rintro x a' _ X Y row ⟨Bx, h1, h2, h3⟩ hg hr
    refine ⟨Bx, h1, (hg.block Bx (lt_of_block h2) (fun e => ?_)).trans h2, h3⟩
    obtain ⟨_, o, ho, hc⟩ := hr Bx e.symm
    rw [h2] at ho; cases ho; cases hc
  case assign =>
    rintro l pre x W K ⟨⟨hp, bR1, bA1, bE1, v, bO1, hrow, _⟩, hB1, hWs⟩ hK
    simp only [encPart]
    gi_wp2
    exact hK _ _ ((KeepsOthers.alloc _ _).from _) ((KeepT.refl _ W).alloc _) ⟨⟨hp, bR1.alloc _, bA1.alloc _, bE1.alloc _, v, bO1.alloc _, hrow.alloc _, trivial⟩, hB1.alloc hB1.size _, by simp; omega⟩ ⟨W.heap.size, hWs, blk_new W _, rfl⟩
  case body =>
    rintro l pre x a' W hl hr ⟨⟨hp, bR1, bA1, bE1, v, bO1, hrow, _⟩, hB1, hWs⟩ ⟨Bx, hBx, bX, rfl⟩ hlt
    simp only [encPart]
    have cX0 := blk_cell bX 0
    have cX1 := blk_cell bX 1
    have cX2 := blk_cell bX 2
    simp only [List.getElem?_toArray, List.getElem?_cons_zero, List.getElem?_cons_succ] at cX0 cX1 cX2
    have cO := bO1.cell
    by_cases he : x.e = 0
    · have he2 : (x.e != 0) = false := by simpa using he
      have hx : ordV (pre ++ [x]) = ordV pre ++ [.int .i64 x.ord] := by simp [ordV]
      have hm1 : pre.length + 1 ≤ maxLen := by unfold maxLen; omega
      gi_wp2_with (gi_at_builtin; refine wpListIn_append_own _ rfl _ _ 119 rfl (w.heap.size + 5) 3 i0 (.int .i64 0) 1 8 Tryz.underlying119 hi hz0 hz1 hz2 rfl (by decide) _ _ _ rfl (hrow.alloc _) ⟨W.heap.size, 0, none⟩ 1 1 [.int .i64 x.ord] rfl rfl (cell_one_new _ _ _) (by simp [Value.oneCell']) hm1 (by omega) (by have := hB1.size; simp; omega) ?_; intro v' w1 hown' hgrow _; obtain ⟨g', cap', rfl⟩ := ownsRow_succ hown'; obtain ⟨hv1, hv2, hr2, hk2, hb2⟩ := bO1.appended (by decide) (ownsRow_mono hrow (Nat.le_add_right _ 5)) hB1.size (by omega) (ownsRow_mono hown' (Nat.le_add_right _ 5)) hgrow; have hc1 := hv1.cell; have hf1 := hv1.frozen)
      have hne : ∀ {c : Nat}, c < w.heap.size + 5 → some c ≠ v.ownBlock := fun hc => ownsRow_ne hrow hc
      have hr3 := hown'.kept (grownBy_setCell' w1 (w.heap.size + 1 + 1 + 1) (.slice (some ⟨g', 0, none⟩) (pre.length + 1) cap')) (.inr (hv1.not_row (by decide) hown').symm)
      have kp : PKp W (w1.setCell ⟨w.heap.size + 1 + 1 + 1, 0, none⟩ (.slice (some ⟨g', 0, none⟩) (pre.length + 1) cap')) := by
        refine KeepT.trans (((KeepT.refl _ W).alloc _).trans (KeepT.grown hgrow fun k hk => ?_)) (KeepT.setBox hv1 (by simp) _)
        obtain ⟨cur, f, hg⟩ := ownsRow_row (hrow.alloc _) k hk
        exact ⟨cur, 3, f, hg, by simp⟩
      exact ⟨hk2.from _, kp, ⟨Lib.hid (by rw [List.all_append, hp.out]; simp [he]), ((bR1.alloc _).kept hgrow (hne (by omega))).other (by omega) _, ((bA1.alloc _).kept hgrow (hne (by omega))).other (by omega) _, ((bE1.alloc _).kept hgrow (hne (by omega))).other (by omega) _, _, hv2, by rw [hx]; simpa using hr3, trivial⟩, hB1.trans hb2, by have := hb2.size; omega⟩
    · have he2 : (x.e != 0) = true := by simpa using he
      have cR := bR1.cell
      have cA := bA1.cell
      have cE := bE1.cell
      have fR := bR1.frozen
      have fA := bA1.frozen
      have fE := bE1.frozen
      have hbad : (pre ++ [x]).all (fun p => p.e = 0) = false := by simp [he]
      have Hbad := Lib.hid hbad
      clear hbad
      have k1 : KeepsOthers W (((W.setCell ⟨w.heap.size, 0, none⟩ (.slice none 0 0)).setCell ⟨w.heap.size + 1, 0, none⟩ (.int .i64 x.at_)).setCell ⟨w.heap.size + 1 + 1, 0, none⟩ (.int .i64 x.e)) := ((KeepsOthers.setCell _ _ _).trans (KeepsOthers.setCell _ _ _)).trans (KeepsOthers.setCell _ _ _)
      have k2 : Below w.heap.size w (((W.setCell ⟨w.heap.size, 0, none⟩ (.slice none 0 0)).setCell ⟨w.heap.size + 1, 0, none⟩ (.int .i64 x.at_)).setCell ⟨w.heap.size + 1 + 1, 0, none⟩ (.int .i64 x.e)) :=
        ((hB1.setCell (p := ⟨w.heap.size, 0, none⟩) (Nat.le_refl _) _).setCell (p := ⟨w.heap.size + 1, 0, none⟩) (by simp) _).setCell (p := ⟨w.heap.size + 1 + 1, 0, none⟩) (by simp; omega) _
      have k3 : Boxed (((W.setCell ⟨w.heap.size, 0, none⟩ (.slice none 0 0)).setCell ⟨w.heap.size + 1, 0, none⟩ (.int .i64 x.at_)).setCell ⟨w.heap.size + 1 + 1, 0, none⟩ (.int .i64 x.e)) w.heap.size 119 (.slice none 0 0) := ((bR1.set _).other (by omega) _).other (by omega) _
      have k4 : Boxed (((W.setCell ⟨w.heap.size, 0, none⟩ (.slice none 0 0)).setCell ⟨w.heap.size + 1, 0, none⟩ (.int .i64 x.at_)).setCell ⟨w.heap.size + 1 + 1, 0, none⟩ (.int .i64 x.e)) (w.heap.size + 1) 3 (.int .i64 x.at_) := ((bA1.other (by omega) _).set _).other (by omega) _
      have k5 : Boxed (((W.setCell ⟨w.heap.size, 0, none⟩ (.slice none 0 0)).setCell ⟨w.heap.size + 1, 0, none⟩ (.int .i64 x.at_)).setCell ⟨w.heap.size + 1 + 1, 0, none⟩ (.int .i64 x.e)) (w.heap.size + 1 + 1) 25 (.int .i64 x.e) := ((bE1.other (by omega) _).other (by omega) _).set _
      have Hx := Lib.hid he
      clear he cO
      gi_wp2_with fail
      gi_region
      all_goals gi_wp2_with fail
      all_goals first
        | exact ⟨(k1.trans (KeepsOthers.drew _)).from _, rfl, ⟨Hbad, k3, _, _, Hx.out, k4, k5⟩, k2.drew⟩
        | exact ⟨((k1.trans (KeepsOthers.drew _)).trans (KeepsOthers.drew _)).from _, rfl, ⟨Hbad, k3, _, _, Hx.out, k4, k5⟩, k2.drew.drew⟩
  case done =>
    rintro D ys W hD rfl ⟨⟨hp, bR1, bA1, bE1, v, bO1, hrow, _⟩, hB1, hWs⟩ hK
    obtain ⟨a, n, c, rfl⟩ := owns_slice hrow
    have cO := bO1.cell
    have cR := bR1.cell
    have cA := bA1.cell
    have cE := bE1.cell
    have fR := bR1.frozen
    have fA := bA1.frozen
    have fE := bE1.frozen
    gi_wp2_with fail
    have k1 : KeepsOthers W (((W.setCell ⟨w.heap.size, 0, none⟩ (.slice a (Ln.all s.data.toList).length n)).setCell ⟨w.heap.size + 1, 0, none⟩ (.int .i64 0)).setCell ⟨w.heap.size + 1 + 1, 0, none⟩ (.int .i64 0)) := ((KeepsOthers.setCell _ _ _).trans (KeepsOthers.setCell _ _ _)).trans (KeepsOthers.setCell _ _ _)
    have k2 : Below w.heap.size w (((W.setCell ⟨w.heap.size, 0, none⟩ (.slice a (Ln.all s.data.toList).length n)).setCell ⟨w.heap.size + 1, 0, none⟩ (.int .i64 0)).setCell ⟨w.heap.size + 1 + 1, 0, none⟩ (.int .i64 0)) :=
      ((hB1.setCell (p := ⟨w.heap.size, 0, none⟩) (Nat.le_refl _) _).setCell (p := ⟨w.heap.size + 1, 0, none⟩) (by simp) _).setCell (p := ⟨w.heap.size + 1 + 1, 0, none⟩) (by simp; omega) _
    have k3 : Boxed (((W.setCell ⟨w.heap.size, 0, none⟩ (.slice a (Ln.all s.data.toList).length n)).setCell ⟨w.heap.size + 1, 0, none⟩ (.int .i64 0)).setCell ⟨w.heap.size + 1 + 1, 0, none⟩ (.int .i64 0)) w.heap.size 119 _ := ((bR1.set _).other (by omega) _).other (by omega) _
    have k4 : Boxed (((W.setCell ⟨w.heap.size, 0, none⟩ (.slice a (Ln.all s.data.toList).length n)).setCell ⟨w.heap.size + 1, 0, none⟩ (.int .i64 0)).setCell ⟨w.heap.size + 1 + 1, 0, none⟩ (.int .i64 0)) (w.heap.size + 1) 3 _ := ((bA1.other (by omega) _).set _).other (by omega) _
    have k5 : Boxed (((W.setCell ⟨w.heap.size, 0, none⟩ (.slice a (Ln.all s.data.toList).length n)).setCell ⟨w.heap.size + 1, 0, none⟩ (.int .i64 0)).setCell ⟨w.heap.size + 1 + 1, 0, none⟩ (.int .i64 0)) (w.heap.size + 1 + 1) 25 _ := ((bE1.other (by omega) _).other (by omega) _).set _
    have hrow2 : (((W.setCell ⟨w.heap.size, 0, none⟩ (.slice a (Ln.all s.data.toList).length n)).setCell ⟨w.heap.size + 1, 0, none⟩ (.int .i64 0)).setCell ⟨w.heap.size + 1 + 1, 0, none⟩ (.int .i64 0)).ownsRow (w.heap.size + 5) 3 1 (.slice a (Ln.all s.data.toList).length n) (Ln.all s.data.toList).length (ordV (Ln.all s.data.toList)) :=
      ((hrow.kept (grownBy_setCell' _ _ _) (.inr (ownsRow_ne hrow (by omega)).symm)).kept (grownBy_setCell' _ _ _) (.inr (ownsRow_ne hrow (by omega)).symm)).kept (grownBy_setCell' _ _ _) (.inr (ownsRow_ne hrow (by omega)).symm)
    generalize (((W.setCell ⟨w.heap.size, 0, none⟩ (.slice a (Ln.all s.data.toList).length n)).setCell ⟨w.heap.size + 1, 0, none⟩ (.int .i64 0)).setCell ⟨w.heap.size + 1 + 1, 0, none⟩ (.int .i64 0)) = X at *
    have hKX := k1.same D _ hK rfl
    refine ⟨by simp, .inl ⟨_, _, rfl, run_takeDeferred hKX, ?_⟩⟩
    refine ⟨_, results_3 rfl _ rfl rfl rfl (loadVar_put k3 hKX rfl (fun _ => rfl)) (loadVar_put k4 hKX rfl (fun _ => rfl)) (loadVar_put k5 hKX rfl (fun _ => rfl)), k2.trans (belowK_b (w := w) (Nat.le_refl _) X D _ _ (by omega) hKX rfl rfl), .inl ⟨hp.out, _, rfl, ownsRow_mono (ownsRow_putObj hrow2 _ hKX rfl) (by omega)⟩⟩
  case stop =>
    rintro D c pre W hD hSp ⟨rfl, ⟨hv, bR1, at_, e, he, bA1, bE1⟩, hB1⟩ hK
    gi_wp2_with fail
    refine ⟨by simp, .inl ⟨_, _, rfl, run_takeDeferred hK, ?_⟩⟩
    refine ⟨_, results_3 rfl _ rfl rfl rfl (loadVar_put bR1 hK rfl (fun _ => rfl)) (loadVar_put bA1 hK rfl (fun _ => rfl)) (loadVar_put bE1 hK rfl (fun _ => rfl)), hB1.trans (belowK_b (w := w) (Nat.le_refl _) W D _ _ (by omega) hK rfl rfl), .inr ⟨?_, _, _, he, rfl⟩⟩
    obtain ⟨rest, hr⟩ := hSp
    rw [Ln.valid, ← hr, List.all_append, hv.out]
    rfl

set_option maxRecDepth 100000 in
theorem valid_any (s : ByteArray) (hs : s.size ≤ maxLen) (w : World) :
    Calls Tryz.prog 83 #[.string s] w fun e w' => Below w.heap.size w w' ∧ e = .returned (.bool (Ln.valid s.data.toList)) := by
  have h := lparse_any s hs w
  generalize Ln.all s.data.toList = l at h
  cases hv : Ln.valid s.data.toList with
  | true =>
    have h' : Calls Tryz.prog 153 #[.string s] w fun e w' => ∃ a n c, e = .returned (.tuple #[.slice a n c, .int .i64 0, .int .i64 0]) ∧ Below w.heap.size w w' := h.mono fun e w' ⟨hB, h⟩ => by
      rcases h with ⟨_, v, he, ho⟩ | ⟨h1, _⟩
      · obtain ⟨a, c, rfl⟩ := owns_slice ho
        exact ⟨_, _, _, he, hB⟩
      · rw [hv] at h1; cases h1
    clear h hv
    go_enter Tryz.func83, Tryz.ntmps83
    go_wp2_with (go_at_call 153; refine h'.mono ?_; rintro e w' ⟨a, n, c, rfl, hB⟩)
    go_ret
    exact ⟨hB, rfl⟩
  | false =>
    have h' : Calls Tryz.prog 153 #[.string s] w fun e w' => ∃ a e' : Int, (e' == 0) = false ∧ e = .returned (.tuple #[.slice none 0 0, .int .i64 a, .int .i64 e']) ∧ Below w.heap.size w w' := h.mono fun e w' ⟨hB, h⟩ => by
      rcases h with ⟨h1, _⟩ | ⟨_, a, e', h0, he⟩
      · rw [hv] at h1; cases h1
      · exact ⟨_, _, by simpa using h0, he, hB⟩
    clear h hv
    go_enter Tryz.func83, Tryz.ntmps83
    go_wp2_with (go_at_call 153; refine h'.mono ?_; rintro e w' ⟨a, e', h0, rfl, hB⟩)
    go_ret
    exact ⟨hB, by simp⟩

set_option maxRecDepth 100000 in
theorem ordinals_any (s : ByteArray) (hs : s.size ≤ maxLen) (hv : Ln.valid s.data.toList = true) (w : World) :
    Calls Tryz.prog 223 #[.string s] w fun e w' => ∃ a c, e = .returned (.slice a (Ln.all s.data.toList).length c) ∧ w'.ownsRow w.heap.size 3 1 (.slice a (Ln.all s.data.toList).length c) (Ln.all s.data.toList).length (ordV (Ln.all s.data.toList)) ∧ Below w.heap.size w w' := by
  have h := lparse_any s hs w
  generalize Ln.all s.data.toList = l at h
  have h' : Calls Tryz.prog 153 #[.string s] w fun e w' => ∃ a c, e = .returned (.tuple #[.slice a l.length c, .int .i64 0, .int .i64 0]) ∧ w'.ownsRow w.heap.size 3 1 (.slice a l.length c) l.length (ordV l) ∧ Below w.heap.size w w' := h.mono fun e w' ⟨hB, h⟩ => by
    rcases h with ⟨_, v, he, ho⟩ | ⟨h1, _⟩
    · obtain ⟨a, c, rfl⟩ := owns_slice ho
      exact ⟨_, _, he, ho, hB⟩
    · rw [hv] at h1; cases h1
  clear h hv
  generalize l.length = n at *
  generalize ordV l = xs at *
  go_enter Tryz.func223, Tryz.ntmps223
  go_wp2_with (go_at_call 153; refine h'.mono ?_; rintro e w' ⟨a, c, rfl, ho, hB⟩)
  go_ret
  exact ⟨_, _, rfl, ho, hB⟩

end Go.Proofs.YtdjjfjnkkgmadaaGreatDoor
