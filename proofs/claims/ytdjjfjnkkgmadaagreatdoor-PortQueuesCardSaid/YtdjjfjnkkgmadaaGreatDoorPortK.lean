/-
  Ports: the closures of Arrive and Receive.
-/
import Derived.Test.YtdjjfjnkkgmadaaGreatDoorPortJ
import Derived.StillTailTactics
namespace Go.Proofs.YtdjjfjnkkgmadaaGreatDoor
open Go Go.RowKit

/-- Arrive's closure. -/
def arF (q : Po) (p : Pk) : Bool × Int × Po := if q.q.length = 16 then (decide (q.l < 1073741824), 9, if q.l < 1073741824 then { q with l := q.l + 1 } else q) else (true, 0, { q with q := q.q ++ [p] })
def Pk.zero : Pk := ⟨⟨#[]⟩, ⟨#[]⟩⟩
/-- Receive's closure. -/
def rcF (q : Po) (who : ByteArray) : Bool × Int × Po × Pk := if q.o ≠ who then (false, 14, q, Pk.zero) else match q.q with
  | [] => (false, 19, q, Pk.zero)
  | p :: r => (true, 0, { q with q := r }, p)

/-- The cells of a port. -/
def Po.cs (p : Po) (qv : Value) : Array Value := #[.string p.o, .int .i64 p.e, .int .i64 p.l, qv]

/-- A block of another type is no row. -/
theorem row_ne {W : World} {b : Nat} {e : TypeId} {size : Nat} {v : Value} {n : Nat} {xs : List Value} (h : W.ownsRow b e size v n xs) {k : Nat} {cs : Array Value} {t : TypeId} {f : Nat × Nat} (hk : W.heap[k]? = some (.cells cs t f)) (ht : t ≠ e) : some k ≠ v.ownBlock := by
  intro hne
  obtain ⟨cur, f', hg⟩ := ownsRow_row h k hne.symm
  rw [hk] at hg
  cases hg
  exact ht rfl

/-- The types of a view's blocks that are found by their type. -/
def VT (t : TypeId) : Prop := t = 149 ∨ StT t

set_option maxRecDepth 100000 in
set_option maxHeartbeats 4000000 in
theorem arrive_cl (W : World) (pb ib base : Nat) (q : Po) (qv : Value) (p : Pk) (hP : W.heap[pb]? = some (.cells (q.cs qv) 56 (0, 0))) (hI : W.heap[ib]? = some (.cells #[.string p.f, .string p.b] 123 (0, 0)))
    (hown : W.ownsRow base 123 2 qv q.q.length (pvs q.q)) (hpb : base ≤ pb) (hq : q.q.length ≤ 16) (hl : 0 ≤ q.l ∧ q.l ≤ 1073741824) (hbase : base ≤ W.heap.size) :
    Calls Tryz.prog 149 #[.pointer (some ⟨pb, 0, none⟩), .pointer (some ⟨ib, 0, none⟩)] W fun e W' => ∃ qv', e = .returned (.tuple #[.bool (arF q p).1, .int .i64 (arF q p).2.1]) ∧
      W'.heap[pb]? = some (.cells ((arF q p).2.2.cs qv') 56 (0, 0)) ∧ W'.ownsRow base 123 2 qv' (arF q p).2.2.q.length (pvs (arF q p).2.2.q) ∧ Fr (fun k => base ≤ k) W W' ∧ KeepT VT W W' := by
  obtain ⟨i0, hi0, hz0, hz1, hz2⟩ := info_parts info123
  obtain ⟨av, cv, rfl⟩ := owns_slice hown
  obtain ⟨c0, c1, c2, c3⟩ := blk4 hP
  obtain ⟨d0, d1⟩ := blk2 hI
  have f2 := blk_free hP 2
  have hltp := lt_of_block hP
  have hlti := lt_of_block hI
  unfold arF Po.cs
  unfold Po.cs at hP
  by_cases h16 : q.q.length = 16
  · rw [if_pos h16]
    have h16' : ((q.q.length : Int) == 16) = true := by rw [h16]; rfl
    have H16 := Lib.hid h16
    clear h16
    by_cases hlm : q.l < 1073741824
    · rw [if_pos hlm]
      have hw : IntKind.i64.wrap (q.l + 1) = q.l + 1 := IntWalk.i64_in _ (by omega)
      go_enter Tryz.func149, Tryz.ntmps149
      go_wp2_with fail
      go_ret2
      refine ⟨_, by simp [hlm], blk_set hP 2 _, owns_fr hown ((Fr.refl (fun k => k = pb) W).setCell (a := ⟨pb, 2, none⟩) (.inl rfl) _) (fun g c f hg hc => by subst hg; rw [hP] at hc; cases hc), ((Fr.refl _ W).setCell (a := ⟨pb, 2, none⟩) (.inl hpb) _), (KeepT.refl _ W).setCell (a := ⟨pb, 2, none⟩) hP (by simp [VT, StT]) _⟩
    · rw [if_neg hlm]
      rw [decide_eq_false hlm]
      go_enter Tryz.func149, Tryz.ntmps149
      go_wp2_with fail
      go_ret2
      exact ⟨rfl, _, hP, hown, Fr.refl _ _, KeepT.refl _ _⟩
  · rw [if_neg h16]
    have h16' : ((q.q.length : Int) == 16) = false := by simp; omega
    have h15 : q.q.length ≤ 15 := by omega
    clear h16 hq
    generalize hqq : q.q = L at *
    go_enter Tryz.func149, Tryz.ntmps149
    go_wp2_with fail
    go_region_law (first | (refine step_append_lies _ rfl _ _ 54 rfl base 123 i0 _ 2 32 Tryz.underlying54 hi0 hz0 hz1 hz2 rfl (by decide) (.slice av L.length cv) L.length (pvs L) rfl (by first | exact hown.alloc _ | exact ownsRow_drew (hown.alloc _)) ⟨_, 0, none⟩ 1 1 [.string p.f, .string p.b] rfl rfl (by first | exact World.news_of_block (blk_new W _)) (by simp [Value.oneCell']) (by decide) (by unfold maxLen; omega) (by omega) (by simp; omega) _ rfl ?_; intro g' cap' w3 hown3 hgr3 hat3 hlt3; have hQ3 := grown_heap hgr3 (show _ = some (Obj.cells #[.string q.o, .int .i64 q.e, .int .i64 q.l, .slice av L.length cv] 56 (0, 0)) from blk_alloc hP (.cells #[.string p.f, .string p.b] 123)) (row_ne hown hP (by decide)); have k3 := blk_cell hQ3 3; have k2 := blk_free hQ3 3; have hlt4 := lt_of_block hQ3; simp only [List.getElem?_toArray, List.getElem?_cons_zero, List.getElem?_cons_succ] at k3))
    all_goals
      go_wp2_with fail
      go_ret2
      refine ⟨_, rfl, blk_set hQ3 3 _, ?_, ?_, ?_⟩
      · simp only [List.length_append, List.length_singleton, pvs_append]
        exact owns_fr hown3 ((Fr.refl (fun k => k = pb) w3).setCell (a := ⟨pb, 3, none⟩) (.inl rfl) _) (fun g c f hg hc => by subst hg; rw [hQ3] at hc; cases hc)
      · exact ((((Fr.refl (fun k => base ≤ k) W).alloc _).drew.grown hgr3 (fun k hk => .inl (by have := (hown.lt k hk.symm.symm).1; omega))).setCell (a := ⟨pb, 3, none⟩) (.inl hpb) _)
      · refine KeepT.trans (KeepT.trans (show KeepT VT W (W.alloc (.cells #[.string p.f, .string p.b] 123)).drew from (KeepT.refl _ W).alloc _) (KeepT.grown hgr3 fun k hk => ?_)) ((KeepT.refl _ w3).setCell (a := ⟨pb, 3, none⟩) hQ3 (by simp [VT, StT]) _)
        obtain ⟨cur, f, hg⟩ := ownsRow_row (hown.alloc _) k hk
        exact ⟨cur, 123, f, hg, by simp [VT, StT]⟩

/-- What is left of a row of packets behind its first. -/
theorem pks_tail {W : World} {base : Nat} {a : Option Addr} {c : Nat} {h : Pk} {t : List Pk} (hown : W.ownsRow base 123 2 (.slice a (t.length + 1) c) (t.length + 1) (pvs (h :: t))) (hs : ∀ p ∈ h :: t, p.f.size ≤ maxLen ∧ p.b.size ≤ maxLen) :
    ∃ g v', a = some ⟨g, 0, none⟩ ∧ base ≤ g ∧ (∃ cur, W.heap[g]? = some (.cells cur 123 (0, 0))) ∧ W.cell? ⟨g, 0, none⟩ = some (.string h.f) ∧ W.cell? ⟨g, 1, none⟩ = some (.string h.b) ∧
      (∃ a' c', v' = .slice a' t.length c') ∧ (∀ W' : World, W'.heap[g]? = W.heap[g]? → PksIn W' v' t) ∧ ∀ wx, (Instr.slice 54 (.slice a (t.length + 1) c) (some (.int .i64 1)) none none).run Tryz.prog wx = .ok v' wx := by
  obtain ⟨h1, h2⟩ := hown
  rcases h2 with ⟨hv, hn⟩ | ⟨g, cap, cur, hv, hb, hg, hle, hm, hsz, htake⟩
  · simp at hn
  · injection hv with e1 e2 e3
    subst e1 e3
    have hcell : ∀ i p, (h :: t)[i]? = some p → cur[i * 2]? = some (.string p.f) ∧ cur[i * 2 + 1]? = some (.string p.b) := fun i p hi => by
      obtain ⟨f0, f1⟩ := pvs_get (h :: t) i p hi
      have hil : i < t.length + 1 := by
        rcases Nat.lt_or_ge i (h :: t).length with h' | h'
        · simpa using h'
        · rw [List.getElem?_eq_none h'] at hi; cases hi
      rw [← htake, List.getElem?_take, if_pos (by omega)] at f0 f1
      exact ⟨by simpa using f0, by simpa using f1⟩
    have hc0 := hcell 0 h rfl
    refine ⟨g, .slice (some ⟨g, if c = 1 then 0 else 2, none⟩) t.length (c - 1), rfl, hb, ⟨_, hg⟩, ?_, ?_, ⟨_, _, rfl⟩, ?_, ?_⟩
    · rw [blk_cell hg]; exact hc0.1
    · rw [blk_cell hg]; exact hc0.2
    · intro W' hW'
      have hg' : W'.heap[g]? = some (.cells cur 123 (0, 0)) := hW'.trans hg
      refine ⟨_, _, rfl, by omega, fun i p hi => ?_⟩
      have hp := hs p (List.mem_cons_of_mem _ (List.mem_of_getElem? hi))
      have hil : i < t.length := by
        rcases Nat.lt_or_ge i t.length with h' | h'
        · exact h'
        · rw [List.getElem?_eq_none h'] at hi; cases hi
      have hc := hcell (i + 1) p (by simpa using hi)
      refine ⟨hp.1, hp.2, g, _, rfl, lt_of_block hg', ?_⟩
      rw [if_neg (by omega)]
      refine ⟨?_, ?_⟩
      · rw [blk_cell hg', show 2 + i * 2 = (i + 1) * 2 by omega]; exact hc.1
      · rw [blk_cell hg', show 2 + i * 2 + 1 = (i + 1) * 2 + 1 by omega]; exact hc.2
    · intro wx
      have u54 : Tryz.prog.underlying 54 = some (.slice (Tryz.prog.elem 54)) := by rw [show Tryz.prog.elem 54 = 123 by kernel_rfl]; exact Tryz.underlying54
      have s123 : (sizeOf 123).run Tryz.prog wx = .ok 2 wx := by kernel_rfl
      rw [run_slice_l wx 54 _ _ c u54 .i64 _ (by omega) (by omega), show Tryz.prog.elem 54 = 123 by kernel_rfl, s123]
      simp only [Result.andThen, sliced, Int.toNat_one, Nat.one_mul, Option.map_some, addr_add, Nat.add_sub_cancel]
      by_cases e : c = 1
      · rw [if_pos e, if_pos e]
      · rw [if_neg e, if_neg e]

set_option maxRecDepth 100000 in
set_option maxHeartbeats 4000000 in
theorem receive_cl (W : World) (pb wb ob base : Nat) (q : Po) (qv : Value) (who : ByteArray) (hP : W.heap[pb]? = some (.cells (q.cs qv) 56 (0, 0))) (hI : W.heap[wb]? = some (.cells #[.string who] 45 (0, 0)))
    (hO : W.heap[ob]? = some (.cells #[.string ⟨#[]⟩, .string ⟨#[]⟩] 123 (0, 0)))
    (hown : W.ownsRow base 123 2 qv q.q.length (pvs q.q)) (hs : ∀ p ∈ q.q, p.f.size ≤ maxLen ∧ p.b.size ≤ maxLen) (hpb : base ≤ pb) (hob : ob < base) :
    Calls Tryz.prog 151 #[.pointer (some ⟨pb, 0, none⟩), .pointer (some ⟨wb, 0, none⟩), .pointer (some ⟨ob, 0, none⟩)] W fun e W' => ∃ qv', e = .returned (.tuple #[.bool (rcF q who).1, .int .i64 (rcF q who).2.1]) ∧
      W'.heap[pb]? = some (.cells ((rcF q who).2.2.1.cs qv') 56 (0, 0)) ∧ PksIn W' qv' (rcF q who).2.2.1.q ∧ W'.heap[ob]? = some (.cells #[.string (rcF q who).2.2.2.f, .string (rcF q who).2.2.2.b] 123 (0, 0)) ∧ Fr (fun k => k = ob ∨ base ≤ k) W W' ∧ KeepT VT W W' := by
  have hpk := pks_of_owns hown hs
  obtain ⟨av, cv, rfl⟩ := owns_slice hown
  obtain ⟨c0, c1, c2, c3⟩ := blk4 hP
  have d0 := blk_cell hI 0
  simp only [List.getElem?_toArray, List.getElem?_cons_zero] at d0
  have hltp := lt_of_block hP
  have hlti := lt_of_block hI
  have hlto := lt_of_block hO
  unfold rcF Po.cs
  unfold Po.cs at hP
  by_cases ho : q.o ≠ who
  · rw [if_pos ho]
    have hne : (q.o.toList == who.toList) = false := str_ne ho
    have hne' : (q.o.toList != who.toList) = true := by simp only [bne, hne]; rfl
    clear ho
    go_enter Tryz.func151, Tryz.ntmps151
    go_upto_block 0 with fail
    go_wp2_with fail
    go_quiet (fail)
    go_wp2_with fail
    go_ret2
    exact ⟨_, rfl, hP, hpk, hO, (Fr.refl _ _).drewN _, KeepT.refl _ _⟩
  · rw [if_neg ho]
    obtain rfl : q.o = who := Decidable.not_not.1 ho
    have hne : (q.o.toList == q.o.toList) = true := by simp
    have hne' : (q.o.toList != q.o.toList) = false := by simp
    clear ho
    cases hL : q.q with
    | nil =>
      rw [hL] at hpk hown c3 hP
      go_enter Tryz.func151, Tryz.ntmps151
      go_wp2_with fail
      go_quiet (fail)
      go_wp2_with fail
      go_ret2
      exact ⟨_, rfl, by rw [hL] at *; exact hP, by rw [hL]; exact hpk, hO, (Fr.refl _ _).drewN _, KeepT.refl _ _⟩
    | cons p t =>
      rw [hL] at hpk hown c3 hP hs
      simp only [List.length_cons] at hown c3 hP hpk
      obtain ⟨g, v', rfl, hgb, ⟨cur, hg⟩, g0, g1, ⟨a', c', rfl⟩, hv', hsl⟩ := pks_tail hown hs
      have hlen : ((t.length : Int) + 1 == 0) = false := by simp; omega
      have hgp : g ≠ pb := fun e => by rw [e, hP] at hg; cases hg
      have hgo : g ≠ ob := by omega
      have hpo : pb ≠ ob := by omega
      have hgl := lt_of_block hg
      go_enter Tryz.func151, Tryz.ntmps151
      go_wp2_with fail
      go_quiet (fail)
      go_wp2_with fail
      obtain ⟨o0, o1⟩ := blk2 hO
      have fo := fun j => blk_free hO j
      have fp := fun j => blk_free hP j
      go_region
      go_wp2_with fail
      go_ret2
      have hP0 : (W.drewN (nq + 1)).heap[pb]? = _ := hP
      have hO0 : (W.drewN (nq + 1)).heap[ob]? = _ := hO
      have hg0 : (W.drewN (nq + 1)).heap[g]? = _ := hg
      refine ⟨_, rfl, blk_set (blk_set_other (blk_set_other hP0 hpo _) hpo _) 3 _, hv' _ ?_, blk_set_other (blk_set (blk_set hO0 0 _) 1 _) hpo.symm _, ?_, ?_⟩
      · exact (blk_set_other (blk_set_other (blk_set_other hg0 hgo _) hgo _) hgp _).trans hg.symm
      · exact ((((Fr.refl (fun k => k = ob ∨ base ≤ k) W).drewN (nq + 1)).setCell (a := ⟨ob, 0, none⟩) (.inl (.inl rfl)) _).setCell (a := ⟨ob, 1, none⟩) (.inl (.inl rfl)) _).setCell (a := ⟨pb, 3, none⟩) (.inl (.inr hpb)) _
      · exact ((((KeepT.refl VT W).drewN (nq + 1)).setCell (a := ⟨ob, 0, none⟩) hO (by simp [VT, StT]) _).setCell (a := ⟨ob, 1, none⟩) hO (by simp [VT, StT]) _).setCell (a := ⟨pb, 3, none⟩) hP (by simp [VT, StT]) _

end Go.Proofs.YtdjjfjnkkgmadaaGreatDoor
