/-
  pipe: begin, Get, write, Make; view: Mark, Has.
-/
import Derived.Test.YtdjjfjnkkgmadaaGreatDoorPipe2
import Derived.Test.YtdjjfjnkkgmadaaGreatDoorViewOps
namespace Go.Proofs.YtdjjfjnkkgmadaaGreatDoor
open Go Go.RowKit

/-- What a view shows of a name, and whether there is a value. -/
def shV (g : Nm → Option ByteArray) (N : List (Nm × Ch)) (x : Nm) : ByteArray × Bool := match look N x with
  | some c => (c.val, !c.absent)
  | none => ((g x).getD ⟨#[]⟩, (g x).isSome)
/-- The reads behind a look at a name. -/
def rdR (g : Nm → Option ByteArray) (R N : List (Nm × Ch)) (x : Nm) : List (Nm × Ch) := match look N x with
  | some _ => R
  | none => upd R x ⟨(g x).getD ⟨#[]⟩, !(g x).isSome⟩

theorem get_ok (w : World) (v : VW) (g : Nm → Option ByteArray) (R N : List (Nm × Ch)) (m : Nat) (hv : IsView w v g R N m) (x : Nm) (hx : x.ok) (hp : Passes x) :
    Calls Tryz.prog 123 #[v.p, x.v] w fun e w' => e = .returned (.tuple #[.string (shV g N x).1, .bool (shV g N x).2]) ∧ IsView w' v g (rdR g R N x) N m ∧ Fr v.S w w' := by
  unfold shV rdR
  cases hl : look N x with
  | some c => exact (get_now w v g R N m hv x hx hp c hl).mono fun e w' ⟨h1, h2⟩ => ⟨h1, hv.below h2, Fr.of_below h2⟩
  | none => exact get_base w v g R N m hv x hx hp hl

theorem IsView.notS {w : World} {v : VW} {g : Nm → Option ByteArray} {R N : List (Nm × Ch)} {m : Nat} (h : IsView w v g R N m) {k : Nat} (hk : w.heap.size ≤ k) : ¬ v.S k := by
  obtain ⟨⟨base, cv, xs, h1, h2, h3, h4⟩, h5, h6, h7⟩ := h
  have a := lt_of_block h2
  have b := h5.lt
  have c := h6.lt
  rintro (rfl | rfl | rfl) <;> omega

theorem Fr.setRow1 (w : World) (b : Nat) (cs : Array Value) : Fr (fun k => k = b) w (w.setRow b cs) :=
  ⟨rfl, rfl, rfl, by simp [World.setRow], fun k _ hs => setRow_other _ _ k _ hs⟩
theorem IsView.setRow {w : World} {v : VW} {g : Nm → Option ByteArray} {R N : List (Nm × Ch)} {m : Nat} (h : IsView w v g R N m) {b : Nat} (hb : ¬ v.S b) {old : Array Value} {t : TypeId} {f : Nat × Nat} (ho : w.heap[b]? = some (.cells old t f)) (ht : t ≠ 149 ∧ ¬ StT t) (cs : Array Value) : IsView (w.setRow b cs) v g R N m := by
  refine h.fr (Fr.setRow1 w b cs) (fun k hk e => hb (e ▸ hk)) ?_
  intro k c t' f' hk hc
  rw [hk, ho] at hc
  cases hc
  exact ht

set_option maxRecDepth 100000 in
theorem has_ok (w : World) (v : VW) (g : Nm → Option ByteArray) (R N : List (Nm × Ch)) (m : Nat) (hv : IsView w v g R N m) (x : Nm) (hx : x.ok) (hp : Passes x) :
    Calls Tryz.prog 67 #[v.p, x.v] w fun e w' => e = .returned (.bool (shV g N x).2) ∧ IsView w' v g (rdR g R N x) N m ∧ Fr v.S w w' := by
  have hB := below_new1 w (.cells #[.int .i64 x.k, .string x.o, .int .i64 x.n, .int .i64 x.i, .string x.t] 91)
  have h := get_ok _ v g R N m (hv.below hB) x hx hp
  generalize (shV g N x).1 = s1 at *
  generalize hb1 : (shV g N x).2 = b1 at *
  clear hb1
  unfold Nm.v VW.p at *
  go_enter Tryz.func67, Tryz.ntmps67
  go_wp2_with (go_at_call 123; refine h.mono ?_; rintro e w' ⟨rfl, hv', hF⟩)
  go_ret
  exact ⟨rfl, hv', (Fr.of_below hB).trans hF⟩

set_option maxRecDepth 100000 in
theorem mark_ok (w : World) (v : VW) (g : Nm → Option ByteArray) (R N : List (Nm × Ch)) (m : Nat) (hv : IsView w v g R N m) :
    Calls Tryz.prog 36 #[v.p] w fun e w' => e = .returned (.int .i64 m) ∧ w = w' := by
  obtain ⟨⟨base, cv, xs, h1, h2, h3, h4⟩, h5, h6, h7⟩ := hv
  obtain ⟨a, c, rfl⟩ := owns_slice h3
  have b2 := blk_cell h2 2
  simp only [List.getElem?_toArray, List.getElem?_cons_zero, List.getElem?_cons_succ] at b2
  unfold VW.p
  go_enter Tryz.func36, Tryz.ntmps36
  go_wp2
  go_ret
  exact ⟨rfl, rfl⟩

/-- The name of a birth's pipe. -/
def pn (m : ByteArray) (n : Int) : Nm := ⟨11, m, n, 0, ⟨#[]⟩⟩
def GB (m : ByteArray) (n : Int) : Prop := m.size ≤ maxLen ∧ birthErr m n = 0

theorem GB.num {m : ByteArray} {n : Int} (h : GB m n) : 0 ≤ n ∧ n ≤ 1073741824 := by
  have h2 := h.2
  unfold birthErr at h2
  split at h2
  · cases h2
  · split at h2
    · cases h2
    · rename_i _ h3
      simpa [numOk] using h3
theorem wf64 {n : Int} (h1 : -9223372036854775808 ≤ n) (h2 : n ≤ 9223372036854775807) : (Lit.int .i64 n).wf = true := by
  simp [Lit.wf, IntKind.min, IntKind.max, IntKind.signed, IntKind.bits]
  omega
theorem GB.ok {m : ByteArray} {n : Int} (h : GB m n) : (pn m n).ok := by
  have := h.num
  exact ⟨show (Lit.int .i64 11).wf = true by decide, h.1, wf64 (by show -9223372036854775808 ≤ n; omega) (by show n ≤ 9223372036854775807; omega), show (Lit.int .i64 0).wf = true by decide, show (ByteArray.mk #[]).size ≤ maxLen by decide⟩
theorem GB.passes {m : ByteArray} {n : Int} (h : GB m n) : Passes (pn m n) := fun W => by
  have := check_pipe m h.1 n W
  rwa [h.2] at this

set_option maxRecDepth 100000 in
theorem begin_ok (w : World) (a : Addr) (m : ByteArray) (n : Int) (hb : GB m n) (ep : Int) (he : within ep 1073741824 = true) :
    Calls Tryz.prog 114 #[.pointer (some a), birthV m n, .int .i64 ep] w fun e w' => e = .returned (.int .i64 0) ∧ Below w.heap.size w w' := by
  have h1 := fun w => birthCheck_any m hb.1 n w
  have h2 := fun w => within_any ep 1073741824 w
  rw [hb.2] at h1
  rw [he] at h2
  unfold birthV at *
  go_enter Tryz.func114, Tryz.ntmps114
  go_wp2_with (first | (go_at_call 60; refine (h1 _).mono ?_; rintro e w1 ⟨rfl, hB1⟩) | (go_at_call 113; refine (h2 _).mono ?_; rintro e w2 ⟨rfl, rfl⟩))
  go_ret
  exact ⟨rfl, (below_new1 w _).trans' hB1⟩

/-- The pipe that a value shows in an epoch, or the error. -/
def pget (s : ByteArray) (ep : Int) : Pp × Int := if (Pp.dec s.data.toList).2 ≠ 0 then (Pp.zero, 8) else if (Pp.dec s.data.toList).1.e ≠ ep then (Pp.zero, 8) else ((Pp.dec s.data.toList).1, 0)

set_option maxRecDepth 100000 in
set_option maxHeartbeats 4000000 in
theorem pipeGet_ok (w : World) (v : VW) (g : Nm → Option ByteArray) (R N : List (Nm × Ch)) (k : Nat) (hv : IsView w v g R N k) (m : ByteArray) (n : Int) (hb : GB m n) (ep : Int) (he : within ep 1073741824 = true)
    (hs : (shV g N (pn m n)).1.size ≤ 140737488355328) :
    Calls Tryz.prog 49 #[v.p, birthV m n, .int .i64 ep] w fun e w' => e = .returned (.tuple #[(pget (shV g N (pn m n)).1 ep).1.v, .int .i64 (pget (shV g N (pn m n)).1 ep).2]) ∧
      IsView w' v g (rdR g R N (pn m n)) N k ∧ Fr v.S w w' := by
  have hbeg := fun a w => begin_ok w a m n hb ep he
  have hof := fun w => ofPipe_any m n w
  have hget := fun W (h : IsView W v g R N k) => get_ok W v g R N k h (pn m n) hb.ok hb.passes
  have hdec := fun w => pipeDecode_any (shV g N (pn m n)).1 hs w
  generalize hD : pget (shV g N (pn m n)).1 ep = D
  have HD := Lib.hid hD
  clear hD
  generalize (shV g N (pn m n)).2 = there at *
  generalize (shV g N (pn m n)).1 = s at *
  unfold pget at HD
  generalize Pp.dec s.data.toList = q at *
  obtain ⟨q, qe⟩ := q
  unfold nameV at hof
  unfold Nm.v pn at hget
  simp only at hget hdec HD
  unfold birthV Pp.v VW.p at *
  go_enter Tryz.func49, Tryz.ntmps49
  go_wp2_with (first | (go_at_call 114; refine (hbeg _ _).mono ?_; rintro e w1 ⟨rfl, hB1⟩; have hb1 := hB1.heapS (blk_alloc (blk_new w _) _); have hz1 := hB1.heapS (blk_new1 w _ _); obtain ⟨c0, c1⟩ := blk2 hb1) | (go_at_call 68; refine (hof _).mono ?_; rintro e w2 ⟨rfl, hB2⟩; have hv2 := hv.below (((below_new2 w _ _).trans' hB1).trans' hB2)))
  refine (hget _ hv2).mono ?_
  rintro e w3 ⟨rfl, hv3, hF3⟩
  have hBall := ((below_new2 w _ _).trans' hB1).trans' hB2
  have hz3 := hF3.heap (hv.notS (by simp)) (hB2.heapS hz1)
  have hzlt : w.heap.size + 1 < w3.heap.size := lt_of_block hz3
  have hFr : ∀ {w4 : World}, Below w3.heap.size w3 w4 → Fr v.S w w4 := fun h => ((Fr.of_below hBall).trans hF3).trans (Fr.of_below h)
  have hZr : ∀ {w4 : World} cs, Fr v.S w w4 → Fr v.S w (w4.setRow (w.heap.size + 1) cs) := fun cs h => ⟨h.os, h.tape, h.output, by simp [World.setRow]; exact h.size, fun k hk hs => (setRow_other _ _ k _ (by omega)).trans (h.block k hk hs)⟩
  go_wp2_with fail
  refine (hdec _).mono ?_
  rintro e w4 ⟨rfl, hB4⟩
  have hz4 := hB4.heapS hz3
  clear hbeg hof hget hdec hb1 hz1 hz3 c0 c1
  have hz5 := blk_alloc hz4 (.cells #[.int .i64 q.e, .int .i64 q.r, .int .i64 q.w, .string q.b] 28)
  have hlt5 := lt_of_block hz4
  by_cases h1 : qe = 0
  · subst h1
    by_cases h2 : q.e = ep
    · obtain rfl : (q, (0 : Int)) = D := by rw [← HD.out, if_neg (by simp), if_neg (by simp [h2])]
      have h2' : (q.e != ep) = false := by simp [h2]
      have H2 := Lib.hid h2
      clear h2
      go_wp2_with (refine wpList_store_row rfl 28 _ _ rfl (w.heap.size + 1) #[.int .i64 q.e, .int .i64 q.r, .int .i64 q.w, .string q.b] rfl rfl 28 _ hz5 (by kernel_rfl) rfl (by simp [Value.oneCell']) ?_)
      refine bodyPost_ret (results_row_tmp rfl _ _ (w.heap.size + 1) 28 #[.int .i64 q.e, .int .i64 q.r, .int .i64 q.w, .string q.b] (0, 0) _ rfl (setRow_heap _ _ _ _ _ _ hz5) Tryz.underlying28 rfl (by kernel_rfl)) rfl ⟨rfl, ?_, ?_⟩
      · exact (hv3.below (hB4.alloc hB4.size _)).setRow (hv.notS (by simp)) hz5 (by simp [StT]) _
      · exact hZr _ (hFr (hB4.alloc hB4.size _))
    · obtain rfl : (Pp.zero, (8 : Int)) = D := by rw [← HD.out, if_neg (by simp), if_pos h2]
      have h2' : (q.e != ep) = true := by simpa using h2
      go_wp2_with (refine wpList_store_row rfl 28 _ _ rfl (w.heap.size + 1) #[.int .i64 0, .int .i64 0, .int .i64 0, .string ⟨#[]⟩] rfl rfl 28 _ hz5 (by kernel_rfl) rfl (by simp [Value.oneCell']) ?_)
      refine bodyPost_ret (results_row_tmp rfl _ _ (w.heap.size + 1) 28 #[.int .i64 0, .int .i64 0, .int .i64 0, .string ⟨#[]⟩] (0, 0) _ rfl (setRow_heap _ _ _ _ _ _ hz5) Tryz.underlying28 rfl (by kernel_rfl)) rfl ⟨rfl, ?_, ?_⟩
      · exact (hv3.below (hB4.alloc hB4.size _)).setRow (hv.notS (by simp)) hz5 (by simp [StT]) _
      · exact hZr _ (hFr (hB4.alloc hB4.size _))
  · obtain rfl : (Pp.zero, (8 : Int)) = D := by rw [← HD.out, if_pos h1]
    have h1' : (qe != 0) = true := by simpa using h1
    go_wp2_with (refine wpList_store_row rfl 28 _ _ rfl (w.heap.size + 1) #[.int .i64 0, .int .i64 0, .int .i64 0, .string ⟨#[]⟩] rfl rfl 28 _ hz5 (by kernel_rfl) rfl (by simp [Value.oneCell']) ?_)
    refine bodyPost_ret (results_row_tmp rfl _ _ (w.heap.size + 1) 28 #[.int .i64 0, .int .i64 0, .int .i64 0, .string ⟨#[]⟩] (0, 0) _ rfl (setRow_heap _ _ _ _ _ _ hz5) Tryz.underlying28 rfl (by kernel_rfl)) rfl ⟨rfl, ?_, ?_⟩
    · exact (hv3.below (hB4.alloc hB4.size _)).setRow (hv.notS (by simp)) hz5 (by simp [StT]) _
    · exact hZr _ (hFr (hB4.alloc hB4.size _))

end Go.Proofs.YtdjjfjnkkgmadaaGreatDoor
