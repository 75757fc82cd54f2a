/-
  pipe: Read, Write, Join, Leave (printed by tools/genops.py).
-/
import Derived.Test.YtdjjfjnkkgmadaaGreatDoorPipe6
namespace Go.Proofs.YtdjjfjnkkgmadaaGreatDoor
open Go Go.RowKit

theorem rdF_may {p : Pp} {most : Int} (hp : p.err = 0) (h : (rdF p most).1 = true) : (rdF p most).2.1 = 0 ∧ (rdF p most).2.2.1.may := by
  unfold rdF at *
  split at h
  · cases h
  · split at h
    · cases h
    · split at h
      · cases h
      · rename_i h1 h2 h3
        rw [if_neg h1, if_neg h2, if_neg h3]
        obtain ⟨a, b, c, d, e⟩ := Pp.err_zero hp
        refine ⟨rfl, .inr (Pp.of_zero ⟨a, b, c, d, ?_⟩)⟩
        simp only [ByteArray.size_extract]
        omega

theorem wrF_may {p : Pp} {s : ByteArray} (hp : p.err = 0) (h : (wrF p s).1 = true) : (wrF p s).2.1 = 0 ∧ (wrF p s).2.2.1.may := by
  unfold wrF at *
  split at h
  · cases h
  · split at h
    · cases h
    · split at h
      · cases h
      · rename_i h1 h2 h3
        rw [if_neg h1, if_neg h2, if_neg h3]
        obtain ⟨a, b, c, d, e⟩ := Pp.err_zero hp
        refine ⟨rfl, .inr (Pp.of_zero ⟨a, b, c, d, ?_⟩)⟩
        simp only [ByteArray.size_append, ByteArray.size_extract]
        omega

theorem jnF_may {p : Pp} {b : Bool} (hp : p.err = 0) (h : (jnF p b).1 = true) : (jnF p b).2.1 = 0 ∧ (jnF p b).2.2.may := by
  unfold jnF at *
  split at h
  · cases h
  · split at h
    · cases h
    · rename_i h1 h2
      rw [if_neg h1, if_neg h2]
      obtain ⟨a, hb, c, d, e⟩ := Pp.err_zero hp
      refine ⟨rfl, .inr ?_⟩
      cases b
      · simp only [Pp.side, Bool.false_eq_true, if_false] at h1 h2 ⊢
        exact Pp.of_zero ⟨a, by simp only [Pp.put, Bool.false_eq_true, if_false]; omega, c, by simp only [Pp.put, Bool.false_eq_true, if_false]; omega, e⟩
      · simp only [Pp.side, if_true] at h1 h2 ⊢
        exact Pp.of_zero ⟨a, hb, by simp only [Pp.put, if_true]; omega, by simp only [Pp.put, if_true]; omega, e⟩

theorem lvF_may {p : Pp} {b : Bool} (hp : p.err = 0) (h : (lvF p b).1 = true) : (lvF p b).2.1 = 0 ∧ (lvF p b).2.2.may := by
  unfold lvF at *
  split at h
  · cases h
  · rename_i h1
    rw [if_neg h1]
    obtain ⟨a, hb, c, d, e⟩ := Pp.err_zero hp
    refine ⟨rfl, ?_⟩
    cases b
    · simp only [Pp.side, Bool.false_eq_true, if_false] at h1 ⊢
      by_cases h0 : p.r - 1 = 0 ∧ p.w = 0
      · exact .inl h0
      · exact .inr (Pp.of_zero ⟨a, by simp only [Pp.put, Bool.false_eq_true, if_false]; omega, c, by simp only [Pp.put, Bool.false_eq_true, if_false]; omega, e⟩)
    · simp only [Pp.side, if_true] at h1 ⊢
      by_cases h0 : p.r = 0 ∧ p.w - 1 = 0
      · exact .inl h0
      · exact .inr (Pp.of_zero ⟨a, hb, by simp only [Pp.put, if_true]; omega, by simp only [Pp.put, if_true]; omega, e⟩)

theorem below_new3 (w : World) (a b c : Obj) : Below w.heap.size w (((w.alloc a).alloc b).alloc c) := (below_new2 w a b).alloc (by simp; omega) _
theorem blk_new2 (w : World) (a b c : Obj) : (((w.alloc a).alloc b).alloc c).heap[w.heap.size + 2]? = some c := by
  have := blk_new ((w.alloc a).alloc b) c
  rwa [World.size_alloc, World.size_alloc] at this
theorem side_bound {p : Pp} (hp : p.err = 0) (b : Bool) : 0 ≤ p.side b ∧ p.side b ≤ 64 := by
  obtain ⟨_, h2, h3, _, _⟩ := Pp.err_zero hp
  cases b
  · exact h2
  · exact h3

set_option maxRecDepth 100000 in
set_option maxHeartbeats 8000000 in
theorem read_ok (w : World) (v : VW) (g : Nm → Option ByteArray) (R N : List (Nm × Ch)) (k : Nat) (hv : IsView w v g R N k) (hk : k < 1000000) (m : ByteArray) (n : Int) (hb : GB m n) (ep : Int) (he : within ep 1073741824 = true)
    (hs : (shV g N (pn m n)).1.size ≤ 140737488355328) (q : Pp) (hq : pget (shV g N (pn m n)).1 ep = (q, 0)) (hqe : q.err = 0) (most : Int) :
    Calls Tryz.prog 37 #[v.p, birthV m n, .int .i64 ep, .int .i64 most] w fun e w' => e = .returned (.tuple #[.string (rdF q most).2.2.2, .int .i64 (rdF q most).2.1]) ∧
      IsView w' v g (rdR g R N (pn m n)) (cN N (pn m n) (rdF q most).1 (rdF q most).2.2.1) (ck k (rdF q most).1) ∧ Fr v.S w w' := by
  have hq5 := (Pp.err_zero hqe).2.2.2.2
  have hB := below_new3 w (.cells #[.string m, .int .i64 n] 47) (.cells #[.int .i64 most] 3) (.cells #[.string ⟨#[]⟩] 9)
  have hi := blk_alloc (blk_new1 w (.cells #[.string m, .int .i64 n] 47) (.cells #[.int .i64 most] 3)) (.cells #[.string ⟨#[]⟩] 9)
  have ho := blk_new2 w (.cells #[.string m, .int .i64 n] 47) (.cells #[.int .i64 most] 3) (.cells #[.string ⟨#[]⟩] 9)
  have hch := change_117 _ v g R N k (hv.below hB) hk m n hb ep he hs (w.heap.size + 1) _ hi (hv.notS (by omega)) (w.heap.size + 2) _ (.cells #[.string (rdF q most).2.2.2] 9 (0, 0)) ho (hv.notS (by omega)) (fun c t f e => by cases e; simp [StT])
    q (rdF q most).2.2.1 hq (rdF q most).1 (rdF q most).2.1 (rdF_may hqe) (fun W pb h1 h2 h3 => read_cl W pb _ _ q most h1 h2 h3 (by omega))
  generalize (rdF q most).2.2.2 = out at *
  generalize (rdF q most).2.1 = er at *
  generalize rdR g R N (pn m n) = R2 at *
  generalize cN N (pn m n) (rdF q most).1 (rdF q most).2.2.1 = N2 at *
  generalize ck k (rdF q most).1 = k2 at *
  have hns : ∀ k, v.S k → k < w.heap.size := fun k hk => Nat.lt_of_not_le fun hle => hv.notS hle hk
  unfold birthV VW.p at *
  have hmf : ∀ (fn : Fn) (first cap : Array Value) (w : World), (Instr.makeFunc fn first cap).run Tryz.prog w = .ok (.func fn first cap) w := fun _ _ _ _ => rfl
  clear hq hs he hk hqe hq5
  go_enter Tryz.func37, Tryz.ntmps37
  go_wp2_with fail
  refine hch.mono ?_
  rintro e w1 ⟨rfl, hv1, ho1, hF1⟩
  have c0 := blk_cell ho1 0
  simp only [List.getElem?_toArray, List.getElem?_cons_zero] at c0
  go_wp2_with fail
  go_ret2
  exact ⟨rfl, hv1, ((Fr.of_below hB).trans' hF1 (by rintro i (h | h); exact .inl h; exact .inr (by omega)))⟩

set_option maxRecDepth 100000 in
set_option maxHeartbeats 8000000 in
theorem wrt_ok (w : World) (v : VW) (g : Nm → Option ByteArray) (R N : List (Nm × Ch)) (k : Nat) (hv : IsView w v g R N k) (hk : k < 1000000) (m : ByteArray) (n : Int) (hb : GB m n) (ep : Int) (he : within ep 1073741824 = true)
    (hs : (shV g N (pn m n)).1.size ≤ 140737488355328) (q : Pp) (hq : pget (shV g N (pn m n)).1 ep = (q, 0)) (hqe : q.err = 0) (s : ByteArray) (hss : s.size ≤ 1000000) :
    Calls Tryz.prog 38 #[v.p, birthV m n, .int .i64 ep, .string s] w fun e w' => e = .returned (.tuple #[.int .i64 (wrF q s).2.2.2, .int .i64 (wrF q s).2.1]) ∧
      IsView w' v g (rdR g R N (pn m n)) (cN N (pn m n) (wrF q s).1 (wrF q s).2.2.1) (ck k (wrF q s).1) ∧ Fr v.S w w' := by
  have hq5 := (Pp.err_zero hqe).2.2.2.2
  have hB := below_new3 w (.cells #[.string m, .int .i64 n] 47) (.cells #[.string s] 9) (.cells #[.int .i64 0] 3)
  have hi := blk_alloc (blk_new1 w (.cells #[.string m, .int .i64 n] 47) (.cells #[.string s] 9)) (.cells #[.int .i64 0] 3)
  have ho := blk_new2 w (.cells #[.string m, .int .i64 n] 47) (.cells #[.string s] 9) (.cells #[.int .i64 0] 3)
  have hch := change_118 _ v g R N k (hv.below hB) hk m n hb ep he hs (w.heap.size + 1) _ hi (hv.notS (by omega)) (w.heap.size + 2) _ (.cells #[.int .i64 (wrF q s).2.2.2] 3 (0, 0)) ho (hv.notS (by omega)) (fun c t f e => by cases e; simp [StT])
    q (wrF q s).2.2.1 hq (wrF q s).1 (wrF q s).2.1 (wrF_may hqe) (fun W pb h1 h2 h3 => write_cl W pb _ _ q s h1 h2 h3 hss)
  generalize (wrF q s).2.2.2 = out at *
  generalize (wrF q s).2.1 = er at *
  generalize rdR g R N (pn m n) = R2 at *
  generalize cN N (pn m n) (wrF q s).1 (wrF q s).2.2.1 = N2 at *
  generalize ck k (wrF q s).1 = k2 at *
  have hns : ∀ k, v.S k → k < w.heap.size := fun k hk => Nat.lt_of_not_le fun hle => hv.notS hle hk
  unfold birthV VW.p at *
  have hmf : ∀ (fn : Fn) (first cap : Array Value) (w : World), (Instr.makeFunc fn first cap).run Tryz.prog w = .ok (.func fn first cap) w := fun _ _ _ _ => rfl
  clear hq hs he hk hqe hq5
  go_enter Tryz.func38, Tryz.ntmps38
  go_wp2_with fail
  refine hch.mono ?_
  rintro e w1 ⟨rfl, hv1, ho1, hF1⟩
  have c0 := blk_cell ho1 0
  simp only [List.getElem?_toArray, List.getElem?_cons_zero] at c0
  go_wp2_with fail
  go_ret2
  exact ⟨rfl, hv1, ((Fr.of_below hB).trans' hF1 (by rintro i (h | h); exact .inl h; exact .inr (by omega)))⟩

set_option maxRecDepth 100000 in
set_option maxHeartbeats 8000000 in
theorem join_ok (w : World) (v : VW) (g : Nm → Option ByteArray) (R N : List (Nm × Ch)) (k : Nat) (hv : IsView w v g R N k) (hk : k < 1000000) (m : ByteArray) (n : Int) (hb : GB m n) (ep : Int) (he : within ep 1073741824 = true)
    (hs : (shV g N (pn m n)).1.size ≤ 140737488355328) (q : Pp) (hq : pget (shV g N (pn m n)).1 ep = (q, 0)) (hqe : q.err = 0) (b : Bool) :
    Calls Tryz.prog 65 #[v.p, birthV m n, .int .i64 ep, .bool b] w fun e w' => e = .returned (.int .i64 (jnF q b).2.1) ∧
      IsView w' v g (rdR g R N (pn m n)) (cN N (pn m n) (jnF q b).1 (jnF q b).2.2) (ck k (jnF q b).1) ∧ Fr v.S w w' := by
  have hB := below_new2 w (.cells #[.string m, .int .i64 n] 47) (.cells #[.bool b] 4)
  have hi := blk_new1 w (.cells #[.string m, .int .i64 n] 47) (.cells #[.bool b] 4)
  have hch := change_139 _ v g R N k (hv.below hB) hk m n hb ep he hs (w.heap.size + 1) _ hi (hv.notS (by omega))
    q (jnF q b).2.2 hq (jnF q b).1 (jnF q b).2.1 (jnF_may hqe) (fun W pb h1 h2 => join_cl W pb _ q b h1 h2 (side_bound hqe b))
  generalize (jnF q b).2.1 = er at *
  generalize rdR g R N (pn m n) = R2 at *
  generalize cN N (pn m n) (jnF q b).1 (jnF q b).2.2 = N2 at *
  generalize ck k (jnF q b).1 = k2 at *
  unfold birthV VW.p at *
  have hmf : ∀ (fn : Fn) (first cap : Array Value) (w : World), (Instr.makeFunc fn first cap).run Tryz.prog w = .ok (.func fn first cap) w := fun _ _ _ _ => rfl
  clear hq hs he hk hqe
  go_enter Tryz.func65, Tryz.ntmps65
  go_wp2_with fail
  refine hch.mono ?_
  rintro e w1 ⟨rfl, hv1, hF1⟩
  go_wp2_with fail
  go_ret
  exact ⟨rfl, hv1, (Fr.of_below hB).trans hF1⟩

set_option maxRecDepth 100000 in
set_option maxHeartbeats 8000000 in
theorem leave_ok (w : World) (v : VW) (g : Nm → Option ByteArray) (R N : List (Nm × Ch)) (k : Nat) (hv : IsView w v g R N k) (hk : k < 1000000) (m : ByteArray) (n : Int) (hb : GB m n) (ep : Int) (he : within ep 1073741824 = true)
    (hs : (shV g N (pn m n)).1.size ≤ 140737488355328) (q : Pp) (hq : pget (shV g N (pn m n)).1 ep = (q, 0)) (hqe : q.err = 0) (b : Bool) :
    Calls Tryz.prog 66 #[v.p, birthV m n, .int .i64 ep, .bool b] w fun e w' => e = .returned (.int .i64 (lvF q b).2.1) ∧
      IsView w' v g (rdR g R N (pn m n)) (cN N (pn m n) (lvF q b).1 (lvF q b).2.2) (ck k (lvF q b).1) ∧ Fr v.S w w' := by
  have hB := below_new2 w (.cells #[.string m, .int .i64 n] 47) (.cells #[.bool b] 4)
  have hi := blk_new1 w (.cells #[.string m, .int .i64 n] 47) (.cells #[.bool b] 4)
  have hch := change_141 _ v g R N k (hv.below hB) hk m n hb ep he hs (w.heap.size + 1) _ hi (hv.notS (by omega))
    q (lvF q b).2.2 hq (lvF q b).1 (lvF q b).2.1 (lvF_may hqe) (fun W pb h1 h2 => leave_cl W pb _ q b h1 h2 (side_bound hqe b))
  generalize (lvF q b).2.1 = er at *
  generalize rdR g R N (pn m n) = R2 at *
  generalize cN N (pn m n) (lvF q b).1 (lvF q b).2.2 = N2 at *
  generalize ck k (lvF q b).1 = k2 at *
  unfold birthV VW.p at *
  have hmf : ∀ (fn : Fn) (first cap : Array Value) (w : World), (Instr.makeFunc fn first cap).run Tryz.prog w = .ok (.func fn first cap) w := fun _ _ _ _ => rfl
  clear hq hs he hk hqe
  go_enter Tryz.func66, Tryz.ntmps66
  go_wp2_with fail
  refine hch.mono ?_
  rintro e w1 ⟨rfl, hv1, hF1⟩
  go_wp2_with fail
  go_ret
  exact ⟨rfl, hv1, (Fr.of_below hB).trans hF1⟩

end Go.Proofs.YtdjjfjnkkgmadaaGreatDoor
