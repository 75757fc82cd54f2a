/-
  Ports: begin, read.
-/
import Derived.Test.YtdjjfjnkkgmadaaGreatDoorPortI
import Derived.Test.YtdjjfjnkkgmadaaGreatDoorPipe3
namespace Go.Proofs.YtdjjfjnkkgmadaaGreatDoor
open Go Go.RowKit

/-- The name of a port. -/
def xn (n : Int) : Nm := ⟨16, ⟨#[]⟩, n, 0, ⟨#[]⟩⟩
/-- A port's number. -/
def PN (n : Int) : Prop := 1 ≤ n ∧ n ≤ 9999

theorem PN.ok {n : Int} (h : PN n) : (xn n).ok := by
  unfold PN at h
  exact ⟨show (Lit.int .i64 16).wf = true by decide, show (ByteArray.mk #[]).size ≤ maxLen by decide, wf64 (by show -9223372036854775808 ≤ n; omega) (by show n ≤ 9223372036854775807; omega), show (Lit.int .i64 0).wf = true by decide, show (ByteArray.mk #[]).size ≤ maxLen by decide⟩
theorem PN.passes {n : Int} (h : PN n) : Passes (xn n) := fun W => by
  have := check_port n W
  unfold PN at h
  have e : portErr n = 0 := by
    unfold portErr
    rw [if_neg]
    simp [numOk]
    omega
  rwa [e] at this

/-- The error of the arguments. -/
def begErr (who : ByteArray) (n ep : Int) : Int := if Ln.valid who.data.toList = false then 12 else if n < 1 then 2 else if 9999 < n then 2 else if within ep 1073741824 = false then 2 else 0

theorem begErr_zero {who : ByteArray} {n ep : Int} (h : begErr who n ep = 0) : Ln.valid who.data.toList = true ∧ PN n ∧ within ep 1073741824 = true := by
  unfold begErr at h
  by_cases h1 : Ln.valid who.data.toList = false
  · rw [if_pos h1] at h; cases h
  · rw [if_neg h1] at h
    by_cases h2 : n < 1
    · rw [if_pos h2] at h; cases h
    · rw [if_neg h2] at h
      by_cases h3 : 9999 < n
      · rw [if_pos h3] at h; cases h
      · rw [if_neg h3] at h
        by_cases h4 : within ep 1073741824 = false
        · rw [if_pos h4] at h; cases h
        · exact ⟨by simpa using h1, ⟨by omega, by omega⟩, by simpa using h4⟩

theorem begin37_nil (who : ByteArray) (n ep : Int) (w : World) : Calls Tryz.prog 146 #[.pointer none, .string who, .int .i64 n, .int .i64 ep] w fun e w' => e = .returned (.int .i64 1) ∧ w = w' := by
  go_enter Tryz.func146, Tryz.ntmps146
  go_wp2
  go_ret
  exact ⟨rfl, rfl⟩

set_option maxRecDepth 100000 in
theorem begin37_any (a : Addr) (who : ByteArray) (hw : who.size ≤ maxLen) (n ep : Int) (w : World) : Calls Tryz.prog 146 #[.pointer (some a), .string who, .int .i64 n, .int .i64 ep] w fun e w' => e = .returned (.int .i64 (begErr who n ep)) ∧ Below w.heap.size w w' := by
  have hv := valid_any who hw
  have hc := counts_any ep
  unfold begErr
  cases h1 : Ln.valid who.data.toList with
  | false =>
    rw [h1] at hv
    clear h1
    go_enter Tryz.func146, Tryz.ntmps146
    go_wp2_with (go_at_call 83; refine (hv _).mono ?_; rintro e w1 ⟨hB, rfl⟩)
    go_ret
    exact ⟨rfl, hB⟩
  | true =>
    rw [h1] at hv
    clear h1
    by_cases h2 : n < 1
    · rw [if_neg (by simp), if_pos h2]
      go_enter Tryz.func146, Tryz.ntmps146
      go_wp2_with (go_at_call 83; refine (hv _).mono ?_; rintro e w1 ⟨hB, rfl⟩)
      go_ret
      exact ⟨rfl, hB⟩
    · rw [if_neg (by simp), if_neg h2]
      by_cases h3 : 9999 < n
      · rw [if_pos h3]
        go_enter Tryz.func146, Tryz.ntmps146
        go_wp2_with (go_at_call 83; refine (hv _).mono ?_; rintro e w1 ⟨hB, rfl⟩)
        go_ret
        exact ⟨rfl, hB⟩
      · rw [if_neg h3]
        cases h4 : within ep 1073741824 with
        | false =>
          rw [h4] at hc
          clear h4
          go_enter Tryz.func146, Tryz.ntmps146
          go_wp2_with (first | (go_at_call 83; refine (hv _).mono ?_; rintro e w1 ⟨hB, rfl⟩) | (go_at_call 120; refine (hc _).mono ?_; rintro e w2 ⟨rfl, rfl⟩))
          go_ret
          exact ⟨rfl, hB⟩
        | true =>
          rw [h4] at hc
          clear h4
          go_enter Tryz.func146, Tryz.ntmps146
          go_wp2_with (first | (go_at_call 83; refine (hv _).mono ?_; rintro e w1 ⟨hB, rfl⟩) | (go_at_call 120; refine (hc _).mono ?_; rintro e w2 ⟨rfl, rfl⟩))
          go_ret
          exact ⟨rfl, hB⟩

/-- The open port of a value, or the error. -/
def rdP (s : ByteArray) (ep : Int) : Po × Int := if (Po.dec s.data.toList).2 ≠ 0 then (Po.zero, 8) else if (Po.dec s.data.toList).1.e ≠ ep then (Po.zero, 8) else ((Po.dec s.data.toList).1, 0)

theorem rdP_err (s : ByteArray) (ep : Int) : (rdP s ep = (Po.zero, 8)) ∨ ((rdP s ep).2 = 0 ∧ rdP s ep = (Po.dec s.data.toList) ∧ (rdP s ep).1.e = ep) := by
  unfold rdP
  by_cases h1 : (Po.dec s.data.toList).2 ≠ 0
  · rw [if_pos h1]; exact .inl rfl
  · rw [if_neg h1]
    by_cases h2 : (Po.dec s.data.toList).1.e ≠ ep
    · rw [if_pos h2]; exact .inl rfl
    · rw [if_neg h2]
      refine .inr ⟨rfl, ?_, Decidable.not_not.1 h2⟩
      have := Decidable.not_not.1 h1
      rw [← this]

theorem rdP_small (s : ByteArray) (ep : Int) : ∀ p ∈ (rdP s ep).1.q, p.f.size ≤ maxLen ∧ p.b.size ≤ maxLen := by
  rcases rdP_err s ep with h | ⟨_, h, _⟩
  · rw [h]; intro p hp; simp [Po.zero] at hp
  · rw [h]; exact dec_small _

theorem rdP_ok {s : ByteArray} {ep : Int} (h : (rdP s ep).2 = 0) : (rdP s ep).1.err = 0 ∧ (rdP s ep).1.e = ep ∧ bs (rdP s ep).1.enc = s := by
  rcases rdP_err s ep with h' | ⟨h1, h2, h3⟩
  · rw [h'] at h; cases h
  · rw [h2] at h h3 ⊢
    have := Po.dec_zero h
    exact ⟨this.1, h3, by rw [this.2, bs_of]⟩

theorem rdP_enc {p : Po} (h : p.err = 0) (ep : Int) : rdP (bs p.enc) ep = if p.e = ep then (p, 0) else (Po.zero, 8) := by
  unfold rdP
  rw [bs_list, Po.dec_enc h]
  simp only [ne_eq, not_true_eq_false, if_false]
  by_cases e : p.e = ep <;> simp [e]

theorem rdP_none (ep : Int) : rdP ⟨#[]⟩ ep = (Po.zero, 8) := by
  have : (Po.dec (ByteArray.mk #[]).data.toList).2 ≠ 0 := by
    have e : (ByteArray.mk #[]).data.toList = [] := rfl
    rw [e]
    have : Po.dec [] = (Po.zero, 28) ∨ Po.dec [] = (Po.zero, 3) := by
      simp [Po.dec, Po.read, Cd.rtxt, Cd.txt, Cd.rnum, Cd.dec, Cd.rclose, rpks]
    rcases this with h | h <;> rw [h] <;> decide
  rw [rdP, if_pos this]

set_option maxRecDepth 100000 in
set_option maxHeartbeats 4000000 in
theorem read37_ok (w : World) (v : VW) (g : Nm → Option ByteArray) (R N : List (Nm × Ch)) (k : Nat) (hv : IsView w v g R N k) (n : Int) (hn : PN n) (ep : Int) (hs : (shV g N (xn n)).1.size ≤ 140737488355328) :
    Calls Tryz.prog 147 #[v.p, .int .i64 n, .int .i64 ep] w fun e w' => ∃ qv, e = .returned (.tuple #[(rdP (shV g N (xn n)).1 ep).1.v qv, .int .i64 (rdP (shV g N (xn n)).1 ep).2]) ∧
      w'.ownsRow w.heap.size 123 2 qv (rdP (shV g N (xn n)).1 ep).1.q.length (pvs (rdP (shV g N (xn n)).1 ep).1.q) ∧ IsView w' v g (rdR g R N (xn n)) N k ∧ Fr v.S w w' := by
  have hof := fun w => ofPort_any n w
  have hget := fun W (h : IsView W v g R N k) => get_ok W v g R N k h (xn n) hn.ok hn.passes
  have hdec := fun w => portDecode_any (shV g N (xn n)).1 hs w
  generalize hD : rdP (shV g N (xn n)).1 ep = D
  have HD := Lib.hid hD
  clear hD
  generalize (shV g N (xn n)).2 = there at *
  generalize (shV g N (xn n)).1 = s at *
  generalize rdR g R N (xn n) = R2 at *
  unfold rdP at HD
  generalize Po.dec s.data.toList = q at *
  obtain ⟨q, qe⟩ := q
  unfold nameV at hof
  unfold Nm.v xn at hget
  simp only at hget hdec HD
  unfold Po.v VW.p at *
  go_enter Tryz.func147, Tryz.ntmps147
  go_wp2_with (go_at_call 85; refine (hof _).mono ?_; rintro e w2 ⟨rfl, hB2⟩; have hv2 := hv.below ((below_new1 w _).trans' hB2))
  refine (hget _ hv2).mono ?_
  rintro e w3 ⟨rfl, hv3, hF3⟩
  have hBall := (below_new1 w (.cells #[.string ⟨#[]⟩, .int .i64 0, .int .i64 0, .slice none 0 0] 56)).trans' hB2
  have hz3 := hF3.heap (hv.notS (Nat.le_refl _)) (hB2.heapS (blk_new w _))
  have hzlt : w.heap.size < w3.heap.size := lt_of_block hz3
  have hFr : ∀ {w4 : World}, Below w3.heap.size w3 w4 → Fr v.S w w4 := fun h => ((Fr.of_below hBall).trans hF3).trans (Fr.of_below h)
  have hZr : ∀ {w4 : World} cs, Fr v.S w w4 → Fr v.S w (w4.setRow w.heap.size cs) := fun cs h => ⟨h.os, h.tape, h.output, by simp [World.setRow]; exact h.size, fun k hk hs => (setRow_other _ _ k _ (by omega)).trans (h.block k hk hs)⟩
  go_wp2_with fail
  refine (hdec _).mono ?_
  rintro e w4 ⟨qv, rfl, hown, hB4⟩
  have hz4 := hB4.heapS hz3
  clear hof hget hdec hz3
  obtain ⟨av, cv, rfl⟩ := owns_slice hown
  have hz5 := blk_alloc hz4 (.cells #[.string q.o, .int .i64 q.e, .int .i64 q.l, .slice av q.q.length cv] 56)
  have hown5 := hown.alloc (.cells #[.string q.o, .int .i64 q.e, .int .i64 q.l, .slice av q.q.length cv] 56)
  have hlt5 := lt_of_block hz4
  by_cases h1 : qe = 0
  · subst h1
    by_cases h2 : q.e = ep
    · obtain rfl : (q, (0 : Int)) = D := by rw [← HD.out, if_neg (by simp), if_neg (by simp [h2])]
      have h2' : (q.e != ep) = false := by simp [h2]
      have H2 := Lib.hid h2
      clear h2
      go_wp2_with (refine wpList_store_row rfl 56 _ _ rfl w.heap.size #[.string q.o, .int .i64 q.e, .int .i64 q.l, .slice av q.q.length cv] rfl rfl 56 _ hz5 (by kernel_rfl) rfl (by simp [Value.oneCell']) ?_)
      refine bodyPost_ret (results_row_tmp rfl _ _ w.heap.size 56 #[.string q.o, .int .i64 q.e, .int .i64 q.l, .slice av q.q.length cv] (0, 0) _ rfl (setRow_heap _ _ _ _ _ _ hz5) Tryz.underlying56 rfl (by kernel_rfl)) rfl ⟨_, rfl, ?_, ?_, ?_⟩
      · exact ownsRow_mono (owns_low hown5 (Fr.setRow1 _ w.heap.size _) (fun k hk => by omega)) (by omega)
      · exact (hv3.below (hB4.alloc hB4.size _)).setRow (hv.notS (Nat.le_refl _)) hz5 (by simp [StT]) _
      · exact hZr _ (hFr (hB4.alloc hB4.size _))
    · obtain rfl : (Po.zero, (8 : Int)) = D := by rw [← HD.out, if_neg (by simp), if_pos h2]
      have h2' : (q.e != ep) = true := by simpa using h2
      go_wp2_with (refine wpList_store_row rfl 56 _ _ rfl w.heap.size #[.string ⟨#[]⟩, .int .i64 0, .int .i64 0, .slice none 0 0] rfl rfl 56 _ hz5 (by kernel_rfl) rfl (by simp [Value.oneCell']) ?_)
      refine bodyPost_ret (results_row_tmp rfl _ _ w.heap.size 56 #[.string ⟨#[]⟩, .int .i64 0, .int .i64 0, .slice none 0 0] (0, 0) _ rfl (setRow_heap _ _ _ _ _ _ hz5) Tryz.underlying56 rfl (by kernel_rfl)) rfl ⟨.slice none 0 0, rfl, World.ownsRow_nil _ _ _ _, ?_, ?_⟩
      · exact (hv3.below (hB4.alloc hB4.size _)).setRow (hv.notS (Nat.le_refl _)) hz5 (by simp [StT]) _
      · exact hZr _ (hFr (hB4.alloc hB4.size _))
  · obtain rfl : (Po.zero, (8 : Int)) = D := by rw [← HD.out, if_pos h1]
    have h1' : (qe != 0) = true := by simpa using h1
    go_wp2_with (refine wpList_store_row rfl 56 _ _ rfl w.heap.size #[.string ⟨#[]⟩, .int .i64 0, .int .i64 0, .slice none 0 0] rfl rfl 56 _ hz5 (by kernel_rfl) rfl (by simp [Value.oneCell']) ?_)
    refine bodyPost_ret (results_row_tmp rfl _ _ w.heap.size 56 #[.string ⟨#[]⟩, .int .i64 0, .int .i64 0, .slice none 0 0] (0, 0) _ rfl (setRow_heap _ _ _ _ _ _ hz5) Tryz.underlying56 rfl (by kernel_rfl)) rfl ⟨.slice none 0 0, rfl, World.ownsRow_nil _ _ _ _, ?_, ?_⟩
    · exact (hv3.below (hB4.alloc hB4.size _)).setRow (hv.notS (Nat.le_refl _)) hz5 (by simp [StT]) _
    · exact hZr _ (hFr (hB4.alloc hB4.size _))

end Go.Proofs.YtdjjfjnkkgmadaaGreatDoor
