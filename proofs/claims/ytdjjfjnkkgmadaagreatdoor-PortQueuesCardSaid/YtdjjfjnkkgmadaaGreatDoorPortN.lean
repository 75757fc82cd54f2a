/-
  Ports: Arrive, Receive.
-/
import Derived.Test.YtdjjfjnkkgmadaaGreatDoorPortM
namespace Go.Proofs.YtdjjfjnkkgmadaaGreatDoor
open Go Go.RowKit

/-- What arriving does: whether anything is written, the error, the port. -/
def arO (n ep : Int) (p : Pk) (s : ByteArray) : Bool × Int × Po := if begErr ⟨#[]⟩ n ep ≠ 0 then (false, begErr ⟨#[]⟩ n ep, Po.zero) else if p.err ≠ 0 then (false, p.err, Po.zero) else if (rdP s ep).2 ≠ 0 then (false, (rdP s ep).2, Po.zero) else arF (rdP s ep).1 p
def arR (n ep : Int) (p : Pk) (R R' : List (Nm × Ch)) : List (Nm × Ch) := if begErr ⟨#[]⟩ n ep ≠ 0 then R else if p.err ≠ 0 then R else R'
/-- What receiving does. -/
def rcO (who : ByteArray) (n ep : Int) (s : ByteArray) : Bool × Int × Po × Pk := if begErr who n ep ≠ 0 then (false, begErr who n ep, Po.zero, Pk.zero) else if (rdP s ep).2 ≠ 0 then (false, (rdP s ep).2, Po.zero, Pk.zero) else rcF (rdP s ep).1 who

theorem perrs_snoc (l : List Pk) (p : Pk) (h : perrs l = 0) (hp : p.err = 0) : perrs (l ++ [p]) = 0 := by
  induction l with
  | nil => simp [perrs, hp]
  | cons a r ih =>
    rw [perrs] at h
    by_cases ha : a.err ≠ 0
    · rw [if_pos ha] at h; exact absurd h ha
    · rw [if_neg ha] at h
      rw [List.cons_append, perrs, if_neg ha]
      exact ih h

theorem Po.err_of {p : Po} (h1 : Ln.valid p.o.data.toList = true) (h2 : 0 ≤ p.e ∧ p.e ≤ 1073741824) (h3 : 0 ≤ p.l ∧ p.l ≤ 1073741824) (h4 : p.q.length ≤ 16) (h5 : perrs p.q = 0) : p.err = 0 := by
  unfold Po.err
  rw [if_neg (by simp [h1]), if_neg (by simp [within, h2]), if_neg (by simp [within, h3]), if_neg (by omega), h5]

theorem arF_err {q : Po} {p : Pk} (hq : q.err = 0) (hp : p.err = 0) (h : (arF q p).1 = true) : (arF q p).2.2.err = 0 := by
  obtain ⟨h1, _, h2, h3, h4, h5⟩ := Po.err_zero hq
  unfold arF at *
  by_cases h16 : q.q.length = 16
  · rw [if_pos h16] at h ⊢
    simp only [decide_eq_true_eq] at h
    simp only [if_pos h]
    exact Po.err_of h1 h2 ⟨by show 0 ≤ q.l + 1; omega, by show q.l + 1 ≤ 1073741824; omega⟩ h4 h5
  · rw [if_neg h16]
    exact Po.err_of h1 h2 h3 (by show (q.q ++ [p]).length ≤ 16; simp; omega) (perrs_snoc _ _ h5 hp)

theorem rcF_err {q : Po} {who : ByteArray} (hq : q.err = 0) (h : (rcF q who).1 = true) : (rcF q who).2.2.1.err = 0 := by
  obtain ⟨h1, _, h2, h3, h4, h5⟩ := Po.err_zero hq
  unfold rcF at *
  by_cases ho : q.o ≠ who
  · rw [if_pos ho] at h; cases h
  · rw [if_neg ho] at h ⊢
    cases hL : q.q with
    | nil => rw [hL] at h; cases h
    | cons p t =>
      rw [hL] at h4 h5
      simp only
      rw [perrs] at h5
      by_cases ha : p.err ≠ 0
      · rw [if_pos ha] at h5; exact absurd h5 ha
      · rw [if_neg ha] at h5
        exact Po.err_of h1 h2 h3 (by simp at h4; show t.length ≤ 16; omega) h5

set_option maxRecDepth 100000 in
theorem arrive37_nil (w : World) (n ep : Int) (p : Pk) : Calls Tryz.prog 77 #[.pointer none, .int .i64 n, .int .i64 ep, p.v] w fun e w' => e = .returned (.int .i64 1) ∧ Below w.heap.size w w' := by
  have hbeg := begin37_nil ⟨#[]⟩ n ep
  unfold Pk.v
  go_enter Tryz.func77, Tryz.ntmps77
  go_wp2_with (go_at_call 146; refine (hbeg _).mono ?_; rintro e w1 ⟨rfl, rfl⟩)
  go_ret
  exact ⟨rfl, below_new1 w _⟩

set_option maxRecDepth 100000 in
set_option maxHeartbeats 8000000 in
theorem arrive37_any (w : World) (v : VW) (g : Nm → Option ByteArray) (R N : List (Nm × Ch)) (k : Nat) (hv : IsView w v g R N k) (hk : k < 1000000) (n ep : Int) (p : Pk) (hp : p.f.size ≤ maxLen) (hs : (shV g N (xn n)).1.size ≤ 140737488355328) :
    Calls Tryz.prog 77 #[v.p, .int .i64 n, .int .i64 ep, p.v] w fun e w' => e = .returned (.int .i64 (arO n ep p (shV g N (xn n)).1).2.1) ∧
      IsView w' v g (arR n ep p R (rdR g R N (xn n))) (pN N (xn n) (arO n ep p (shV g N (xn n)).1).1 (arO n ep p (shV g N (xn n)).1).2.2) (ckp k (arO n ep p (shV g N (xn n)).1).1) ∧ Fr v.S w w' := by
  have hbeg := fun a => begin37_any a ⟨#[]⟩ (by decide) n ep
  have hchk := fun w => pkCheck_any p hp w
  have hX := blk_new w (.cells #[.string p.f, .string p.b] 123)
  have hmf : ∀ (fn : Fn) (first cap : Array Value) (w : World), (Instr.makeFunc fn first cap).run Tryz.prog w = .ok (.func fn first cap) w := fun _ _ _ _ => rfl
  unfold arO arR
  by_cases h : begErr ⟨#[]⟩ n ep = 0
  · have hb : ¬ begErr ⟨#[]⟩ n ep ≠ 0 := fun h' => h' h
    simp only [if_neg hb]
    clear hb
    have hz := begErr_zero h
    rw [h] at hbeg
    by_cases hpe : p.err = 0
    · have hpp : ¬ p.err ≠ 0 := fun h' => h' hpe
      simp only [if_neg hpp]
      clear hpp
      rw [hpe] at hchk
      rcases rdP_err (shV g N (xn n)).1 ep with hq | ⟨hq1, hq2, hq3⟩
      · have h80 : (8 : Int) ≠ 0 := by decide
        simp only [hq, if_pos h80]
        clear h80
        have hch := fun W h' fv => pchange_no W v g R N k h' n hz.2.1 ep hs fv hq
        generalize rdR g R N (xn n) = R2 at *
        unfold Pk.v VW.p at *
        clear hq h hpe hz hs
        go_enter Tryz.func77, Tryz.ntmps77
        go_wp2_with (first | (go_at_call 146; refine (hbeg _ _).mono ?_; rintro e w1 ⟨rfl, hB1⟩; have hX1 := hB1.heapS hX; obtain ⟨c0, c1⟩ := blk2 hX1) | (go_at_call 121; refine (hchk _).mono ?_; rintro e w2 ⟨rfl, hB2⟩))
        have hBa := ((below_new1 w _).trans' hB1).trans' hB2
        refine (hch _ (hv.below hBa) _).mono ?_
        rintro e w3 ⟨rfl, hv3, hF3⟩
        go_wp2_with fail
        go_ret
        exact ⟨rfl, by simpa [pN, ckp] using hv3, (Fr.of_below hBa).trans hF3⟩
      · have hqq : ¬ (rdP (shV g N (xn n)).1 ep).2 ≠ 0 := fun h' => h' hq1
        simp only [if_neg hqq]
        clear hqq
        have hqe := (rdP_ok hq1).1
        have hsm := rdP_small (shV g N (xn n)).1 ep
        have hqz := Po.err_zero hqe
        generalize hD : rdP (shV g N (xn n)).1 ep = D at *
        obtain ⟨q, qe⟩ := D
        simp only at hq1 hqe hqz hsm ⊢
        subst hq1
        have hch := fun W (h' : IsView W v g R N k) ob (ho : W.heap[ob]? = some (.cells #[.string p.f, .string p.b] 123 (0, 0))) (hos : ¬ v.S ob) => pchange_149 W v g R N k h' hk n hz.2.1 ep hs ob _ _ ho hos q (arF q p).2.2 hD (arF q p).1 (arF q p).2.1 (arF_err hqe hpe)
          (fun W2 pb qv hpb hWs hP hown hF => (arrive_cl W2 pb ob W.heap.size q qv p hP (hF.heap hos ho) hown hpb hqz.2.2.2.2.1 hqz.2.2.2.1 hWs).mono (fun e W3 ⟨qv', h1, h2, h3, h4, h5⟩ => ⟨qv', h1, h2, pks_of_owns h3 (fun x hx => by
              unfold arF at hx
              split at hx
              · simp only at hx
                split at hx <;> exact hsm x hx
              · rcases List.mem_append.1 hx with hx | hx
                · exact hsm x hx
                · simp at hx
                  subst hx
                  have := Pk.err_zero hpe
                  unfold maxLen
                  omega), h4.heap (by have := lt_of_block ho; omega) (hF.heap hos ho), h4.mono (fun _ h => .inr h), h5⟩))
        generalize rdR g R N (xn n) = R2 at *
        generalize arF q p = out at *
        obtain ⟨ch, er, q'⟩ := out
        simp only at hch ⊢
        generalize pN N (xn n) ch q' = N2 at *
        unfold Pk.v VW.p at *
        clear h hpe hz hs hq2 hq3 hD hqe hsm hqz hk
        go_enter Tryz.func77, Tryz.ntmps77
        go_wp2_with (first | (go_at_call 146; refine (hbeg _ _).mono ?_; rintro e w1 ⟨rfl, hB1⟩; have hX1 := hB1.heapS hX; obtain ⟨c0, c1⟩ := blk2 hX1) | (go_at_call 121; refine (hchk _).mono ?_; rintro e w2 ⟨rfl, hB2⟩))
        have hBa := ((below_new1 w _).trans' hB1).trans' hB2
        refine (hch _ (hv.below hBa) w.heap.size (hB2.heapS hX1) (hv.notS (Nat.le_refl _))).mono ?_
        rintro e w3 ⟨rfl, hv3, ho3, hF3⟩
        go_wp2_with fail
        go_ret
        exact ⟨rfl, hv3, (Fr.of_below hBa).trans' hF3 (by rintro i (h | rfl); exact .inl h; exact .inr (Nat.le_refl _))⟩
    · have hpp : p.err ≠ 0 := hpe
      simp only [if_pos hpp]
      clear hpp
      generalize p.err = er at *
      have h' : (er != 0) = true := by rw [bne_iff_ne]; exact hpe
      unfold Pk.v VW.p at *
      clear h hpe hz hs
      go_enter Tryz.func77, Tryz.ntmps77
      go_wp2_with (first | (go_at_call 146; refine (hbeg _ _).mono ?_; rintro e w1 ⟨rfl, hB1⟩; have hX1 := hB1.heapS hX; obtain ⟨c0, c1⟩ := blk2 hX1) | (go_at_call 121; refine (hchk _).mono ?_; rintro e w2 ⟨rfl, hB2⟩))
      go_ret
      have hBa := ((below_new1 w _).trans' hB1).trans' hB2
      exact ⟨rfl, by simpa [pN, ckp] using hv.below hBa, Fr.of_below hBa⟩
  · have hb : begErr ⟨#[]⟩ n ep ≠ 0 := h
    simp only [if_pos hb]
    clear hb
    generalize begErr ⟨#[]⟩ n ep = er at *
    have h' : (er != 0) = true := by rw [bne_iff_ne]; exact h
    unfold Pk.v VW.p at *
    clear h hs
    go_enter Tryz.func77, Tryz.ntmps77
    go_wp2_with (go_at_call 146; refine (hbeg _ _).mono ?_; rintro e w1 ⟨rfl, hB1⟩)
    go_ret
    have hBa := (below_new1 w _).trans' hB1
    exact ⟨rfl, by simpa [pN, ckp] using hv.below hBa, Fr.of_below hBa⟩

set_option maxRecDepth 100000 in
theorem receive37_nil (w : World) (who : ByteArray) (n ep : Int) : Calls Tryz.prog 79 #[.pointer none, .string who, .int .i64 n, .int .i64 ep] w fun e w' => e = .returned (.tuple #[Pk.zero.v, .int .i64 1]) ∧ Below w.heap.size w w' := by
  have hbeg := begin37_nil who n ep
  have hZ := blk_new1 w (.cells #[.string who] 45) (.cells #[.string ⟨#[]⟩, .string ⟨#[]⟩] 123)
  unfold Pk.v Pk.zero
  go_enter Tryz.func79, Tryz.ntmps79
  go_wp2_with (first | (go_at_call 146; refine (hbeg _).mono ?_; rintro e w1 ⟨rfl, rfl⟩) | (refine wpList_store_row rfl 123 _ _ rfl (w.heap.size + 1) #[.string ⟨#[]⟩, .string ⟨#[]⟩] rfl rfl 123 _ hZ (by kernel_rfl) rfl (by simp [Value.oneCell']) ?_))
  refine bodyPost_ret (results_row_tmp rfl _ _ (w.heap.size + 1) 123 #[.string ⟨#[]⟩, .string ⟨#[]⟩] (0, 0) _ rfl (setRow_heap _ _ _ _ _ _ hZ) Tryz.underlying123 rfl (by kernel_rfl)) rfl ⟨rfl, ?_⟩
  exact (below_new2 w _ _).setRow (Nat.le_succ _) _

set_option maxRecDepth 100000 in
set_option maxHeartbeats 8000000 in
theorem receive37_any (w : World) (v : VW) (g : Nm → Option ByteArray) (R N : List (Nm × Ch)) (k : Nat) (hv : IsView w v g R N k) (hk : k < 1000000) (who : ByteArray) (hw : who.size ≤ maxLen) (n ep : Int) (hs : (shV g N (xn n)).1.size ≤ 140737488355328) :
    Calls Tryz.prog 79 #[v.p, .string who, .int .i64 n, .int .i64 ep] w fun e w' => e = .returned (.tuple #[(rcO who n ep (shV g N (xn n)).1).2.2.2.v, .int .i64 (rcO who n ep (shV g N (xn n)).1).2.1]) ∧
      IsView w' v g (bgR who n ep R (rdR g R N (xn n))) (pN N (xn n) (rcO who n ep (shV g N (xn n)).1).1 (rcO who n ep (shV g N (xn n)).1).2.2.1) (ckp k (rcO who n ep (shV g N (xn n)).1).1) ∧ Fr v.S w w' := by
  have hbeg := fun a => begin37_any a who hw n ep
  have hX := blk_alloc (blk_new w (.cells #[.string who] 45)) (.cells #[.string ⟨#[]⟩, .string ⟨#[]⟩] 123)
  have hZ := blk_new1 w (.cells #[.string who] 45) (.cells #[.string ⟨#[]⟩, .string ⟨#[]⟩] 123)
  have hA := below_new2 w (.cells #[.string who] 45) (.cells #[.string ⟨#[]⟩, .string ⟨#[]⟩] 123)
  have hmf : ∀ (fn : Fn) (first cap : Array Value) (w : World), (Instr.makeFunc fn first cap).run Tryz.prog w = .ok (.func fn first cap) w := fun _ _ _ _ => rfl
  have hn0 : ¬ v.S w.heap.size := hv.notS (Nat.le_refl _)
  have hn1 : ¬ v.S (w.heap.size + 1) := hv.notS (Nat.le_succ _)
  unfold rcO bgR
  by_cases h : begErr who n ep = 0
  · have hb : ¬ begErr who n ep ≠ 0 := fun h' => h' h
    simp only [if_neg hb]
    clear hb
    have hz := begErr_zero h
    rw [h] at hbeg
    have hns : ∀ k, v.S k → k < w.heap.size := fun k hk => Nat.lt_of_not_le fun hle => hv.notS hle hk
    rcases rdP_err (shV g N (xn n)).1 ep with hq | ⟨hq1, hq2, hq3⟩
    · have h80 : (8 : Int) ≠ 0 := by decide
      simp only [hq, if_pos h80]
      clear h80
      have hch := fun W h' fv => pchange_no W v g R N k h' n hz.2.1 ep hs fv hq
      generalize rdR g R N (xn n) = R2 at *
      unfold Pk.v Pk.zero VW.p at *
      clear hq h hz hs
      go_enter Tryz.func79, Tryz.ntmps79
      go_wp2_with (go_at_call 146; refine (hbeg _ _).mono ?_; rintro e w1 ⟨rfl, hB1⟩; have hX1 := hB1.heapS hX; have hZ1 := hB1.heapS hZ; have c0 := blk_cell hX1 0)
      have hBa := hA.trans' hB1
      have hO := blk_new w1 (.cells #[.string ⟨#[]⟩, .string ⟨#[]⟩] 123)
      refine (hch _ (hv.below (hBa.trans' (below_new1 w1 _))) _).mono ?_
      rintro e w3 ⟨rfl, hv3, hF3⟩
      have hZ3 := hF3.heap hn1 (blk_alloc hZ1 (.cells #[.string ⟨#[]⟩, .string ⟨#[]⟩] 123))
      have hO3 := hF3.heap (hv.notS hBa.size) hO
      obtain ⟨e0, e1⟩ := blk2 hO3
      have hF := (Fr.of_below (S := v.S) (hBa.trans' (below_new1 w1 _))).trans hF3
      go_wp2_with (refine wpList_store_row rfl 123 _ _ rfl (w.heap.size + 1) #[.string ⟨#[]⟩, .string ⟨#[]⟩] rfl rfl 123 _ hZ3 (by kernel_rfl) rfl (by simp [Value.oneCell']) ?_)
      refine bodyPost_ret (results_row_tmp rfl _ _ (w.heap.size + 1) 123 #[.string ⟨#[]⟩, .string ⟨#[]⟩] (0, 0) _ rfl (setRow_heap _ _ _ _ _ _ hZ3) Tryz.underlying123 rfl (by kernel_rfl)) rfl ⟨rfl, ?_, ?_⟩
      · simpa [pN, ckp] using hv3.setRow hn1 hZ3 (by simp [StT]) _
      · exact ⟨hF.os, hF.tape, hF.output, by simp [World.setRow]; exact hF.size, fun k hk hs => (setRow_other _ _ k _ (by omega)).trans (hF.block k hk hs)⟩
    · have hqq : ¬ (rdP (shV g N (xn n)).1 ep).2 ≠ 0 := fun h' => h' hq1
      simp only [if_neg hqq]
      clear hqq
      have hqe := (rdP_ok hq1).1
      have hsm := rdP_small (shV g N (xn n)).1 ep
      generalize hD : rdP (shV g N (xn n)).1 ep = D at *
      obtain ⟨q, qe⟩ := D
      simp only at hq1 hqe hsm ⊢
      subst hq1
      have hch := fun W (h' : IsView W v g R N k) wb ob (hwb : W.heap[wb]? = some (.cells #[.string who] 45 (0, 0))) (hws : ¬ v.S wb) (ho : W.heap[ob]? = some (.cells #[.string ⟨#[]⟩, .string ⟨#[]⟩] 123 (0, 0))) (hos : ¬ v.S ob) => pchange_151 W v g R N k h' hk n hz.2.1 ep hs wb ob _ (.cells #[.string (rcF q who).2.2.2.f, .string (rcF q who).2.2.2.b] 123 (0, 0)) ho hos q (rcF q who).2.2.1 hD (rcF q who).1 (rcF q who).2.1 (rcF_err hqe)
        (fun W2 pb qv hpb hWs hP hown hF => receive_cl W2 pb wb ob W.heap.size q qv who hP (hF.heap hws hwb) (hF.heap hos ho) hown hsm hpb (lt_of_block ho))
      generalize rdR g R N (xn n) = R2 at *
      generalize rcF q who = out at *
      obtain ⟨ch, er, q', pk⟩ := out
      simp only at hch ⊢
      generalize pN N (xn n) ch q' = N2 at *
      unfold Pk.v VW.p at *
      clear h hz hs hq2 hq3 hD hqe hsm hk
      go_enter Tryz.func79, Tryz.ntmps79
      go_wp2_with (go_at_call 146; refine (hbeg _ _).mono ?_; rintro e w1 ⟨rfl, hB1⟩; have hX1 := hB1.heapS hX; have hZ1 := hB1.heapS hZ; have c0 := blk_cell hX1 0)
      have hBa := hA.trans' hB1
      have hO := blk_new w1 (.cells #[.string ⟨#[]⟩, .string ⟨#[]⟩] 123)
      refine (hch _ (hv.below (hBa.trans' (below_new1 w1 _))) w.heap.size w1.heap.size (blk_alloc hX1 _) hn0 hO (hv.notS hBa.size)).mono ?_
      rintro e w3 ⟨rfl, hv3, hO3, hF3⟩
      have hs1 := hBa.size
      have hzl := lt_of_block hZ1
      have hZ3 := hF3.heap (k := w.heap.size + 1) (by rintro (h | h); exact hn1 h; omega) (blk_alloc hZ1 (.cells #[.string ⟨#[]⟩, .string ⟨#[]⟩] 123))
      obtain ⟨e0, e1⟩ := blk2 hO3
      have hF : Fr v.S w w3 := (Fr.of_below (S := v.S) (hBa.trans' (below_new1 w1 _))).trans' hF3 (by rintro i (h | rfl); exact .inl h; exact .inr hs1)
      go_wp2_with (refine wpList_store_row rfl 123 _ _ rfl (w.heap.size + 1) #[.string pk.f, .string pk.b] rfl rfl 123 _ hZ3 (by kernel_rfl) rfl (by simp [Value.oneCell']) ?_)
      refine bodyPost_ret (results_row_tmp rfl _ _ (w.heap.size + 1) 123 #[.string pk.f, .string pk.b] (0, 0) _ rfl (setRow_heap _ _ _ _ _ _ hZ3) Tryz.underlying123 rfl (by kernel_rfl)) rfl ⟨rfl, ?_, ?_⟩
      · exact hv3.setRow hn1 hZ3 (by simp [StT]) _
      · exact ⟨hF.os, hF.tape, hF.output, by simp [World.setRow]; exact hF.size, fun k hk hs => (setRow_other _ _ k _ (by omega)).trans (hF.block k hk hs)⟩
  · have hb : begErr who n ep ≠ 0 := h
    simp only [if_pos hb]
    clear hb
    generalize begErr who n ep = er at *
    have h' : (er != 0) = true := by rw [bne_iff_ne]; exact h
    unfold Pk.v Pk.zero VW.p at *
    clear h hs
    go_enter Tryz.func79, Tryz.ntmps79
    go_wp2_with (first | (go_at_call 146; refine (hbeg _ _).mono ?_; rintro e w1 ⟨rfl, hB1⟩; have hX1 := hB1.heapS hX; have hZ1 := hB1.heapS hZ; have c0 := blk_cell hX1 0) | (refine wpList_store_row rfl 123 _ _ rfl (w.heap.size + 1) #[.string ⟨#[]⟩, .string ⟨#[]⟩] rfl rfl 123 _ hZ1 (by kernel_rfl) rfl (by simp [Value.oneCell']) ?_))
    have hBa := hA.trans' hB1
    refine bodyPost_ret (results_row_tmp rfl _ _ (w.heap.size + 1) 123 #[.string ⟨#[]⟩, .string ⟨#[]⟩] (0, 0) _ rfl (setRow_heap _ _ _ _ _ _ hZ1) Tryz.underlying123 rfl (by kernel_rfl)) rfl ⟨rfl, ?_, ?_⟩
    · simpa [pN, ckp] using (hv.below hBa).setRow hn1 hZ1 (by simp [StT]) _
    · exact Fr.of_below (hBa.setRow (Nat.le_succ _) _)

end Go.Proofs.YtdjjfjnkkgmadaaGreatDoor
