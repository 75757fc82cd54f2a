/-
  One port in a view: the operations in terms of the port; replevinlaw37.known.
-/
import Derived.Test.YtdjjfjnkkgmadaaGreatDoorPortN
import Derived.Test.YtdjjfjnkkgmadaaGreatDoorPipeP
namespace Go.Proofs.YtdjjfjnkkgmadaaGreatDoor
open Go Go.RowKit

/-- The value of a port's object. -/
def so (q : Option Po) : ByteArray := match q with
  | some p => bs p.enc
  | none => ⟨#[]⟩
def okQ (q : Option Po) : Prop := ∀ p, q = some p → p.err = 0

/-- The view shows this port under a number. -/
def HPo (w : World) (v : VW) (k : Nat) (n : Int) (q : Option Po) : Prop := ∃ g R N, IsView w v g R N k ∧ okQ q ∧ shV g N (xn n) = (so q, q.isSome)

theorem HPo.below {w w' : World} {v : VW} {k : Nat} {n : Int} {q : Option Po} (h : HPo w v k n q) (hB : Below w.heap.size w w') : HPo w' v k n q := by
  obtain ⟨g, R, N, h1, h2⟩ := h
  exact ⟨g, R, N, h1.below hB, h2⟩
theorem HPo.notS {w : World} {v : VW} {k : Nat} {n : Int} {q : Option Po} (h : HPo w v k n q) {j : Nat} (hj : w.heap.size ≤ j) : ¬ v.S j := by
  obtain ⟨g, R, N, h1, h2⟩ := h
  exact h1.notS hj
theorem hpo_new {w : World} {v : VW} {R : List (Nm × Ch)} {k : Nat} (h : IsView w v (fun _ => none) R [] k) (n : Int) : HPo w v k n none := ⟨_, _, _, h, (fun p h => by cases h), rfl⟩

theorem okQ_none : okQ none := fun p h => by cases h
theorem okQ_some {p : Po} (h : p.err = 0) : okQ (some p) := fun x hx => by cases hx; exact h

theorem so_size {q : Option Po} (h : okQ q) : (so q).size ≤ 140737488355328 := by
  cases q with
  | none => decide
  | some p =>
    show (bs p.enc).size ≤ _
    rw [bs_size]
    have := Po.enc_size (h p rfl)
    omega

theorem rdP_so_none (ep : Int) : rdP (so none) ep = (Po.zero, 8) := rdP_none ep
theorem rdP_so_some {p : Po} (h : p.err = 0) (ep : Int) : rdP (so (some p)) ep = if p.e = ep then (p, 0) else (Po.zero, 8) := rdP_enc h ep

theorem open_po (w : World) (v : VW) (k : Nat) (n : Int) (q : Option Po) (h : HPo w v k n q) (hk : k < 1000000) (who : ByteArray) (hw : who.size ≤ maxLen) (u0 ep : Int) :
    Calls Tryz.prog 75 #[v.p, .string who, .agg #[.int .i64 u0, .slice none 0 0], .int .i64 n, .int .i64 ep] w fun e w' => e = .returned (.int .i64 (opE who u0 n ep (so q))) ∧ HPo w' v (ckp k (decide (opE who u0 n ep (so q) = 0))) n (if opE who u0 n ep (so q) = 0 then some (Po.fresh who ep) else q) ∧ Fr v.S w w' := by
  obtain ⟨g, R, N, h1, h2, h3⟩ := h
  refine (open37_any w v g R N k h1 hk who hw u0 n ep (by rw [h3]; exact so_size h2)).mono ?_
  rw [h3]
  rintro e w' ⟨rfl, h4, h5⟩
  refine ⟨rfl, ⟨_, _, _, h4, ?_, ?_⟩, h5⟩
  · by_cases h0 : opE who u0 n ep (so q) = 0
    · rw [if_pos h0]
      have hb : begErr who n ep = 0 := by
        unfold opE at h0
        by_cases hb : begErr who n ep ≠ 0
        · rw [if_pos hb] at h0; exact absurd h0 hb
        · exact Decidable.not_not.1 hb
      have hz := begErr_zero hb
      exact okQ_some (Po.fresh_err hz.1 hz.2.2)
    · rw [if_neg h0]; exact h2
  · by_cases h0 : opE who u0 n ep (so q) = 0
    · rw [if_pos h0, show decide (opE who u0 n ep (so q) = 0) = true from decide_eq_true h0]
      simp [pN, shV_upd, Po.ch, so]
    · rw [if_neg h0, show decide (opE who u0 n ep (so q) = 0) = false from decide_eq_false h0]
      simp [pN, h3]

theorem close_po (w : World) (v : VW) (k : Nat) (n : Int) (q : Option Po) (h : HPo w v k n q) (hk : k < 1000000) (who : ByteArray) (hw : who.size ≤ maxLen) (ep : Int) :
    Calls Tryz.prog 81 #[v.p, .string who, .int .i64 n, .int .i64 ep] w fun e w' => e = .returned (.int .i64 (clE who n ep (so q))) ∧ HPo w' v (ckp k (decide (clE who n ep (so q) = 0))) n (if clE who n ep (so q) = 0 then none else q) ∧ Fr v.S w w' := by
  obtain ⟨g, R, N, h1, h2, h3⟩ := h
  refine (close37_any w v g R N k h1 hk who hw n ep (by rw [h3]; exact so_size h2)).mono ?_
  rw [h3]
  rintro e w' ⟨rfl, h4, h5⟩
  refine ⟨rfl, ⟨_, _, _, h4, ?_, ?_⟩, h5⟩
  · split
    · exact okQ_none
    · exact h2
  · split
    · simp [shV_upd, so]
    · exact h3

theorem arrive_po (w : World) (v : VW) (k : Nat) (n : Int) (q : Option Po) (h : HPo w v k n q) (hk : k < 1000000) (ep : Int) (p : Pk) (hp : p.f.size ≤ maxLen) :
    Calls Tryz.prog 77 #[v.p, .int .i64 n, .int .i64 ep, p.v] w fun e w' => e = .returned (.int .i64 (arO n ep p (so q)).2.1) ∧ HPo w' v (ckp k (arO n ep p (so q)).1) n (if (arO n ep p (so q)).1 = true then some (arO n ep p (so q)).2.2 else q) ∧ Fr v.S w w' := by
  obtain ⟨g, R, N, h1, h2, h3⟩ := h
  refine (arrive37_any w v g R N k h1 hk n ep p hp (by rw [h3]; exact so_size h2)).mono ?_
  rw [h3]
  rintro e w' ⟨rfl, h4, h5⟩
  refine ⟨rfl, ⟨_, _, _, h4, ?_, ?_⟩, h5⟩
  · by_cases h0 : (arO n ep p (so q)).1 = true
    · rw [if_pos h0]
      refine okQ_some ?_
      unfold arO at h0 ⊢
      by_cases hb : begErr ⟨#[]⟩ n ep ≠ 0
      · rw [if_pos hb] at h0; cases h0
      · rw [if_neg hb] at h0 ⊢
        by_cases hpe : p.err ≠ 0
        · rw [if_pos hpe] at h0; cases h0
        · rw [if_neg hpe] at h0 ⊢
          by_cases hr : (rdP (so q) ep).2 ≠ 0
          · rw [if_pos hr] at h0; cases h0
          · rw [if_neg hr] at h0 ⊢
            exact arF_err (rdP_ok (Decidable.not_not.1 hr)).1 (Decidable.not_not.1 hpe) h0
    · rw [if_neg h0]; exact h2
  · by_cases h0 : (arO n ep p (so q)).1 = true
    · rw [if_pos h0, h0]
      simp [pN, shV_upd, Po.ch, so]
    · rw [if_neg h0]
      rw [Bool.not_eq_true] at h0
      rw [h0]
      simp [pN, h3]

theorem receive_po (w : World) (v : VW) (k : Nat) (n : Int) (q : Option Po) (h : HPo w v k n q) (hk : k < 1000000) (who : ByteArray) (hw : who.size ≤ maxLen) (ep : Int) :
    Calls Tryz.prog 79 #[v.p, .string who, .int .i64 n, .int .i64 ep] w fun e w' => e = .returned (.tuple #[(rcO who n ep (so q)).2.2.2.v, .int .i64 (rcO who n ep (so q)).2.1]) ∧ HPo w' v (ckp k (rcO who n ep (so q)).1) n (if (rcO who n ep (so q)).1 = true then some (rcO who n ep (so q)).2.2.1 else q) ∧ Fr v.S w w' := by
  obtain ⟨g, R, N, h1, h2, h3⟩ := h
  refine (receive37_any w v g R N k h1 hk who hw n ep (by rw [h3]; exact so_size h2)).mono ?_
  rw [h3]
  rintro e w' ⟨rfl, h4, h5⟩
  refine ⟨rfl, ⟨_, _, _, h4, ?_, ?_⟩, h5⟩
  · by_cases h0 : (rcO who n ep (so q)).1 = true
    · rw [if_pos h0]
      refine okQ_some ?_
      unfold rcO at h0 ⊢
      by_cases hb : begErr who n ep ≠ 0
      · rw [if_pos hb] at h0; cases h0
      · rw [if_neg hb] at h0 ⊢
        by_cases hr : (rdP (so q) ep).2 ≠ 0
        · rw [if_pos hr] at h0; cases h0
        · rw [if_neg hr] at h0 ⊢
          exact rcF_err (rdP_ok (Decidable.not_not.1 hr)).1 h0
    · rw [if_neg h0]; exact h2
  · by_cases h0 : (rcO who n ep (so q)).1 = true
    · rw [if_pos h0, h0]
      simp [pN, shV_upd, Po.ch, so]
    · rw [if_neg h0]
      rw [Bool.not_eq_true] at h0
      rw [h0]
      simp [pN, h3]

theorem get_po (w : World) (v : VW) (k : Nat) (n : Int) (q : Option Po) (h : HPo w v k n q) (ep : Int) :
    Calls Tryz.prog 80 #[v.p, .int .i64 n, .int .i64 ep] w fun e w' => ∃ qv, e = .returned (.tuple #[(gtD n ep (so q)).1.v qv, .int .i64 (gtD n ep (so q)).2]) ∧ PksIn w' qv (gtD n ep (so q)).1.q ∧ HPo w' v k n q ∧ Fr v.S w w' := by
  obtain ⟨g, R, N, h1, h2, h3⟩ := h
  refine (get37_any w v g R N k h1 n ep (by rw [h3]; exact so_size h2)).mono ?_
  rw [h3]
  rintro e w' ⟨qv, rfl, h4, h5, h6⟩
  exact ⟨qv, rfl, h4, ⟨_, _, _, h5, h2, h3⟩, h6⟩

theorem viewNew_po (W : World) (p : Value) (h : Base W p (fun _ => none)) : Calls Tryz.prog 32 #[p] W fun e w' => ∃ v : VW, e = .returned (.pointer (some ⟨v.vb, 0, none⟩)) ∧ (∀ n, HPo w' v 0 n none) ∧ Below W.heap.size W w' ∧ ∀ k, v.S k → W.heap.size ≤ k := by
  refine (viewNew_any W p _ h).mono ?_
  rintro e w' ⟨rfl, hv, hB⟩
  refine ⟨_, rfl, fun n => hpo_new hv n, hB, ?_⟩
  rintro k (rfl | rfl | rfl) <;> simp <;> omega

namespace QK
def m1 : ByteArray := ⟨#[49]⟩
def m2 : ByteArray := ⟨#[50]⟩
def pk : Pk := ⟨⟨#[120]⟩, ⟨#[97, 98]⟩⟩
def P0 : Po := Po.fresh m1 0
def P1 : Po := ⟨m1, 0, 0, [pk]⟩
theorem p0 : P0.err = 0 := by decide
theorem p1 : P1.err = 0 := by decide
theorem r0 : opE m1 0 80 0 (so none) = 0 := by
  rw [opE, rdP_so_none]; decide
theorem r1 : arO 80 0 pk (so (some P0)) = (true, 0, P1) := by
  rw [arO, rdP_so_some p0]; decide
theorem r2 : rcO m2 80 0 (so (some P1)) = (false, 14, P1, Pk.zero) := by
  rw [rcO, rdP_so_some p1]; decide
theorem r3 : rcO m1 80 0 (so (some P1)) = (true, 0, P0, pk) := by
  rw [rcO, rdP_so_some p1]; decide
theorem r4 : rcO m1 80 0 (so (some P0)) = (false, 19, P0, Pk.zero) := by
  rw [rcO, rdP_so_some p0]; decide
theorem r5 : rcO m1 80 1 (so (some P0)) = (false, 8, Po.zero, Pk.zero) := by
  rw [rcO, rdP_so_some p0]; decide
end QK

open QK in
set_option maxRecDepth 100000 in
set_option maxHeartbeats 8000000 in
theorem known37_any (w : World) : Calls Tryz.prog 41 #[] w fun e w' => e = .returned (.bool true) ∧ Below w.heap.size w w' := by
  have s0 : ∀ W v, HPo W v 0 80 none → Calls Tryz.prog 75 #[v.p, .string ⟨#[49]⟩, .agg #[.int .i64 0, .slice none 0 0], .int .i64 80, .int .i64 0] W fun e w' => e = .returned (.int .i64 0) ∧ HPo w' v 1 80 (some P0) ∧ Fr v.S W w' := fun W v h => by
    have := open_po W v 0 80 none h (by decide) m1 (by decide) 0 0
    rw [r0] at this; exact this
  have s1 : ∀ W v, HPo W v 1 80 (some P0) → Calls Tryz.prog 77 #[v.p, .int .i64 80, .int .i64 0, .agg #[.string ⟨#[120]⟩, .string ⟨#[97, 98]⟩]] W fun e w' => e = .returned (.int .i64 0) ∧ HPo w' v 2 80 (some P1) ∧ Fr v.S W w' := fun W v h => by
    have := arrive_po W v 1 80 (some P0) h (by decide) 0 pk (by decide)
    rw [r1] at this; exact this
  have s2 : ∀ W v, HPo W v 2 80 (some P1) → Calls Tryz.prog 79 #[v.p, .string ⟨#[50]⟩, .int .i64 80, .int .i64 0] W fun e w' => e = .returned (.tuple #[.agg #[.string ⟨#[]⟩, .string ⟨#[]⟩], .int .i64 14]) ∧ HPo w' v 2 80 (some P1) ∧ Fr v.S W w' := fun W v h => by
    have := receive_po W v 2 80 (some P1) h (by decide) m2 (by decide) 0
    rw [r2] at this; exact this
  have s3 : ∀ W v, HPo W v 2 80 (some P1) → Calls Tryz.prog 79 #[v.p, .string ⟨#[49]⟩, .int .i64 80, .int .i64 0] W fun e w' => e = .returned (.tuple #[.agg #[.string ⟨#[120]⟩, .string ⟨#[97, 98]⟩], .int .i64 0]) ∧ HPo w' v 3 80 (some P0) ∧ Fr v.S W w' := fun W v h => by
    have := receive_po W v 2 80 (some P1) h (by decide) m1 (by decide) 0
    rw [r3] at this; exact this
  have s4 : ∀ W v, HPo W v 3 80 (some P0) → Calls Tryz.prog 79 #[v.p, .string ⟨#[49]⟩, .int .i64 80, .int .i64 0] W fun e w' => e = .returned (.tuple #[.agg #[.string ⟨#[]⟩, .string ⟨#[]⟩], .int .i64 19]) ∧ HPo w' v 3 80 (some P0) ∧ Fr v.S W w' := fun W v h => by
    have := receive_po W v 3 80 (some P0) h (by decide) m1 (by decide) 0
    rw [r4] at this; exact this
  have s5 : ∀ W v, HPo W v 3 80 (some P0) → Calls Tryz.prog 79 #[v.p, .string ⟨#[49]⟩, .int .i64 80, .int .i64 1] W fun e w' => e = .returned (.tuple #[.agg #[.string ⟨#[]⟩, .string ⟨#[]⟩], .int .i64 8]) ∧ HPo w' v 3 80 (some P0) ∧ Fr v.S W w' := fun W v h => by
    have := receive_po W v 3 80 (some P0) h (by decide) m1 (by decide) 1
    rw [r5] at this; exact this
  have heq : ∀ w, (binOp .eql 123 (.agg #[.string ⟨#[120]⟩, .string ⟨#[97, 98]⟩]) (.agg #[.string ⟨#[120]⟩, .string ⟨#[97, 98]⟩])).run Tryz.prog w = .ok (.bool true) w := fun _ => by kernel_rfl
  unfold VW.p at s0 s1 s2 s3 s4 s5
  go_enter Tryz.func41, Tryz.ntmps41
  go_wp2_with (first | (go_at_call 33; refine (stateNew_any _).mono ?_; rintro e w1 ⟨rfl, rfl⟩) | (go_at_call 32; refine (viewNew_po _ _ (base_new w)).mono ?_; rintro e w2 ⟨v, rfl, hPn, hB, hS⟩; have hP := hPn 80; have hF := Fr.refl v.S w2; have hn2 : ¬ v.S w2.heap.size := hP.notS (Nat.le_refl _); have hpkb := blk_new w2 (.cells #[.string ⟨#[120]⟩, .string ⟨#[97, 98]⟩] 123)))
  have hP1 := hP.below (below_new1 w2 (.cells #[.string ⟨#[120]⟩, .string ⟨#[97, 98]⟩] 123))
  refine (s0 _ v hP1).mono ?_
  rintro e w3 ⟨rfl, hP3, hF3⟩
  have hpk3 := hF3.heap hn2 hpkb
  obtain ⟨x0, x1⟩ := blk2 hpk3
  go_wp2_with fail
  refine (s1 _ v hP3).mono ?_
  rintro e w4 ⟨rfl, hP4, hF4⟩
  have hpk4 := hF4.heap hn2 hpk3
  go_wp2_with fail
  refine (s2 _ v hP4).mono ?_
  rintro e w5 ⟨rfl, hP5, hF5⟩
  have hpk5 := hF5.heap hn2 hpk4
  go_wp2_with fail
  have hP5a := hP5.below (below_new1 w5 (.cells #[.string ⟨#[]⟩, .string ⟨#[]⟩] 123))
  have hpk5a := blk_alloc hpk5 (.cells #[.string ⟨#[]⟩, .string ⟨#[]⟩] 123)
  refine (s3 _ v hP5a).mono ?_
  rintro e w6 ⟨rfl, hP6, hF6⟩
  have hpk6 := hF6.heap hn2 hpk5a
  go_wp2_with fail
  have hP6a := hP6.below (below_new1 w6 (.cells #[.string ⟨#[120]⟩, .string ⟨#[97, 98]⟩] 123))
  have hpk6a := blk_alloc hpk6 (.cells #[.string ⟨#[120]⟩, .string ⟨#[97, 98]⟩] 123)
  have hn6 : ¬ v.S w6.heap.size := hP6.notS (Nat.le_refl _)
  have hx6 := blk_new w6 (.cells #[.string ⟨#[120]⟩, .string ⟨#[97, 98]⟩] 123)
  refine (s4 _ v hP6a).mono ?_
  rintro e w7 ⟨rfl, hP7, hF7⟩
  have hpk7 := hF7.heap hn2 hpk6a
  have hx7 := hF7.heap hn6 hx6
  go_wp2_with fail
  have hP7a := hP7.below (below_new1 w7 (.cells #[.string ⟨#[]⟩, .string ⟨#[]⟩] 123))
  refine (s5 _ v hP7a).mono ?_
  rintro e w8 ⟨rfl, hP8, hF8⟩
  have hpk8 := hF8.heap hn2 (blk_alloc hpk7 (.cells #[.string ⟨#[]⟩, .string ⟨#[]⟩] 123))
  have hx8 := hF8.heap hn6 (blk_alloc hx7 (.cells #[.string ⟨#[]⟩, .string ⟨#[]⟩] 123))
  obtain ⟨y0, y1⟩ := blk2 hpk8
  obtain ⟨z0, z1⟩ := blk2 hx8
  have hl8 := lt_of_block hpk8
  have hl9 := lt_of_block hx8
  go_wp2_with fail
  go_ret
  have hA := (below_new1 w (.cells #[.pointer none] 197)).trans' hB
  have hFF := (((((hF.alloc _).trans hF3).trans hF4).trans hF5).alloc (.cells #[.string ⟨#[]⟩, .string ⟨#[]⟩] 123)).trans hF6
  have hFG := (((hFF.alloc (.cells #[.string ⟨#[120]⟩, .string ⟨#[97, 98]⟩] 123)).trans hF7).alloc (.cells #[.string ⟨#[]⟩, .string ⟨#[]⟩] 123)).trans hF8
  have hall := hA.trans (hFG.below (B := w.heap.size) hA.size (fun i hi => by have := hS i hi; simp at this; omega))
  exact ⟨rfl, hall.alloc hall.size _⟩

end Go.Proofs.YtdjjfjnkkgmadaaGreatDoor
