/-
  One pipe in a view: the steps of PipeEnds, and Make where there is a pipe.
-/
import Derived.Test.YtdjjfjnkkgmadaaGreatDoorPipeK
namespace Go.Proofs.YtdjjfjnkkgmadaaGreatDoor
open Go Go.RowKit

/-- One side has m ends, the other one o, and there is nothing in the pipe. -/
def PE (b : Bool) (m o : Nat) : Pp := ⟨0, if b then o else m, if b then m else o, ⟨#[]⟩⟩
theorem PE_fresh (b : Bool) : Pp.fresh 0 = PE b 1 1 := by cases b <;> rfl
theorem PE_side (b : Bool) (m o : Nat) : (PE b m o).side b = m := by cases b <;> rfl
theorem PE_other (b : Bool) (m o : Nat) : (PE b m o).side (!b) = o := by cases b <;> rfl
theorem PE_put (b : Bool) (m o n : Nat) (x : Int) (hx : x = n) : (PE b m o).put b x = PE b n o := by subst hx; cases b <;> rfl
theorem PE_putO (b : Bool) (m o n : Nat) (x : Int) (hx : x = n) : (PE b m o).put (!b) x = PE b m n := by subst hx; cases b <;> rfl
theorem PE_sum (b : Bool) (m o : Nat) : (PE b m o).r + (PE b m o).w = ((m + o : Nat) : Int) := by
  cases b
  · show (m : Int) + o = _; omega
  · show (o : Int) + m = _; omega
theorem PE_aft (b : Bool) (m o : Nat) (q : Pp) (h : m + o ≠ 0) : aft q (PE b m o) true = some (PE b m o) := by
  have : (PE b m o).r + (PE b m o).w ≠ 0 := by rw [PE_sum]; omega
  simp [aft, this]

theorem join_PE (W : World) (v : VW) (k : Nat) (b : Bool) (m o : Nat) (h : HP W v k (some (PE b m o))) (hk : k < 1000000) (h1 : 1 ≤ m) (h2 : m ≤ 63) :
    Calls Tryz.prog 65 #[v.p, oneV, .int .i64 0, .bool b] W fun e w' => e = .returned (.int .i64 0) ∧ HP w' v (k + 1) (some (PE b (m + 1) o)) ∧ Fr v.S W w' := by
  have e : jnF (PE b m o) b = (true, 0, PE b (m + 1) o) := by
    rw [jnF, PE_side, if_neg (by omega), if_neg (by omega), PE_put b m o (m + 1) _ (by omega)]
  have := join_hp W v k _ h hk 0 rfl b
  rw [e] at this
  simp only [PE_aft b (m + 1) o _ (by omega)] at this
  exact this

theorem join_PE64 (W : World) (v : VW) (k : Nat) (b : Bool) (o : Nat) (h : HP W v k (some (PE b 64 o))) (hk : k < 1000000) :
    Calls Tryz.prog 65 #[v.p, oneV, .int .i64 0, .bool b] W fun e w' => e = .returned (.int .i64 9) ∧ HP w' v k (some (PE b 64 o)) ∧ Fr v.S W w' := by
  have e : jnF (PE b 64 o) b = (false, 9, PE b 64 o) := by
    rw [jnF, PE_side, if_neg (by omega), if_pos (by omega)]
  have := join_hp W v k _ h hk 0 rfl b
  rw [e] at this
  exact this

theorem join_PE0 (W : World) (v : VW) (k : Nat) (b : Bool) (o : Nat) (h : HP W v k (some (PE b 0 o))) (hk : k < 1000000) :
    Calls Tryz.prog 65 #[v.p, oneV, .int .i64 0, .bool b] W fun e w' => e = .returned (.int .i64 20) ∧ HP w' v k (some (PE b 0 o)) ∧ Fr v.S W w' := by
  have e : jnF (PE b 0 o) b = (false, 20, PE b 0 o) := by
    rw [jnF, PE_side, if_pos (by omega)]
  have := join_hp W v k _ h hk 0 rfl b
  rw [e] at this
  exact this

theorem leave_PE (W : World) (v : VW) (k : Nat) (b : Bool) (m o : Nat) (h : HP W v k (some (PE b (m + 1) o))) (hk : k < 1000000) (ho : m + o ≠ 0) :
    Calls Tryz.prog 66 #[v.p, oneV, .int .i64 0, .bool b] W fun e w' => e = .returned (.int .i64 0) ∧ HP w' v (k + 1) (some (PE b m o)) ∧ Fr v.S W w' := by
  have e : lvF (PE b (m + 1) o) b = (true, 0, PE b m o) := by
    rw [lvF, PE_side, if_neg (by omega), PE_put b (m + 1) o m _ (by omega)]
  have := leave_hp W v k _ h hk 0 rfl b
  rw [e] at this
  simp only [PE_aft b m o _ ho] at this
  exact this

theorem leave_PE0 (W : World) (v : VW) (k : Nat) (b : Bool) (o : Nat) (h : HP W v k (some (PE b 0 o))) (hk : k < 1000000) :
    Calls Tryz.prog 66 #[v.p, oneV, .int .i64 0, .bool b] W fun e w' => e = .returned (.int .i64 20) ∧ HP w' v k (some (PE b 0 o)) ∧ Fr v.S W w' := by
  have e : lvF (PE b 0 o) b = (false, 20, PE b 0 o) := by
    rw [lvF, PE_side, if_pos (by omega)]
  have := leave_hp W v k _ h hk 0 rfl b
  rw [e] at this
  exact this

theorem leave_PElast (W : World) (v : VW) (k : Nat) (b : Bool) (h : HP W v k (some (PE b 0 1))) (hk : k < 1000000) :
    Calls Tryz.prog 66 #[v.p, oneV, .int .i64 0, .bool (!b)] W fun e w' => e = .returned (.int .i64 0) ∧ HP w' v (k + 1) none ∧ Fr v.S W w' := by
  have e : lvF (PE b 0 1) (!b) = (true, 0, PE b 0 0) := by
    rw [lvF, PE_other, if_neg (by omega), PE_putO b 0 1 0 _ (by omega)]
  have := leave_hp W v k _ h hk 0 rfl (!b)
  rw [e] at this
  have ha : aft (PE b 0 1) (PE b 0 0) true = none := by
    have : (PE b 0 0).r + (PE b 0 0).w = 0 := by rw [PE_sum]; rfl
    simp [aft, this]
  simp only [ha] at this
  exact this

theorem has_hp_none (w : World) (v : VW) (k : Nat) (h : HP w v k none) :
    Calls Tryz.prog 67 #[v.p, nameV 11 oneM 2 0 ⟨#[]⟩] w fun e w' => e = .returned (.bool false) ∧ HP w' v k none ∧ Fr v.S w w' := by
  obtain ⟨g, R, N, h1, h2⟩ := h
  have := has_ok w v g R N k h1 oneX gb_one.ok gb_one.passes
  refine this.mono ?_
  rintro e w' ⟨rfl, h4, h5⟩
  exact ⟨by rw [h2], ⟨_, _, _, h4, h2⟩, h5⟩

set_option maxRecDepth 100000 in
set_option maxHeartbeats 4000000 in
theorem make_there (w : World) (v : VW) (g : Nm → Option ByteArray) (R N : List (Nm × Ch)) (k : Nat) (hv : IsView w v g R N k) (m : ByteArray) (n : Int) (hb : GB m n) (ep : Int) (he : within ep 1073741824 = true) (hn : (shV g N (pn m n)).2 = true) :
    Calls Tryz.prog 34 #[v.p, birthV m n, .int .i64 ep] w fun e w' => e = .returned (.int .i64 13) ∧ IsView w' v g (rdR g R N (pn m n)) N k ∧ Fr v.S w w' := by
  have hbeg := fun a w => begin_ok w a m n hb ep he
  have hof := fun w => ofPipe_any m n w
  have hhas := fun W (h : IsView W v g R N k) => has_ok W v g R N k h (pn m n) hb.ok hb.passes
  rw [hn] at hhas
  generalize rdR g R N (pn m n) = R2 at *
  unfold nameV at hof
  unfold Nm.v pn at hhas
  simp only at hhas
  unfold birthV VW.p at *
  go_enter Tryz.func34, Tryz.ntmps34
  go_wp2_with (first | (go_at_call 114; refine (hbeg _ _).mono ?_; rintro e w1 ⟨rfl, hB1⟩; have hb1 := hB1.heapS (blk_new w _); obtain ⟨c0, c1⟩ := blk2 hb1) | (go_at_call 68; refine (hof _).mono ?_; rintro e w2 ⟨rfl, hB2⟩))
  have hBall := ((below_new1 w _).trans' hB1).trans' hB2
  refine (hhas _ (hv.below hBall)).mono ?_
  rintro e w3 ⟨rfl, hv3, hF3⟩
  go_wp2_with fail
  go_ret
  exact ⟨rfl, hv3, (Fr.of_below hBall).trans hF3⟩

theorem make_hp_there (w : World) (v : VW) (k : Nat) (q : Pp) (h : HP w v k (some q)) (ep : Int) (he : within ep 1073741824 = true) :
    Calls Tryz.prog 34 #[v.p, oneV, .int .i64 ep] w fun e w' => e = .returned (.int .i64 13) ∧ HP w' v k (some q) ∧ Fr v.S w w' := by
  obtain ⟨g, R, N, h1, h2, h3⟩ := h
  refine (make_there w v g R N k h1 oneM 2 gb_one ep he (by rw [show pn oneM 2 = oneX from rfl, h3])).mono ?_
  rintro e w' ⟨rfl, h4, h5⟩
  exact ⟨rfl, ⟨_, _, _, h4, h2, h3⟩, h5⟩

end Go.Proofs.YtdjjfjnkkgmadaaGreatDoor
