/-
  One pipe in a view: the operations in terms of the pipe.
-/
import Derived.Test.YtdjjfjnkkgmadaaGreatDoorPipe7
import Derived.Test.YtdjjfjnkkgmadaaGreatDoorPipeP
namespace Go.Proofs.YtdjjfjnkkgmadaaGreatDoor
open Go Go.RowKit

def oneM : ByteArray := ⟨#[51, 46, 49]⟩
theorem gb_one : GB oneM 2 := ⟨by decide, by decide⟩
def oneX : Nm := pn oneM 2
def oneV : Value := birthV oneM 2

/-- The view shows this pipe under the name of one(). -/
def HP (w : World) (v : VW) (k : Nat) (q : Option Pp) : Prop := ∃ g R N, IsView w v g R N k ∧ match q with
  | some p => p.err = 0 ∧ shV g N oneX = (bs p.enc, true)
  | none => shV g N oneX = (⟨#[]⟩, false)

theorem HP.below {w w' : World} {v : VW} {k : Nat} {q : Option Pp} (h : HP w v k q) (hB : Below w.heap.size w w') : HP w' v k q := by
  obtain ⟨g, R, N, h1, h2⟩ := h
  exact ⟨g, R, N, h1.below hB, h2⟩
theorem HP.notS {w : World} {v : VW} {k : Nat} {q : Option Pp} (h : HP w v k q) {j : Nat} (hj : w.heap.size ≤ j) : ¬ v.S j := by
  obtain ⟨g, R, N, h1, h2⟩ := h
  exact h1.notS hj

theorem one_any (w : World) : Calls Tryz.prog 35 #[] w fun e w' => e = .returned oneV ∧ Below w.heap.size w w' := by
  unfold oneV birthV oneM
  go_enter Tryz.func35, Tryz.ntmps35
  go_wp2
  refine bodyPost_ret (v := .agg #[.string ⟨#[51, 46, 49]⟩, .int .i64 2]) (results_cell_row rfl _ _ w.heap.size 47 _ (0, 0) _ rfl (blk_new w _) Tryz.underlying47 rfl (by kernel_rfl)) rfl ⟨rfl, below_new1 w _⟩

/-- What is there behind an operation. -/
def aft (q q' : Pp) (ch : Bool) : Option Pp := if ch = true then (if q'.r + q'.w = 0 then none else some q') else some q

theorem enc_len {p : Pp} (h : p.err = 0) : (bs p.enc).size ≤ 140737488355328 := by
  rw [bs_size]; have := Pp.enc_size h; omega

theorem hp_after {w : World} {v : VW} {g : Nm → Option ByteArray} {R N : List (Nm × Ch)} {k : Nat} {q q' : Pp} {ch : Bool} (h1 : IsView w v g R (cN N oneX ch q') k) (hq : q.err = 0) (h2 : shV g N oneX = (bs q.enc, true)) (h3 : ch = true → q'.may) : HP w v k (aft q q' ch) := by
  refine ⟨g, R, _, h1, ?_⟩
  unfold aft cN
  cases ch with
  | false => simpa using ⟨hq, h2⟩
  | true =>
    simp only [if_true]
    by_cases h0 : q'.r + q'.w = 0
    · rw [if_pos h0]
      simp [shV_upd, Pp.ch, h0]
    · rw [if_neg h0]
      have he : q'.err = 0 := (h3 rfl).resolve_left (fun h => h0 (by omega))
      simp [shV_upd, Pp.ch, h0, he]

theorem hp_new (w : World) (v : VW) (R : List (Nm × Ch)) (k : Nat) (h : IsView w v (fun _ => none) R [] k) : HP w v k none := ⟨_, _, _, h, rfl⟩

theorem make_hp (w : World) (v : VW) (k : Nat) (h : HP w v k none) (hk : k < 1000000) (ep : Int) (he : within ep 1073741824 = true) :
    Calls Tryz.prog 34 #[v.p, oneV, .int .i64 ep] w fun e w' => e = .returned (.int .i64 0) ∧ HP w' v (k + 1) (some (Pp.fresh ep)) ∧ Fr v.S w w' := by
  obtain ⟨g, R, N, h1, h2⟩ := h
  refine (make_ok w v g R N k h1 hk oneM 2 gb_one ep he (by rw [show pn oneM 2 = oneX from rfl, h2])).mono ?_
  rintro e w' ⟨rfl, h3, h4⟩
  have he' := (fresh_may he).resolve_left (by simp [Pp.fresh])
  refine ⟨rfl, ⟨_, _, _, h3, he', ?_⟩, h4⟩
  rw [show pn oneM 2 = oneX from rfl, shV_upd]
  simp [Pp.ch, Pp.fresh]

theorem get_hp (w : World) (v : VW) (k : Nat) (q : Pp) (h : HP w v k (some q)) (ep : Int) (hep : q.e = ep) :
    Calls Tryz.prog 49 #[v.p, oneV, .int .i64 ep] w fun e w' => e = .returned (.tuple #[q.v, .int .i64 0]) ∧ HP w' v k (some q) ∧ Fr v.S w w' := by
  subst hep
  obtain ⟨g, R, N, h1, h2, h3⟩ := h
  have he : within q.e 1073741824 = true := by have := (Pp.err_zero h2).1; simpa [within] using this
  have := pipeGet_ok w v g R N k h1 oneM 2 gb_one q.e he (by rw [show pn oneM 2 = oneX from rfl, h3]; exact enc_len h2)
  rw [show pn oneM 2 = oneX from rfl, h3, pget_enc h2] at this
  refine this.mono ?_
  rintro e w' ⟨rfl, h4, h5⟩
  exact ⟨rfl, ⟨_, _, _, h4, h2, h3⟩, h5⟩

theorem get_hp_none (w : World) (v : VW) (k : Nat) (h : HP w v k none) (ep : Int) (he : within ep 1073741824 = true) :
    Calls Tryz.prog 49 #[v.p, oneV, .int .i64 ep] w fun e w' => e = .returned (.tuple #[Pp.zero.v, .int .i64 8]) ∧ HP w' v k none ∧ Fr v.S w w' := by
  obtain ⟨g, R, N, h1, h3⟩ := h
  have := pipeGet_ok w v g R N k h1 oneM 2 gb_one ep he (by rw [show pn oneM 2 = oneX from rfl, h3]; decide)
  rw [show pn oneM 2 = oneX from rfl, h3, show pget ⟨#[]⟩ ep = (Pp.zero, 8) from ?_] at this
  · refine this.mono ?_
    rintro e w' ⟨rfl, h4, h5⟩
    exact ⟨rfl, ⟨_, _, _, h4, h3⟩, h5⟩
  · have : (Pp.dec (ByteArray.mk #[]).data.toList).2 ≠ 0 := by
      have : Pp.dec [] = (Pp.zero, 3) := by
        simp [Pp.dec, Pp.read, Cd.rnum, Cd.num, Cd.dec, Cd.rtxt, Cd.rclose]
      rw [show (ByteArray.mk #[]).data.toList = [] from rfl, this]
      decide
    rw [pget, if_pos this]

theorem read_hp (w : World) (v : VW) (k : Nat) (q : Pp) (h : HP w v k (some q)) (hk : k < 1000000) (ep : Int) (hep : q.e = ep) (most : Int) :
    Calls Tryz.prog 37 #[v.p, oneV, .int .i64 ep, .int .i64 most] w fun e w' => e = .returned (.tuple #[.string (rdF q most).2.2.2, .int .i64 (rdF q most).2.1]) ∧ HP w' v (ck k (rdF q most).1) (aft q (rdF q most).2.2.1 (rdF q most).1) ∧ Fr v.S w w' := by
  subst hep
  obtain ⟨g, R, N, h1, h2, h3⟩ := h
  have he : within q.e 1073741824 = true := by have := (Pp.err_zero h2).1; simpa [within] using this
  refine (read_ok w v g R N k h1 hk oneM 2 gb_one q.e he (by rw [show pn oneM 2 = oneX from rfl, h3]; exact enc_len h2) q (by rw [show pn oneM 2 = oneX from rfl, h3, pget_enc h2]) h2 most).mono ?_
  rintro e w' ⟨rfl, h4, h5⟩
  exact ⟨rfl, hp_after h4 h2 h3 (fun h => (rdF_may h2 h).2), h5⟩

theorem wrt_hp (w : World) (v : VW) (k : Nat) (q : Pp) (h : HP w v k (some q)) (hk : k < 1000000) (ep : Int) (hep : q.e = ep) (s : ByteArray) (hss : s.size ≤ 1000000) :
    Calls Tryz.prog 38 #[v.p, oneV, .int .i64 ep, .string s] w fun e w' => e = .returned (.tuple #[.int .i64 (wrF q s).2.2.2, .int .i64 (wrF q s).2.1]) ∧ HP w' v (ck k (wrF q s).1) (aft q (wrF q s).2.2.1 (wrF q s).1) ∧ Fr v.S w w' := by
  subst hep
  obtain ⟨g, R, N, h1, h2, h3⟩ := h
  have he : within q.e 1073741824 = true := by have := (Pp.err_zero h2).1; simpa [within] using this
  refine (wrt_ok w v g R N k h1 hk oneM 2 gb_one q.e he (by rw [show pn oneM 2 = oneX from rfl, h3]; exact enc_len h2) q (by rw [show pn oneM 2 = oneX from rfl, h3, pget_enc h2]) h2 s hss).mono ?_
  rintro e w' ⟨rfl, h4, h5⟩
  exact ⟨rfl, hp_after h4 h2 h3 (fun h => (wrF_may h2 h).2), h5⟩

theorem join_hp (w : World) (v : VW) (k : Nat) (q : Pp) (h : HP w v k (some q)) (hk : k < 1000000) (ep : Int) (hep : q.e = ep) (b : Bool) :
    Calls Tryz.prog 65 #[v.p, oneV, .int .i64 ep, .bool b] w fun e w' => e = .returned (.int .i64 (jnF q b).2.1) ∧ HP w' v (ck k (jnF q b).1) (aft q (jnF q b).2.2 (jnF q b).1) ∧ Fr v.S w w' := by
  subst hep
  obtain ⟨g, R, N, h1, h2, h3⟩ := h
  have he : within q.e 1073741824 = true := by have := (Pp.err_zero h2).1; simpa [within] using this
  refine (join_ok w v g R N k h1 hk oneM 2 gb_one q.e he (by rw [show pn oneM 2 = oneX from rfl, h3]; exact enc_len h2) q (by rw [show pn oneM 2 = oneX from rfl, h3, pget_enc h2]) h2 b).mono ?_
  rintro e w' ⟨rfl, h4, h5⟩
  exact ⟨rfl, hp_after h4 h2 h3 (fun h => (jnF_may h2 h).2), h5⟩

theorem leave_hp (w : World) (v : VW) (k : Nat) (q : Pp) (h : HP w v k (some q)) (hk : k < 1000000) (ep : Int) (hep : q.e = ep) (b : Bool) :
    Calls Tryz.prog 66 #[v.p, oneV, .int .i64 ep, .bool b] w fun e w' => e = .returned (.int .i64 (lvF q b).2.1) ∧ HP w' v (ck k (lvF q b).1) (aft q (lvF q b).2.2 (lvF q b).1) ∧ Fr v.S w w' := by
  subst hep
  obtain ⟨g, R, N, h1, h2, h3⟩ := h
  have he : within q.e 1073741824 = true := by have := (Pp.err_zero h2).1; simpa [within] using this
  refine (leave_ok w v g R N k h1 hk oneM 2 gb_one q.e he (by rw [show pn oneM 2 = oneX from rfl, h3]; exact enc_len h2) q (by rw [show pn oneM 2 = oneX from rfl, h3, pget_enc h2]) h2 b).mono ?_
  rintro e w' ⟨rfl, h4, h5⟩
  exact ⟨rfl, hp_after h4 h2 h3 (fun h => (lvF_may h2 h).2), h5⟩

theorem mark_hp (w : World) (v : VW) (k : Nat) (q : Option Pp) (h : HP w v k q) : Calls Tryz.prog 36 #[v.p] w fun e w' => e = .returned (.int .i64 k) ∧ w = w' := by
  obtain ⟨g, R, N, h1, h2⟩ := h
  exact mark_ok w v g R N k h1

end Go.Proofs.YtdjjfjnkkgmadaaGreatDoor
