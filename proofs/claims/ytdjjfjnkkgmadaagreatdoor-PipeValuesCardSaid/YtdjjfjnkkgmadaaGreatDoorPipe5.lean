/-
  pipe: write, Make, change.
-/
import Derived.Test.YtdjjfjnkkgmadaaGreatDoorPipe3
import Derived.Test.YtdjjfjnkkgmadaaGreatDoorPipe4
namespace Go.Proofs.YtdjjfjnkkgmadaaGreatDoor
open Go Go.RowKit

/-- What write lays down for a pipe. -/
def Pp.ch (p : Pp) : Ch := if p.r + p.w = 0 then ⟨⟨#[]⟩, true⟩ else ⟨bs p.enc, false⟩
/-- A pipe that may be written: of no end, or right. -/
def Pp.may (p : Pp) : Prop := (p.r = 0 ∧ p.w = 0) ∨ p.err = 0

theorem Pp.enc_size {p : Pp} (h : p.err = 0) : p.enc.length ≤ 65536 := by
  obtain ⟨⟨h1, h2⟩, ⟨h3, h4⟩, ⟨h5, h6⟩, h7, h8⟩ := Pp.err_zero h
  have l1 := nat_small_len (u := p.e.toNat) (by omega)
  have l2 := nat_small_len (u := p.r.toNat) (by omega)
  have l3 := nat_small_len (u := p.w.toNat) (by omega)
  have l4 := nat_small_len (u := p.b.size) (by omega)
  have l5 := dl p.b
  simp only [Pp.enc, List.length_append, List.length_nil]
  omega

set_option maxRecDepth 100000 in
set_option maxHeartbeats 4000000 in
theorem write_ok (w : World) (v : VW) (g : Nm → Option ByteArray) (R N : List (Nm × Ch)) (k : Nat) (hv : IsView w v g R N k) (hk : k < 1000000) (m : ByteArray) (n : Int) (hb : GB m n) (p : Pp) (hp : p.may) :
    Calls Tryz.prog 115 #[v.p, birthV m n, p.v] w fun e w' => e = .returned (.int .i64 0) ∧ IsView w' v g R (upd N (pn m n) p.ch) (k + 1) ∧ Fr v.S w w' := by
  have hof := fun w => ofPipe_any m n w
  have hset := fun W (h : IsView W v g R N k) (hc : (bs p.enc).size ≤ 65536) => set_ok W v g R N k h (pn m n) hb.ok hb.passes (bs p.enc) hc hk
  have hdel := fun W (h : IsView W v g R N k) => delete_ok W v g R N k h (pn m n) hb.ok hb.passes hk
  unfold Pp.ch
  unfold nameV at hof
  unfold Nm.v pn at hset hdel
  simp only at hset hdel
  by_cases h0 : p.r = 0 ∧ p.w = 0
  · obtain ⟨h1, h2⟩ := h0
    rw [if_pos (by omega)]
    clear hset
    unfold birthV Pp.v VW.p at *
    rw [h1, h2]
    clear hp h1 h2
    go_enter Tryz.func115, Tryz.ntmps115
    go_wp2_with (go_at_call 68; refine (hof _).mono ?_; rintro e w2 ⟨rfl, hB2⟩)
    have hBall := (below_new2 w _ _).trans' hB2
    refine (hdel _ (hv.below hBall)).mono ?_
    rintro e w3 ⟨rfl, hv3, hF3⟩
    go_wp2_with fail
    go_ret
    exact ⟨rfl, hv3, (Fr.of_below hBall).trans hF3⟩
  · have hpe : p.err = 0 := hp.resolve_left h0
    have hz := Pp.err_zero hpe
    rw [if_neg hz.2.2.2.1]
    have henc := fun w => pipeEncode_ok p hpe w
    have hsz : (bs p.enc).size ≤ 65536 := by rw [bs_size]; exact Pp.enc_size hpe
    have hset' := fun W h => hset W h hsz
    clear hset hdel hsz
    generalize bs p.enc = out at *
    have hr1 := hz.2.1.1
    have hr2 := hz.2.1.2
    have hw1 := hz.2.2.1.1
    have hw2 := hz.2.2.1.2
    have hrw : (p.r + p.w == 0) = false := by simpa using hz.2.2.2.1
    unfold birthV Pp.v VW.p at *
    clear hp hz hpe h0
    go_enter Tryz.func115, Tryz.ntmps115
    go_wp2_with (first | (go_at_call 25; refine (henc _).mono ?_; rintro e w1 ⟨rfl, hB1⟩; have hb1 := hB1.heapS (blk_alloc (blk_new w _) _); obtain ⟨c0, c1⟩ := blk2 hb1) | (go_at_call 68; refine (hof _).mono ?_; rintro e w2 ⟨rfl, hB2⟩))
    have hBall := ((below_new2 w _ _).trans' hB1).trans' hB2
    refine (hset' _ (hv.below hBall)).mono ?_
    rintro e w3 ⟨rfl, hv3, hF3⟩
    go_wp2_with fail
    go_ret
    exact ⟨rfl, hv3, (Fr.of_below hBall).trans hF3⟩

/-- A fresh pipe. -/
def Pp.fresh (ep : Int) : Pp := ⟨ep, 1, 1, ⟨#[]⟩⟩
theorem fresh_may {ep : Int} (he : within ep 1073741824 = true) : (Pp.fresh ep).may := .inr (Pp.of_zero ⟨by simpa [within, Pp.fresh] using he, by simp [Pp.fresh], by simp [Pp.fresh], by simp [Pp.fresh], by simp [Pp.fresh, ByteArray.size]⟩)

set_option maxRecDepth 100000 in
set_option maxHeartbeats 4000000 in
theorem make_ok (w : World) (v : VW) (g : Nm → Option ByteArray) (R N : List (Nm × Ch)) (k : Nat) (hv : IsView w v g R N k) (hk : k < 1000000) (m : ByteArray) (n : Int) (hb : GB m n) (ep : Int) (he : within ep 1073741824 = true) (hn : (shV g N (pn m n)).2 = false) :
    Calls Tryz.prog 34 #[v.p, birthV m n, .int .i64 ep] w fun e w' => e = .returned (.int .i64 0) ∧ IsView w' v g (rdR g R N (pn m n)) (upd N (pn m n) (Pp.fresh ep).ch) (k + 1) ∧ Fr v.S w w' := by
  have hbeg := fun a w => begin_ok w a m n hb ep he
  have hof := fun w => ofPipe_any m n w
  have hhas := fun W (h : IsView W v g R N k) => has_ok W v g R N k h (pn m n) hb.ok hb.passes
  have hwr := fun W (h : IsView W v g (rdR g R N (pn m n)) N k) => write_ok W v g _ N k h hk m n hb (Pp.fresh ep) (fresh_may he)
  rw [hn] at hhas
  generalize rdR g R N (pn m n) = R2 at *
  generalize (Pp.fresh ep).ch = c at *
  unfold nameV at hof
  generalize hN : upd N (pn m n) c = N2 at *
  unfold Nm.v pn at hhas
  unfold Pp.fresh at hwr
  simp only at hhas
  unfold birthV Pp.v VW.p at *
  simp only at hwr
  clear hN
  go_enter Tryz.func34, Tryz.ntmps34
  go_wp2_with (first | (go_at_call 114; refine (hbeg _ _).mono ?_; rintro e w1 ⟨rfl, hB1⟩; have hb1 := hB1.heapS (blk_new w _); obtain ⟨c0, c1⟩ := blk2 hb1) | (go_at_call 68; refine (hof _).mono ?_; rintro e w2 ⟨rfl, hB2⟩))
  have hBall := ((below_new1 w _).trans' hB1).trans' hB2
  refine (hhas _ (hv.below hBall)).mono ?_
  rintro e w3 ⟨rfl, hv3, hF3⟩
  have hb3 := hF3.heap (hv.notS (Nat.le_refl _)) (hB2.heapS hb1)
  obtain ⟨d0, d1⟩ := blk2 hb3
  go_wp2_with fail
  refine (hwr _ hv3).mono ?_
  rintro e w4 ⟨rfl, hv4, hF4⟩
  go_wp2_with fail
  go_ret
  exact ⟨rfl, hv4, ((Fr.of_below hBall).trans hF3).trans hF4⟩

end Go.Proofs.YtdjjfjnkkgmadaaGreatDoor
