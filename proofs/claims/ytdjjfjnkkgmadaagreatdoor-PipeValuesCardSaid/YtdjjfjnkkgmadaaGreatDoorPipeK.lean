/-
  replevinlaw32.known.
-/
import Derived.Test.YtdjjfjnkkgmadaaGreatDoorPipeH
namespace Go.Proofs.YtdjjfjnkkgmadaaGreatDoor
open Go Go.RowKit

namespace PK
def P0 : Pp := Pp.fresh 4
def P1 : Pp := ⟨4, 1, 1, ⟨#[97, 98, 99]⟩⟩
def P2 : Pp := ⟨4, 1, 1, ⟨#[99]⟩⟩
def P3 : Pp := ⟨4, 1, 1, ⟨#[]⟩⟩
def P4 : Pp := ⟨4, 1, 0, ⟨#[]⟩⟩
def P5 : Pp := ⟨4, 0, 0, ⟨#[]⟩⟩
theorem r1 : wrF P0 ⟨#[97, 98, 99]⟩ = (true, 0, P1, 3) := by decide
theorem r2 : rdF P1 2 = (true, 0, P2, ⟨#[97, 98]⟩) := by decide
theorem r3 : rdF P2 2 = (true, 0, P3, ⟨#[99]⟩) := by decide
theorem r4 : rdF P3 2 = (false, 19, P3, ⟨#[]⟩) := by decide
theorem r5 : lvF P3 true = (true, 0, P4) := by decide
theorem r6 : rdF P4 2 = (false, 0, P4, ⟨#[]⟩) := by decide
theorem r7 : lvF P4 false = (true, 0, P5) := by decide
end PK


theorem viewNew_hp (W : World) (p : Value) (h : Base W p (fun _ => none)) : Calls Tryz.prog 32 #[p] W fun e w' => ∃ v : VW, e = .returned (.pointer (some ⟨v.vb, 0, none⟩)) ∧ HP w' v 0 none ∧ Below W.heap.size W w' ∧ ∀ k, v.S k → W.heap.size ≤ k := by
  refine (viewNew_any W p _ h).mono ?_
  rintro e w' ⟨rfl, hv, hB⟩
  refine ⟨_, rfl, hp_new _ _ _ _ hv, hB, ?_⟩
  rintro k (rfl | rfl | rfl) <;> simp <;> omega

open PK in
set_option maxRecDepth 100000 in
set_option maxHeartbeats 8000000 in
theorem known_any (w : World) : Calls Tryz.prog 24 #[] w fun e w' => e = .returned (.bool true) ∧ Below w.heap.size w w' := by
  have s0 : ∀ W v, HP W v 0 none → Calls Tryz.prog 34 #[v.p, oneV, .int .i64 4] W fun e w' => e = .returned (.int .i64 0) ∧ HP w' v 1 (some P0) ∧ Fr v.S W w' := fun W v h => make_hp W v 0 h (by decide) 4 (by decide)
  have s1 : ∀ W v, HP W v 1 (some P0) → Calls Tryz.prog 38 #[v.p, oneV, .int .i64 4, .string ⟨#[97, 98, 99]⟩] W fun e w' => e = .returned (.tuple #[.int .i64 3, .int .i64 0]) ∧ HP w' v 2 (some P1) ∧ Fr v.S W w' := fun W v h => by
    have := wrt_hp W v 1 P0 h (by decide) 4 rfl ⟨#[97, 98, 99]⟩ (by decide)
    rw [r1] at this; exact this
  have s2 : ∀ W v, HP W v 2 (some P1) → Calls Tryz.prog 37 #[v.p, oneV, .int .i64 4, .int .i64 2] W fun e w' => e = .returned (.tuple #[.string ⟨#[97, 98]⟩, .int .i64 0]) ∧ HP w' v 3 (some P2) ∧ Fr v.S W w' := fun W v h => by
    have := read_hp W v 2 P1 h (by decide) 4 rfl 2
    rw [r2] at this; exact this
  have s3 : ∀ W v, HP W v 3 (some P2) → Calls Tryz.prog 37 #[v.p, oneV, .int .i64 4, .int .i64 2] W fun e w' => e = .returned (.tuple #[.string ⟨#[99]⟩, .int .i64 0]) ∧ HP w' v 4 (some P3) ∧ Fr v.S W w' := fun W v h => by
    have := read_hp W v 3 P2 h (by decide) 4 rfl 2
    rw [r3] at this; exact this
  have s4 : ∀ W v, HP W v 4 (some P3) → Calls Tryz.prog 37 #[v.p, oneV, .int .i64 4, .int .i64 2] W fun e w' => e = .returned (.tuple #[.string ⟨#[]⟩, .int .i64 19]) ∧ HP w' v 4 (some P3) ∧ Fr v.S W w' := fun W v h => by
    have := read_hp W v 4 P3 h (by decide) 4 rfl 2
    rw [r4] at this; exact this
  have s5 : ∀ W v, HP W v 4 (some P3) → Calls Tryz.prog 66 #[v.p, oneV, .int .i64 4, .bool true] W fun e w' => e = .returned (.int .i64 0) ∧ HP w' v 5 (some P4) ∧ Fr v.S W w' := fun W v h => by
    have := leave_hp W v 4 P3 h (by decide) 4 rfl true
    rw [r5] at this; exact this
  have s6 : ∀ W v, HP W v 5 (some P4) → Calls Tryz.prog 37 #[v.p, oneV, .int .i64 4, .int .i64 2] W fun e w' => e = .returned (.tuple #[.string ⟨#[]⟩, .int .i64 0]) ∧ HP w' v 5 (some P4) ∧ Fr v.S W w' := fun W v h => by
    have := read_hp W v 5 P4 h (by decide) 4 rfl 2
    rw [r6] at this; exact this
  have s7 : ∀ W v, HP W v 5 (some P4) → Calls Tryz.prog 66 #[v.p, oneV, .int .i64 4, .bool false] W fun e w' => e = .returned (.int .i64 0) ∧ HP w' v 6 none ∧ Fr v.S W w' := fun W v h => by
    have := leave_hp W v 5 P4 h (by decide) 4 rfl false
    rw [r7] at this; exact this
  have s8 : ∀ W v, HP W v 6 none → Calls Tryz.prog 49 #[v.p, oneV, .int .i64 4] W fun e w' => e = .returned (.tuple #[Pp.zero.v, .int .i64 8]) ∧ HP w' v 6 none ∧ Fr v.S W w' := fun W v h => get_hp_none W v 6 h 4 (by decide)
  have hone := one_any
  generalize oneV = ov at *
  unfold Pp.zero Pp.v at s8
  unfold VW.p at s0 s1 s2 s3 s4 s5 s6 s7 s8
  simp only at s8
  go_enter Tryz.func24, Tryz.ntmps24
  go_wp2_with (first | (go_at_call 33; refine (stateNew_any _).mono ?_; rintro e w1 ⟨rfl, rfl⟩) | (go_at_call 32; refine (viewNew_hp _ _ (base_new w)).mono ?_; rintro e w2 ⟨v, rfl, hP, hB, hS⟩; have hF := Fr.refl v.S w2) | (go_at_call 35; refine (hone _).mono ?_; rintro e wx ⟨rfl, hBx⟩; replace hP := hP.below hBx; replace hF := hF.trans (Fr.of_below hBx)))
  refine (s0 _ v hP).mono ?_
  rintro e wn ⟨rfl, hQ, hG⟩
  replace hP := hQ
  replace hF := hF.trans hG
  clear hQ hG
  go_wp2_with (go_at_call 35; refine (hone _).mono ?_; rintro e wx ⟨rfl, hBx⟩; replace hP := hP.below hBx; replace hF := hF.trans (Fr.of_below hBx))
  refine (s1 _ v hP).mono ?_
  rintro e wn ⟨rfl, hQ, hG⟩
  replace hP := hQ
  replace hF := hF.trans hG
  clear hQ hG
  go_wp2_with (go_at_call 35; refine (hone _).mono ?_; rintro e wx ⟨rfl, hBx⟩; replace hP := hP.below hBx; replace hF := hF.trans (Fr.of_below hBx))
  refine (s2 _ v hP).mono ?_
  rintro e wn ⟨rfl, hQ, hG⟩
  replace hP := hQ
  replace hF := hF.trans hG
  clear hQ hG
  go_wp2_with (go_at_call 35; refine (hone _).mono ?_; rintro e wx ⟨rfl, hBx⟩; replace hP := hP.below hBx; replace hF := hF.trans (Fr.of_below hBx))
  refine (s3 _ v hP).mono ?_
  rintro e wn ⟨rfl, hQ, hG⟩
  replace hP := hQ
  replace hF := hF.trans hG
  clear hQ hG
  go_wp2_with (go_at_call 35; refine (hone _).mono ?_; rintro e wx ⟨rfl, hBx⟩; replace hP := hP.below hBx; replace hF := hF.trans (Fr.of_below hBx))
  refine (s4 _ v hP).mono ?_
  rintro e wn ⟨rfl, hQ, hG⟩
  replace hP := hQ
  replace hF := hF.trans hG
  clear hQ hG
  go_wp2_with (go_at_call 35; refine (hone _).mono ?_; rintro e wx ⟨rfl, hBx⟩; replace hP := hP.below hBx; replace hF := hF.trans (Fr.of_below hBx))
  refine (s5 _ v hP).mono ?_
  rintro e wn ⟨rfl, hQ, hG⟩
  replace hP := hQ
  replace hF := hF.trans hG
  clear hQ hG
  go_wp2_with (go_at_call 35; refine (hone _).mono ?_; rintro e wx ⟨rfl, hBx⟩; replace hP := hP.below hBx; replace hF := hF.trans (Fr.of_below hBx))
  refine (s6 _ v hP).mono ?_
  rintro e wn ⟨rfl, hQ, hG⟩
  replace hP := hQ
  replace hF := hF.trans hG
  clear hQ hG
  go_wp2_with (go_at_call 35; refine (hone _).mono ?_; rintro e wx ⟨rfl, hBx⟩; replace hP := hP.below hBx; replace hF := hF.trans (Fr.of_below hBx))
  refine (s7 _ v hP).mono ?_
  rintro e wn ⟨rfl, hQ, hG⟩
  replace hP := hQ
  replace hF := hF.trans hG
  clear hQ hG
  go_wp2_with (go_at_call 35; refine (hone _).mono ?_; rintro e wx ⟨rfl, hBx⟩; replace hP := hP.below hBx; replace hF := hF.trans (Fr.of_below hBx))
  refine (s8 _ v hP).mono ?_
  rintro e wn ⟨rfl, hQ, hG⟩
  replace hP := hQ
  replace hF := hF.trans hG
  clear hQ hG
  go_wp2_with fail
  go_ret
  have hA := (below_new1 w (.cells #[.pointer none] 197)).trans' hB
  have hall := hA.trans (hF.below (B := w.heap.size) hA.size (fun i hi => by have := hS i hi; simp at this; omega))
  exact ⟨rfl, hall.alloc hall.size _⟩

end Go.Proofs.YtdjjfjnkkgmadaaGreatDoor
