/-
  Ports: the checks of packets and numbers, the program's and the statements' (printed by tools/genportb.py).
-/
import Derived.Test.YtdjjfjnkkgmadaaGreatDoorPortA
import Derived.Test.YtdjjfjnkkgmadaaGreatDoorObject
namespace Go.Proofs.YtdjjfjnkkgmadaaGreatDoor
open Go Go.RowKit

def Pk.v (p : Pk) : Value := .agg #[.string p.f, .string p.b]

theorem counts_any (n : Int) (w : World) : Calls Tryz.prog 120 #[.int .i64 n] w fun e w' => e = .returned (.bool (within n 1073741824)) ∧ w = w' := by
  by_cases h1 : 0 ≤ n
  · by_cases h2 : n ≤ 1073741824
    · have e : within n 1073741824 = true := by simp [within, h1, h2]
      rw [e]
      go_enter Tryz.func120, Tryz.ntmps120
      go_wp2
      go_ret
      exact ⟨by simp, rfl⟩
    · have e : within n 1073741824 = false := by simp [within, h2]
      rw [e]
      go_enter Tryz.func120, Tryz.ntmps120
      go_wp2
      go_ret
      exact ⟨by simp, rfl⟩
  · have e : within n 1073741824 = false := by simp [within, h1]
    rw [e]
    go_enter Tryz.func120, Tryz.ntmps120
    go_wp2
    go_ret
    exact ⟨rfl, rfl⟩

theorem lcounts_any (n : Int) (w : World) : Calls Tryz.prog 119 #[.int .i64 n] w fun e w' => e = .returned (.bool (within n 1073741824)) ∧ w = w' := by
  by_cases h1 : 0 ≤ n
  · by_cases h2 : n ≤ 1073741824
    · have e : within n 1073741824 = true := by simp [within, h1, h2]
      rw [e]
      go_enter Tryz.func119, Tryz.ntmps119
      go_wp2
      go_ret
      exact ⟨by simp, rfl⟩
    · have e : within n 1073741824 = false := by simp [within, h2]
      rw [e]
      go_enter Tryz.func119, Tryz.ntmps119
      go_wp2
      go_ret
      exact ⟨by simp, rfl⟩
  · have e : within n 1073741824 = false := by simp [within, h1]
    rw [e]
    go_enter Tryz.func119, Tryz.ntmps119
    go_wp2
    go_ret
    exact ⟨rfl, rfl⟩

set_option maxRecDepth 100000 in
theorem pkCheck_any (p : Pk) (hp : p.f.size ≤ maxLen) (w : World) : Calls Tryz.prog 121 #[p.v] w fun e w' => e = .returned (.int .i64 p.err) ∧ Below w.heap.size w w' := by
  have hw := word_any p.f hp
  have hX := blk_new w (.cells #[.string p.f, .string p.b] 123)
  have hA := below_new1 w (.cells #[.string p.f, .string p.b] 123)
  unfold Pk.v Pk.err
  cases h : word p.f.data.toList with
  | false =>
    rw [h] at hw
    go_enter Tryz.func121, Tryz.ntmps121
    go_wp2_with (go_at_call 150; refine (hw _).mono ?_; rintro e w1 ⟨hB, rfl⟩)
    go_ret
    exact ⟨rfl, hA.trans' hB⟩
  | true =>
    rw [h] at hw
    by_cases h5 : 512 < p.b.size
    · rw [if_neg (by simp), if_pos h5]
      go_enter Tryz.func121, Tryz.ntmps121
      go_wp2_with (go_at_call 150; refine (hw _).mono ?_; rintro e w1 ⟨hB, rfl⟩; obtain ⟨c0, c1⟩ := blk2 (hB.heapS hX))
      go_ret
      exact ⟨rfl, hA.trans' hB⟩
    · rw [if_neg (by simp), if_neg h5]
      go_enter Tryz.func121, Tryz.ntmps121
      go_wp2_with (go_at_call 150; refine (hw _).mono ?_; rintro e w1 ⟨hB, rfl⟩; obtain ⟨c0, c1⟩ := blk2 (hB.heapS hX))
      go_ret
      exact ⟨rfl, hA.trans' hB⟩

set_option maxRecDepth 100000 in
theorem lpkCheck_any (p : Pk) (hp : p.f.size ≤ maxLen) (w : World) : Calls Tryz.prog 78 #[p.v] w fun e w' => e = .returned (.int .i64 p.err) ∧ Below w.heap.size w w' := by
  have hw := word_any p.f hp
  have hX := blk_new w (.cells #[.string p.f, .string p.b] 123)
  have hA := below_new1 w (.cells #[.string p.f, .string p.b] 123)
  unfold Pk.v Pk.err
  cases h : word p.f.data.toList with
  | false =>
    rw [h] at hw
    go_enter Tryz.func78, Tryz.ntmps78
    go_wp2_with (go_at_call 150; refine (hw _).mono ?_; rintro e w1 ⟨hB, rfl⟩)
    go_ret
    exact ⟨rfl, hA.trans' hB⟩
  | true =>
    rw [h] at hw
    by_cases h5 : 512 < p.b.size
    · rw [if_neg (by simp), if_pos h5]
      go_enter Tryz.func78, Tryz.ntmps78
      go_wp2_with (go_at_call 150; refine (hw _).mono ?_; rintro e w1 ⟨hB, rfl⟩; obtain ⟨c0, c1⟩ := blk2 (hB.heapS hX))
      go_ret
      exact ⟨rfl, hA.trans' hB⟩
    · rw [if_neg (by simp), if_neg h5]
      go_enter Tryz.func78, Tryz.ntmps78
      go_wp2_with (go_at_call 150; refine (hw _).mono ?_; rintro e w1 ⟨hB, rfl⟩; obtain ⟨c0, c1⟩ := blk2 (hB.heapS hX))
      go_ret
      exact ⟨rfl, hA.trans' hB⟩

end Go.Proofs.YtdjjfjnkkgmadaaGreatDoor
