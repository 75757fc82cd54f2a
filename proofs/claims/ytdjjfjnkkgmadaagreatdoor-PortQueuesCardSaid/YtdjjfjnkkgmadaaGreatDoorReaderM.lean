/-
  codec.Reader's methods: NewReader, Number, Text, Rest, Close.
-/
import Derived.Test.YtdjjfjnkkgmadaaGreatDoorReader
namespace Go.Proofs.YtdjjfjnkkgmadaaGreatDoor
open Go Go.RowKit

set_option maxRecDepth 100000 in
theorem number_any (most : Int) (r : Nat) (l : List UInt8) (e : Nat) (w : World) (hr : IsReader w r l e) :
    Calls Tryz.prog 109 #[.pointer (some ⟨r, 0, none⟩), .int .i64 most] w fun e' w' =>
      e' = .returned (.int .i64 (Cd.rnum most l e).1) ∧ IsReader w' r (Cd.rnum most l e).2.1 (Cd.rnum most l e).2.2 ∧ Fr (· = r) w w' := by
  have h1 := hr.kept (KeepT.of_below ((Below.refl w.heap.size w).alloc (Nat.le_refl _) (.cells #[.int .i64 most] 3)))
  have h2 := readNum_any most w.heap.size r l e _ h1 (by simp)
  have hr' : r < w.heap.size := by obtain ⟨_, _, _, h, _⟩ := hr; exact lt_of_block h
  have hmf : ∀ (fn : Fn) (first cap : Array Value) (w : World), (Instr.makeFunc fn first cap).run Tryz.prog w = .ok (.func fn first cap) w := fun _ _ _ _ => rfl
  clear hr h1
  go_enter Tryz.func109, Tryz.ntmps109
  go_wp2_with (go_at_call 166; refine h2.mono ?_; rintro e' w' ⟨rfl, hi, hf⟩)
  go_ret
  exact ⟨rfl, hi, Fr.trans' ((Fr.refl (· = r) w).alloc _) hf (fun i h => .inl h)⟩

set_option maxRecDepth 100000 in
theorem text_any (most : Int) (r : Nat) (l : List UInt8) (e : Nat) (w : World) (hmost : most ≤ 16777216) (hr : IsReader w r l e) :
    Calls Tryz.prog 110 #[.pointer (some ⟨r, 0, none⟩), .int .i64 most] w fun e' w' =>
      e' = .returned (.string (bs (Cd.rtxt most l e).1)) ∧ IsReader w' r (Cd.rtxt most l e).2.1 (Cd.rtxt most l e).2.2 ∧ Fr (· = r) w w' := by
  have h1 := hr.kept (KeepT.of_below ((Below.refl w.heap.size w).alloc (Nat.le_refl _) (.cells #[.int .i64 most] 3)))
  have h2 := readTxt_any most w.heap.size r l e _ hmost h1 (by simp)
  have hr' : r < w.heap.size := by obtain ⟨_, _, _, h, _⟩ := hr; exact lt_of_block h
  have hmf : ∀ (fn : Fn) (first cap : Array Value) (w : World), (Instr.makeFunc fn first cap).run Tryz.prog w = .ok (.func fn first cap) w := fun _ _ _ _ => rfl
  clear hr h1
  go_enter Tryz.func110, Tryz.ntmps110
  go_wp2_with (go_at_call 169; refine h2.mono ?_; rintro e' w' ⟨rfl, hi, hf⟩)
  go_ret
  exact ⟨rfl, hi, Fr.trans' ((Fr.refl (· = r) w).alloc _) hf (fun i h => .inl h)⟩


theorem rest_any (r : Nat) (l : List UInt8) (e : Nat) (w : World) (hr : IsReader w r l e) :
    Calls Tryz.prog 171 #[.pointer (some ⟨r, 0, none⟩)] w fun e' w' => e' = .returned (.int .i64 l.length) ∧ ∃ n, w' = w.drewN n := by
  obtain ⟨v, full, k, h1, h2, h3, h4, h5⟩ := hr
  have c0 := blk_cell h1 0
  have c1 := blk_cell h1 1
  simp only [List.getElem?_toArray, List.getElem?_cons_zero, List.getElem?_cons_succ] at c0 c1
  obtain ⟨a, cap, rfl, hcap⟩ := h2.len
  have hlen : l.length = full.length - k := by rw [h5, List.length_drop]
  have Hlen := Lib.hid hlen
  clear hlen h5 h2 h1
  unfold maxLen at h4
  go_enter Tryz.func171, Tryz.ntmps171
  go_wp2_with fail
  go_quiet (fail)
  go_wp2_with fail
  go_ret
  refine ⟨?_, nq, rfl⟩
  rw [Hlen.out, show ((full.length - k : Nat) : Int) = (full.length : Int) - (k : Int) from by omega]
  rfl

/-- Close: the error, or that bytes are left. -/
def Cd.rclose (l : List UInt8) (e : Nat) : Nat := if e = 0 ∧ l ≠ [] then 5 else e

set_option maxRecDepth 100000 in
theorem close_any (r : Nat) (l : List UInt8) (e : Nat) (w : World) (hr : IsReader w r l e) :
    Calls Tryz.prog 111 #[.pointer (some ⟨r, 0, none⟩)] w fun e' w' => e' = .returned (.int .i64 (Cd.rclose l e)) ∧ ∃ n, w' = w.drewN n := by
  have hrest := rest_any r l e w hr
  obtain ⟨v, full, k, h1, h2, h3, h4, h5⟩ := hr
  have c2 := blk_cell h1 2
  simp only [List.getElem?_toArray, List.getElem?_cons_zero, List.getElem?_cons_succ] at c2
  clear h1 h2 h3 h4 h5
  by_cases he : e = 0
  · subst he
    by_cases hl : l = []
    · have hr0 : Cd.rclose l 0 = 0 := by simp [Cd.rclose, hl]
      have hl0 : ¬ (0 : Int) < l.length := by simp [hl]
      rw [hr0]
      clear hr0 hl
      go_enter Tryz.func111, Tryz.ntmps111
      go_wp2_with (go_at_call 171; refine hrest.mono ?_; rintro e w' ⟨rfl, n, rfl⟩)
      go_ret
      exact ⟨rfl, _, rfl⟩
    · have hr0 : Cd.rclose l 0 = 5 := by simp [Cd.rclose, hl]
      have hl0 : (0 : Int) < l.length := by have := List.length_pos_iff.2 hl; omega
      rw [hr0]
      clear hr0 hl
      go_enter Tryz.func111, Tryz.ntmps111
      go_wp2_with (go_at_call 171; refine hrest.mono ?_; rintro e w' ⟨rfl, n, rfl⟩)
      go_ret
      exact ⟨rfl, _, rfl⟩
  · have he' : ((e : Int) == 0) = false := by simp; omega
    have hr0 : Cd.rclose l e = e := by simp [Cd.rclose, he]
    rw [hr0]
    clear hr0 he
    go_enter Tryz.func111, Tryz.ntmps111
    go_wp2_with fail
    go_ret
    exact ⟨rfl, 0, rfl⟩

end Go.Proofs.YtdjjfjnkkgmadaaGreatDoor
