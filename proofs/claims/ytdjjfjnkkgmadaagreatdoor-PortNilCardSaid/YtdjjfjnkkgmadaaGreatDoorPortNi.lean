/-
  PortNil: its walk; operations that come in as arguments.
-/
import Derived.Test.YtdjjfjnkkgmadaaGreatDoorPortCall
import Derived.ProofKit
import Derived.Lib.SmallJoins
import Derived.OpenShut
import Derived.ShutString
import Derived.ChangeOld
import Derived.KernelRfl
namespace Go.Proofs.YtdjjfjnkkgmadaaGreatDoor
open Go Go.RowKit

theorem stays_true (w : World) : Stays w fun _ => True := fun _ _ _ _ _ => trivial

theorem opnil_any (w : World) (o : Oq) (ho : o.ok) : Calls Tryz.prog 82 #[o.v, .pointer none] w fun e w' => ∃ p t, e = .returned (⟨p, t, 1⟩ : Rq).v ∧ Below w.heap.size w w' := by
  have hb : ∀ {W W' : World}, Below W.heap.size W W' → Fr (fun _ => False) W W' := fun h => Fr.of_below h
  have hfin : ∀ {W : World}, Fr (fun _ => False) w W → Below w.heap.size w W := fun h => h.below (Nat.le_refl _) (fun _ h => h.elim)
  obtain h | h | h | h | h : o.kd % 5 = 0 ∨ o.kd % 5 = 1 ∨ o.kd % 5 = 2 ∨ o.kd % 5 = 3 ∨ o.kd % 5 = 4 := by omega
  · exact (opcall_0 w o ho h (.pointer none) (fun _ => False) (fun _ h => h.elim) (fun _ => True) (stays_true w) ⟨Pk.zero, ⟨#[]⟩, 1⟩ (fun W _ => (open37_nil W (whoF o.wh) _ o.n o.ep).mono fun e W' ⟨h1, h2⟩ => ⟨h1, trivial, hb h2⟩)).mono fun e W' ⟨h1, _, h3⟩ => ⟨_, _, h1, hfin h3⟩
  · exact (opcall_1 w o ho h (.pointer none) (fun _ => False) (fun _ h => h.elim) (fun _ => True) (stays_true w) ⟨Pk.zero, ⟨#[]⟩, 1⟩ (fun W _ => (close37_nil W (whoF o.wh) o.n o.ep).mono fun e W' ⟨h1, h2⟩ => ⟨h1, trivial, h2 ▸ Fr.refl _ _⟩)).mono fun e W' ⟨h1, _, h3⟩ => ⟨_, _, h1, hfin h3⟩
  · exact (opcall_2 w o ho h (.pointer none) (fun _ => False) (fun _ h => h.elim) (fun _ => True) (stays_true w) ⟨Pk.zero, ⟨#[]⟩, 1⟩ (fun W _ => (arrive37_nil W o.n o.ep o.p.small).mono fun e W' ⟨h1, h2⟩ => ⟨h1, trivial, hb h2⟩)).mono fun e W' ⟨h1, _, h3⟩ => ⟨_, _, h1, hfin h3⟩
  · exact (opcall_3 w o ho h (.pointer none) (fun _ => False) (fun _ h => h.elim) (fun _ => True) (stays_true w) ⟨Pk.zero, ⟨#[]⟩, 1⟩ (fun W _ => (receive37_nil W (whoF o.wh) o.n o.ep).mono fun e W' ⟨h1, h2⟩ => ⟨h1, trivial, hb h2⟩)).mono fun e W' ⟨h1, _, h3⟩ => ⟨_, _, h1, hfin h3⟩
  · exact (opcall_4b w o ho h (.pointer none) (fun _ => False) (fun _ h => h.elim) (fun _ => True) (stays_true w) Po.zero 1 (by decide) (fun W _ => (get37_nil W o.n o.ep).mono fun e W' ⟨h1, h2⟩ => ⟨_, h1, World.ownsRow_nil _ _ _ _, trivial, hb h2⟩)).mono fun e W' ⟨h1, _, h3⟩ => ⟨_, _, h1, hfin h3⟩

theorem base_new1 (w : World) (o : Obj) : Base ((w.alloc o).alloc (.cells #[.pointer none] 197)) (.pointer (some ⟨w.heap.size + 1, 0, none⟩)) (fun _ => none) := by
  have := base_new (w.alloc o)
  rw [World.size_alloc] at this
  exact this

theorem opE_new (who : ByteArray) (n ep : Int) : opE who 0 n ep (so none) = begErr who n ep := by
  unfold opE
  by_cases h : begErr who n ep ≠ 0
  · rw [if_pos h]
  · rw [if_neg h, if_neg (by simp), rdP_so_none, if_neg (by decide)]
    exact (Decidable.not_not.1 h).symm

set_option maxRecDepth 100000 in
set_option maxHeartbeats 8000000 in
theorem portNil_any (o : Oq) (ho : o.ok) (s : ByteArray) (hs : s.size ≤ maxLen) (w : World) : Calls Tryz.prog 13 #[o.v, .string s] w fun e w' => e = .returned (.bool true) ∧ Below w.heap.size w w' := by
  have hkn := known37_any
  have hop := fun w => opnil_any w o ho
  have m1 : (if (60 : Int) < (s.size : Int) then (60 : Int) else (s.size : Int)) = ((min s.size 60 : Nat) : Int) := by split <;> omega
  have n1 : min s.size 60 ≤ s.size := Nat.min_le_left _ _
  generalize min s.size 60 = k1 at *
  have ht : (s.extract 0 k1).size ≤ maxLen := by simp only [ByteArray.size_extract]; omega
  have hval := valid_any (s.extract 0 k1) ht
  have hopen := fun W v h => open_po W v 0 o.n none h (by decide) (s.extract 0 k1) ht 0 o.ep
  simp only [opE_new] at hopen
  have hX := blk_new w (.cells o.cs 135)
  have hA := below_new1 w (.cells o.cs 135)
  unfold Oq.v Rq.v Rq.cs VW.p at *
  unfold Oq.cs at *
  have hcase : (∃ er, (∀ W v, HPo W v 0 o.n none → Calls Tryz.prog 75 #[.pointer (some ⟨v.vb, 0, none⟩), .string (s.extract 0 k1), .agg #[.int .i64 0, .slice none 0 0], .int .i64 o.n, .int .i64 o.ep] W fun e w' => e = .returned (.int .i64 er) ∧ Fr v.S W w') ∧
      ((Ln.valid (s.extract 0 k1).data.toList = false ∧ er = 12) ∨ (Ln.valid (s.extract 0 k1).data.toList = true ∧ ((o.n < 1 ∧ er = 2) ∨ (¬ o.n < 1 ∧ 9999 < o.n ∧ er = 2) ∨ (¬ o.n < 1 ∧ ¬ 9999 < o.n ∧ o.ep < 0 ∧ er = 2) ∨ (¬ o.n < 1 ∧ ¬ 9999 < o.n ∧ ¬ o.ep < 0 ∧ 1073741824 < o.ep ∧ er = 2) ∨ (¬ o.n < 1 ∧ ¬ 9999 < o.n ∧ ¬ o.ep < 0 ∧ ¬ 1073741824 < o.ep ∧ er = 0))))) := by
    refine ⟨begErr (s.extract 0 k1) o.n o.ep, fun W v h => (hopen W v h).mono fun e w' ⟨h1, _, h3⟩ => ⟨h1, h3⟩, ?_⟩
    unfold begErr
    cases hv : Ln.valid (s.extract 0 k1).data.toList with
    | false => exact .inl ⟨rfl, rfl⟩
    | true =>
      refine .inr ⟨rfl, ?_⟩
      rw [if_neg (by simp)]
      by_cases h1 : o.n < 1
      · rw [if_pos h1]; exact .inl ⟨h1, rfl⟩
      · rw [if_neg h1]
        by_cases h2 : 9999 < o.n
        · rw [if_pos h2]; exact .inr (.inl ⟨h1, h2, rfl⟩)
        · rw [if_neg h2]
          by_cases h3 : o.ep < 0
          · rw [if_pos (by simp [within]; omega)]; exact .inr (.inr (.inl ⟨h1, h2, h3, rfl⟩))
          · by_cases h4 : 1073741824 < o.ep
            · rw [if_pos (by simp [within]; omega)]; exact .inr (.inr (.inr (.inl ⟨h1, h2, h3, h4, rfl⟩)))
            · rw [if_neg (by simp [within]; omega)]; exact .inr (.inr (.inr (.inr ⟨h1, h2, h3, h4, rfl⟩)))
  obtain ⟨er, hop5, hc⟩ := hcase
  clear hopen
  clear ht hs
  rcases hc with ⟨hv, rfl⟩ | ⟨hv, ⟨h1, rfl⟩ | ⟨h1, h2, rfl⟩ | ⟨h1, h2, h3, rfl⟩ | ⟨h1, h2, h3, h4, rfl⟩ | ⟨h1, h2, h3, h4, rfl⟩⟩
  all_goals rw [hv] at hval
  all_goals clear hv
  all_goals
    go_enter Tryz.func13, Tryz.ntmps13
    go_wp2_with (first | (go_at_call 41; refine (hkn _).mono ?_; rintro e w1 ⟨rfl, hB1⟩; have hX1 := hB1.heapS hX; obtain ⟨c0, c1, c2, c3, c4, c5, c6⟩ := blk7 hX1) | (go_at_call 82; refine (hop _).mono ?_; rintro e w2 ⟨p, t, rfl, hB2⟩; have hR := blk_new w2 (.cells #[.string p.f, .string p.b, .string t, .int .i64 1] 137); have hX2 := blk_alloc (hB2.heapS hX1) (.cells #[.string p.f, .string p.b, .string t, .int .i64 1] 137); have hbn := base_new1 w2 (.cells #[.string p.f, .string p.b, .string t, .int .i64 1] 137)) | (go_at_call 33; refine (stateNew_any _).mono ?_; rintro e wy ⟨rfl, rfl⟩) | (go_at_call 32; refine (viewNew_po _ _ hbn).mono ?_; rintro e w3 ⟨v, rfl, hPn, hB3, hS⟩; have hX3 := hB3.heapS (blk_alloc hX2 (.cells #[.pointer none] 197)); have hR3 := hB3.heapS (blk_alloc hR (.cells #[.pointer none] 197)); obtain ⟨d0, d1, d2, d3, d4, d5, d6⟩ := blk7 hX3))
    have hl1 := lt_of_block hX1
    have hl2 := hB2.size
    refine (hop5 _ v (hPn o.n)).mono ?_
    rintro e w5 ⟨rfl, hF5⟩
    have hns : ∀ k, k < w2.heap.size + 1 → ¬ v.S k := fun k hk h => by have := hS k h; simp only [World.size_alloc] at this; omega
    have hX5 := hF5.heap (hns _ (by omega)) hX3
    have hR5 := hF5.heap (hns _ (by omega)) hR3
    have hBa : Below w.heap.size w w3 := ((((hA.trans' hB1).trans' hB2).trans' (below_new1 w2 (.cells #[.string p.f, .string p.b, .string t, .int .i64 1] 137))).trans' (below_new1 _ _)).trans' hB3
    have hBb : Below w.heap.size w w5 := hBa.trans (hF5.below hBa.size (fun k hk => by have := hS k hk; simp only [World.size_alloc] at this; omega))
    go_wp2_with (go_at_call 83; refine (hval _).mono ?_; rintro e w6 ⟨hB6, rfl⟩; have hX6 := hB6.heapS hX5; have hR6 := hB6.heapS hR5; obtain ⟨x0, x1, x2, x3, x4, x5, x6⟩ := blk7 hX6; obtain ⟨y0, y1, y2, y3⟩ := blk4 hR6)
    go_ret
    exact ⟨rfl, hBb.trans' hB6⟩

end Go.Proofs.YtdjjfjnkkgmadaaGreatDoor
