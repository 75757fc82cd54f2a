/-
  PortEpochs: its walk.
-/
import Derived.Test.YtdjjfjnkkgmadaaGreatDoorPortO
namespace Go.Proofs.YtdjjfjnkkgmadaaGreatDoor
open Go Go.RowKit

namespace EpK
open QK
theorem b1 {n ep : Int} (hn : 1 ≤ n ∧ n ≤ 9999) (he : 0 ≤ ep ∧ ep ≤ 1073741824) : begErr m1 n ep = 0 := by
  have h1 : Ln.valid m1.data.toList = true := by decide
  unfold begErr
  rw [h1, if_neg (by simp), if_neg (by omega), if_neg (by omega), if_neg (by simp [within, he])]
theorem b2 {n ep : Int} (hn : 1 ≤ n ∧ n ≤ 9999) (he : 0 ≤ ep ∧ ep ≤ 1073741824) : begErr m2 n ep = 0 := by
  have h1 : Ln.valid m2.data.toList = true := by decide
  unfold begErr
  rw [h1, if_neg (by simp), if_neg (by omega), if_neg (by omega), if_neg (by simp [within, he])]
theorem b0 {n ep : Int} (hn : 1 ≤ n ∧ n ≤ 9999) (he : 0 ≤ ep ∧ ep ≤ 1073741824) : begErr ⟨#[]⟩ n ep = 0 := by
  have h1 : Ln.valid (ByteArray.mk #[]).data.toList = true := by decide
  unfold begErr
  rw [h1, if_neg (by simp), if_neg (by omega), if_neg (by omega), if_neg (by simp [within, he])]
theorem f1 {ep : Int} (he : 0 ≤ ep ∧ ep ≤ 1073741824) : (Po.fresh m1 ep).err = 0 := Po.fresh_err (by decide) (by simp [within, he])
theorem f2 {ep : Int} (he : 0 ≤ ep ∧ ep ≤ 1073741824) : (Po.fresh m2 ep).err = 0 := Po.fresh_err (by decide) (by simp [within, he])

variable {n ep ot : Int}
theorem o1 (hn : 100 ≤ n ∧ n ≤ 9999) (he : 0 ≤ ep ∧ ep ≤ 1073741824) : opE m1 1 n ep (so none) = 0 := by
  rw [opE, b1 (by omega) he, if_neg (by simp), if_neg (by omega), rdP_so_none, if_neg (by decide)]
theorem o2 (hn : 100 ≤ n ∧ n ≤ 9999) (he : 0 ≤ ep ∧ ep ≤ 1073741824) (ho : 0 ≤ ot ∧ ot ≤ 1073741824) (h : ep ≠ ot) : opE m2 2 n ot (so (some (Po.fresh m1 ep))) = 0 := by
  rw [opE, b2 (by omega) ho, if_neg (by simp), if_neg (by omega), rdP_so_some (f1 he), if_neg (show ¬ (Po.fresh m1 ep).e = ot from h), if_neg (by decide)]
theorem o3 (hn : 100 ≤ n ∧ n ≤ 9999) (he : 0 ≤ ep ∧ ep ≤ 1073741824) : opE m2 2 n ep (so (some (Po.fresh m1 ep))) = 19 := by
  rw [opE, b2 (by omega) he, if_neg (by simp), if_neg (by omega), rdP_so_some (f1 he), if_pos (show (Po.fresh m1 ep).e = ep from rfl), if_pos rfl]
theorem g1 (hn : 100 ≤ n ∧ n ≤ 9999) (he : 0 ≤ ep ∧ ep ≤ 1073741824) : gtD n ep (so (some (Po.fresh m1 ep))) = (Po.fresh m1 ep, 0) := by
  rw [gtD, b0 (by omega) he, if_neg (by simp), rdP_so_some (f1 he), if_pos (show (Po.fresh m1 ep).e = ep from rfl)]
theorem g2 (hn : 100 ≤ n ∧ n ≤ 9999) (he : 0 ≤ ep ∧ ep ≤ 1073741824) (ho : 0 ≤ ot ∧ ot ≤ 1073741824) (h : ep ≠ ot) : gtD n ep (so (some (Po.fresh m2 ot))) = (Po.zero, 8) := by
  rw [gtD, b0 (by omega) he, if_neg (by simp), rdP_so_some (f2 ho), if_neg (show ¬ (Po.fresh m2 ot).e = ep from fun e => h e.symm)]
theorem g3 (hn : 100 ≤ n ∧ n ≤ 9999) (ho : 0 ≤ ot ∧ ot ≤ 1073741824) : gtD n ot (so (some (Po.fresh m2 ot))) = (Po.fresh m2 ot, 0) := by
  rw [gtD, b0 (by omega) ho, if_neg (by simp), rdP_so_some (f2 ho), if_pos (show (Po.fresh m2 ot).e = ot from rfl)]
theorem c1 (hn : 100 ≤ n ∧ n ≤ 9999) (he : 0 ≤ ep ∧ ep ≤ 1073741824) (ho : 0 ≤ ot ∧ ot ≤ 1073741824) (h : ep ≠ ot) : clE m1 n ep (so (some (Po.fresh m2 ot))) = 8 := by
  rw [clE, b1 (by omega) he, if_neg (by simp), rdP_so_some (f2 ho), if_neg (show ¬ (Po.fresh m2 ot).e = ep from fun e => h e.symm), if_pos (by decide)]
theorem c2 (hn : 100 ≤ n ∧ n ≤ 9999) (ho : 0 ≤ ot ∧ ot ≤ 1073741824) : clE m1 n ot (so (some (Po.fresh m2 ot))) = 14 := by
  rw [clE, b1 (by omega) ho, if_neg (by simp), rdP_so_some (f2 ho), if_pos (show (Po.fresh m2 ot).e = ot from rfl), if_neg (by simp), if_pos (by show m2 ≠ m1; decide)]
theorem c3 (hn : 100 ≤ n ∧ n ≤ 9999) (ho : 0 ≤ ot ∧ ot ≤ 1073741824) : clE m2 n ot (so (some (Po.fresh m2 ot))) = 0 := by
  rw [clE, b2 (by omega) ho, if_neg (by simp), rdP_so_some (f2 ho), if_pos (show (Po.fresh m2 ot).e = ot from rfl), if_neg (by simp), if_neg (by show ¬ m2 ≠ m2; simp)]
end EpK

theorem num_in (a m : Int) (hm : 0 < m ∧ m ≤ 1000000) : 0 ≤ wrap64 ((IntKind.u64.wrap a).tmod m) ∧ wrap64 ((IntKind.u64.wrap a).tmod m) < m := by
  have h0 : 0 ≤ IntKind.u64.wrap a := by
    unfold IntKind.wrap
    simp [IntKind.signed, IntKind.bits]
    omega
  have h1 := Int.tmod_nonneg m h0
  have h2 := Int.tmod_lt_of_pos (IntKind.u64.wrap a) hm.1
  generalize (IntKind.u64.wrap a).tmod m = x at *
  have : wrap64 x = x := by unfold wrap64; omega
  omega

open QK EpK in
set_option maxRecDepth 100000 in
set_option maxHeartbeats 8000000 in
theorem portEpochs_any (a b c : Int) (w : World) : Calls Tryz.prog 12 #[.int .i64 a, .int .i64 b, .int .i64 c] w fun e w' => e = .returned (.bool true) ∧ Below w.heap.size w w' := by
  have hkn := known37_any
  have hm1 : (m1.toList == [49]) = true := by rw [ByteArray.toList_eq]; decide
  have hm2 : (m2.toList == [50]) = true := by rw [ByteArray.toList_eq]; decide
  go_enter Tryz.func12, Tryz.ntmps12
  go_wp2_with (first | (go_at_call 41; refine (hkn _).mono ?_; rintro e w1 ⟨rfl, hB1⟩) | (go_at_call 33; refine (stateNew_any _).mono ?_; rintro e w2 ⟨rfl, rfl⟩) | (go_at_call 32; refine (viewNew_po _ _ (base_new w1)).mono ?_; rintro e w3 ⟨v, rfl, hPn, hB3, hS⟩))
  have hn : 100 ≤ wrap64 (100 + wrap64 ((IntKind.u64.wrap a).tmod 9900)) ∧ wrap64 (100 + wrap64 ((IntKind.u64.wrap a).tmod 9900)) ≤ 9999 := by
    have := num_in a 9900 (by omega)
    have h2 : wrap64 (100 + wrap64 ((IntKind.u64.wrap a).tmod 9900)) = 100 + wrap64 ((IntKind.u64.wrap a).tmod 9900) := by generalize wrap64 ((IntKind.u64.wrap a).tmod 9900) = x at *; unfold wrap64; omega
    omega
  have he : 0 ≤ wrap64 ((IntKind.u64.wrap b).tmod 1000) ∧ wrap64 ((IntKind.u64.wrap b).tmod 1000) ≤ 1073741824 := by
    have := num_in b 1000 (by omega)
    omega
  have ho : 0 ≤ wrap64 ((IntKind.u64.wrap c).tmod 1000) ∧ wrap64 ((IntKind.u64.wrap c).tmod 1000) ≤ 1073741824 := by
    have := num_in c 1000 (by omega)
    omega
  generalize wrap64 (100 + wrap64 ((IntKind.u64.wrap a).tmod 9900)) = n at *
  generalize wrap64 ((IntKind.u64.wrap b).tmod 1000) = ep at *
  generalize wrap64 ((IntKind.u64.wrap c).tmod 1000) = ot at *
  have hP3 := hPn n
  have hF3 := Fr.refl v.S w3
  have s1 := open_po w3 v 0 n none hP3 (by decide) m1 (by decide) 1 ep
  rw [o1 hn he] at s1
  unfold VW.p at s1
  refine s1.mono ?_
  rintro e w4 ⟨rfl, hP4, hF4⟩
  simp only [decide_true, if_true, ckp] at hP4
  clear s1
  go_wp2_with fail
  have s2 := open_po w4 v _ n _ hP4 (by decide) m2 (by decide) 2 ot
  by_cases heo : ep = ot
  · subst heo
    rw [o3 hn he] at s2
    unfold VW.p at s2
    refine s2.mono ?_
    rintro e w5 ⟨rfl, hP5, hF5⟩
    clear s2
    go_wp2_with fail
    rw [if_neg (by decide)] at hP5
    have s3 : Calls Tryz.prog 80 #[.pointer (some ⟨v.vb, 0, none⟩), .int .i64 n, .int .i64 ep] w5 fun e w' => ∃ qv, e = .returned (.tuple #[.agg #[.string m1, .int .i64 ep, .int .i64 0, qv], .int .i64 0]) ∧ PksIn w' qv [] ∧ Fr v.S w5 w' := by
      have := get_po w5 v _ n _ hP5 ep
      rw [g1 hn he] at this
      exact this.mono fun e w' ⟨qv, h1, h2, _, h4⟩ => ⟨qv, h1, h2, h4⟩
    refine s3.mono ?_
    rintro e w6 ⟨qv, rfl, hk6, hF6⟩
    obtain ⟨a6, c6, rfl, hrest⟩ := hk6
    clear hrest s3
    go_wp2_with fail
    go_ret
    have hFF := (((hF3.trans hF4).trans hF5).trans hF6).alloc (.cells #[.string m1, .int .i64 ep, .int .i64 0, .slice a6 0 c6] 56)
    have hA := (hB1.trans' (below_new1 w1 (.cells #[.pointer none] 197))).trans' hB3
    exact ⟨rfl, hA.trans (hFF.below (B := w.heap.size) hA.size (fun i hi => by have h1 := hS i hi; have h2 := hB1.size; rw [World.size_alloc] at h1; omega))⟩
  · rw [o2 hn he ho heo] at s2
    unfold VW.p at s2
    refine s2.mono ?_
    rintro e w5 ⟨rfl, hP5, hF5⟩
    simp only [decide_true, if_true, ckp] at hP5
    have heo' : (ep == ot) = false := by simpa using heo
    replace hP5 : HPo w5 v 2 n (some (Po.fresh m2 ot)) := hP5
    clear s2
    go_wp2_with fail
    have s3 : Calls Tryz.prog 80 #[.pointer (some ⟨v.vb, 0, none⟩), .int .i64 n, .int .i64 ep] w5 fun e w' => ∃ qv, e = .returned (.tuple #[.agg #[.string ⟨#[]⟩, .int .i64 0, .int .i64 0, qv], .int .i64 8]) ∧ PksIn w' qv [] ∧ HPo w' v 2 n (some (Po.fresh m2 ot)) ∧ Fr v.S w5 w' := by
      have := get_po w5 v _ n _ hP5 ep
      rw [g2 hn he ho heo] at this
      exact this
    refine s3.mono ?_
    rintro e w6 ⟨qv, rfl, hk6, hP6, hF6⟩
    obtain ⟨a6, c6, rfl, hrest⟩ := hk6
    clear hrest s3
    go_wp2_with fail
    have hP6a := hP6.below (below_new1 w6 (.cells #[.string ⟨#[]⟩, .int .i64 0, .int .i64 0, .slice a6 0 c6] 56))
    have s4 : Calls Tryz.prog 80 #[.pointer (some ⟨v.vb, 0, none⟩), .int .i64 n, .int .i64 ot] (w6.alloc (.cells #[.string ⟨#[]⟩, .int .i64 0, .int .i64 0, .slice a6 0 c6] 56)) fun e w' => ∃ qv, e = .returned (.tuple #[.agg #[.string m2, .int .i64 ot, .int .i64 0, qv], .int .i64 0]) ∧ PksIn w' qv [] ∧ HPo w' v 2 n (some (Po.fresh m2 ot)) ∧ Fr v.S (w6.alloc (.cells #[.string ⟨#[]⟩, .int .i64 0, .int .i64 0, .slice a6 0 c6] 56)) w' := by
      have := get_po _ v _ n _ hP6a ot
      rw [g3 hn ho] at this
      exact this
    refine s4.mono ?_
    rintro e w7 ⟨qv, rfl, hk7, hP7, hF7⟩
    obtain ⟨a7, c7, rfl, hrest⟩ := hk7
    clear hrest s4
    have hP7a := hP7.below (below_new1 w7 (.cells #[.string m2, .int .i64 ot, .int .i64 0, .slice a7 0 c7] 56))
    have hX7 := blk_new w7 (.cells #[.string m2, .int .i64 ot, .int .i64 0, .slice a7 0 c7] 56)
    have c70 := blk_cell hX7 0
    simp only [List.getElem?_toArray, List.getElem?_cons_zero] at c70
    have s5 : ∀ W k, k < 1000000 → HPo W v k n (some (Po.fresh m2 ot)) → Calls Tryz.prog 81 #[.pointer (some ⟨v.vb, 0, none⟩), .string m1, .int .i64 n, .int .i64 ep] W fun e w' => e = .returned (.int .i64 8) ∧ HPo w' v k n (some (Po.fresh m2 ot)) ∧ Fr v.S W w' := fun W k hk h => by
      have := close_po W v k n _ h hk m1 (by decide) ep
      rw [c1 hn he ho heo] at this
      exact this
    have s6 : ∀ W k, k < 1000000 → HPo W v k n (some (Po.fresh m2 ot)) → Calls Tryz.prog 81 #[.pointer (some ⟨v.vb, 0, none⟩), .string m1, .int .i64 n, .int .i64 ot] W fun e w' => e = .returned (.int .i64 14) ∧ HPo w' v k n (some (Po.fresh m2 ot)) ∧ Fr v.S W w' := fun W k hk h => by
      have := close_po W v k n _ h hk m1 (by decide) ot
      rw [c2 hn ho] at this
      exact this
    have s7 : ∀ W k, k < 1000000 → HPo W v k n (some (Po.fresh m2 ot)) → Calls Tryz.prog 81 #[.pointer (some ⟨v.vb, 0, none⟩), .string m2, .int .i64 n, .int .i64 ot] W fun e w' => e = .returned (.int .i64 0) ∧ Fr v.S W w' := fun W k hk h => by
      have := close_po W v k n _ h hk m2 (by decide) ot
      rw [c3 hn ho] at this
      exact this.mono fun e w' ⟨h1, _, h3⟩ => ⟨h1, h3⟩
    have hm1' : m1 = ⟨#[49]⟩ := rfl
    have hm2' : m2 = ⟨#[50]⟩ := rfl
    rw [hm1'] at s5 s6
    rw [hm2'] at s7
    clear hm1' hm2'
    go_wp2_with (first | (go_at_call 81; (with_reducible refine (s5 _ 2 (by decide) hP7a).mono ?_); rintro e w8 ⟨rfl, hP8, hF8⟩) | (go_at_call 81; (with_reducible refine (s6 _ 2 (by decide) hP8).mono ?_); rintro e w9 ⟨rfl, hP9, hF9⟩) | (go_at_call 81; (with_reducible refine (s7 _ 2 (by decide) hP9).mono ?_); rintro e wa ⟨rfl, hFa⟩))
    go_ret
    have hFF := ((((((((hF3.trans hF4).trans hF5).trans hF6).alloc (.cells #[.string ⟨#[]⟩, .int .i64 0, .int .i64 0, .slice a6 0 c6] 56)).trans hF7).alloc (.cells #[.string m2, .int .i64 ot, .int .i64 0, .slice a7 0 c7] 56)).trans hF8).trans hF9).trans hFa
    have hA := (hB1.trans' (below_new1 w1 (.cells #[.pointer none] 197))).trans' hB3
    exact ⟨rfl, hA.trans (hFF.below (B := w.heap.size) hA.size (fun i hi => by have h1 := hS i hi; have h2 := hB1.size; rw [World.size_alloc] at h1; omega))⟩


end Go.Proofs.YtdjjfjnkkgmadaaGreatDoor
