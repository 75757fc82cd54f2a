/-
  Ports: short.
-/
import Derived.Test.YtdjjfjnkkgmadaaGreatDoorPortG
import Derived.Deep.CutRange
import Derived.Deep.CutBlock
namespace Go.Proofs.YtdjjfjnkkgmadaaGreatDoor
open Go Go.RowKit

/-- A port, limited. -/
def Po.short (p : Po) : Po := ⟨p.o.extract 0 (min p.o.size 100), p.e, p.l, (p.q.take 20).map Pk.small⟩

theorem map_take_next {L : List Pk} {i : Nat} {k : Pk} (h : L[i]? = some k) : (L.take (i + 1)).map Pk.small = (L.take i).map Pk.small ++ [k.small] := by
  rw [List.take_add_one, h]; simp

set_option maxRecDepth 100000 in
set_option maxHeartbeats 8000000 in
theorem short_any (p : Po) (v : Value) (w : World) (hq : PksIn w v p.q) : Calls Tryz.prog 39 #[p.v v] w fun e w' => ∃ v', e = .returned (p.short.v v') ∧ w'.ownsRow w.heap.size 123 2 v' p.short.q.length (pvs p.short.q) ∧ (∀ x ∈ p.short.q, x.f.size ≤ maxLen ∧ x.b.size ≤ maxLen) ∧ Below w.heap.size w w' := by
  have hX := blk_alloc (blk_new w (.cells #[.string p.o, .int .i64 p.e, .int .i64 p.l, v] 56)) (.cells #[.string ⟨#[]⟩, .int .i64 0, .int .i64 0, .slice none 0 0] 56)
  have hZ := blk_new1 w (.cells #[.string p.o, .int .i64 p.e, .int .i64 p.l, v] 56) (.cells #[.string ⟨#[]⟩, .int .i64 0, .int .i64 0, .slice none 0 0] 56)
  have hA := below_new2 w (.cells #[.string p.o, .int .i64 p.e, .int .i64 p.l, v] 56) (.cells #[.string ⟨#[]⟩, .int .i64 0, .int .i64 0, .slice none 0 0] 56)
  have m1 : (if (100 : Int) < (p.o.size : Int) then (100 : Int) else (p.o.size : Int)) = ((min p.o.size 100 : Nat) : Int) := by split <;> omega
  have n1 : min p.o.size 100 ≤ p.o.size := Nat.min_le_left _ _
  unfold Po.short Po.v
  generalize min p.o.size 100 = k1 at *
  obtain ⟨a, cap, rfl, hlen, hcs⟩ := hq
  have Hcs := Lib.hid hcs
  clear hcs
  unfold maxLen at hlen
  obtain ⟨c0, c1, c2, c3⟩ := blk4 hX
  go_enter Tryz.func39, Tryz.ntmps39
  go_upto_block 0 with fail
  have hX' := blk_alloc (blk_new w (.cells #[.string (p.o.extract 0 k1), .int .i64 p.e, .int .i64 p.l, .slice a p.q.length cap] 56)) (.cells #[.string ⟨#[]⟩, .int .i64 0, .int .i64 0, .slice none 0 0] 56)
  have hZ' := blk_new1 w (.cells #[.string (p.o.extract 0 k1), .int .i64 p.e, .int .i64 p.l, .slice a p.q.length cap] 56) (.cells #[.string ⟨#[]⟩, .int .i64 0, .int .i64 0, .slice none 0 0] 56)
  have hA' := below_new2 w (.cells #[.string (p.o.extract 0 k1), .int .i64 p.e, .int .i64 p.l, .slice a p.q.length cap] 56) (.cells #[.string ⟨#[]⟩, .int .i64 0, .int .i64 0, .slice none 0 0] 56)
  clear hX hZ hA c0 c1 c2 c3
  generalize (w.alloc (.cells #[.string (p.o.extract 0 k1), .int .i64 p.e, .int .i64 p.l, .slice a p.q.length cap] 56)).alloc (.cells #[.string ⟨#[]⟩, .int .i64 0, .int .i64 0, .slice none 0 0] 56) = W at *
  have hltW : w.heap.size + 1 < W.heap.size := lt_of_block hZ'
  obtain ⟨i0, hi0, hz0, hz1, hz2⟩ := info_parts info123
  go_cut [3, 4] from 13 to 32 (fun s3 s4 wx => wx.ownsRow W.heap.size 123 2 s3 ((p.q.take 20).map Pk.small).length (pvs ((p.q.take 20).map Pk.small)) ∧ Below W.heap.size W wx)
  case first =>
    go_wp2_with fail
    go_loopw [3, 4] (fun t3 t4 wr => ∃ (i : Nat) (a3 : Option Addr) (c3 : Nat), t3 = .slice a3 i c3 ∧ t4 = .int .i64 i ∧ i ≤ 20 ∧ i ≤ p.q.length ∧ wr.ownsRow W.heap.size 123 2 (.slice a3 i c3) i (pvs ((p.q.take i).map Pk.small)) ∧ Below W.heap.size W wr) (fun _ t4 _ => 20 - (intOf t4).toNat)
    case atStart => exact ⟨0, none, 0, rfl, rfl, Nat.zero_le _, Nat.zero_le _, World.ownsRow_nil .., Below.refl _ _⟩
    case round =>
      obtain ⟨i, a3, c3, rfl, rfl, hi20, hil, hown, hBr⟩ := hrel
      obtain ⟨y0, y1, y2, y3⟩ := blk4 (hBr.heapS hX')
      have hsr := hBr.size
      have hltr : w.heap.size < wr.heap.size := by omega
      by_cases hlt : i < p.q.length
      · by_cases h20 : i < 20
        · obtain ⟨k, hk⟩ : ∃ k, p.q[i]? = some k := ⟨p.q[i], List.getElem?_eq_getElem hlt⟩
          obtain ⟨hf, hb, b, off, rfl, hbl, hat⟩ := Hcs.out i k hk
          obtain ⟨x0, x1⟩ := (hat.below hA' hbl).below hBr (by omega)
          have hbr : b < wr.heap.size := by omega
          have hmt := map_take_next hk
          have Hmt := Lib.hid hmt
          clear hmt hk hat
          have hsm := small_any k
          unfold Pk.v at hsm
          go_wp2_with (first | (go_at_call 76; refine (hsm _).mono ?_; rintro e wn ⟨rfl, hBn⟩; have hownN := ownsRow_below hown hBn; have hBn' : Below W.heap.size W wn := hBr.trans (hBn.mono hsr)) | (at_builtin; refine wpList_append_own2 rfl _ _ 54 rfl W.heap.size 123 i0 _ 2 32 Tryz.underlying54 hi0 hz0 hz1 hz2 rfl (by decide) (.slice a3 i c3) i (pvs ((p.q.take i).map Pk.small)) rfl (hownN.alloc _) ⟨_, 0, none⟩ 1 1 [.string k.small.f, .string k.small.b] rfl rfl (World.news_of_block (blk_new wn _)) (by simp [Value.oneCell']) (by unfold maxLen; omega) (by omega) (by have := hBn'.size; simp; omega) ?_; intro a' c' w' hown' hgrow _))
          have hB' : Below W.heap.size W w' := (hBn'.alloc hBn'.size _).grown hgrow (by have := hBn'.size; simp; omega) (fun g e => (hown.lt g e.symm.symm).1)
          exact ⟨⟨i + 1, a', c', rfl, by go_num, by omega, by omega, by rw [Hmt.out, pvs_append]; exact hown', hB'⟩, by simp [intOf]; omega⟩
        · have e : (p.q.take i).map Pk.small = (p.q.take 20).map Pk.small := by rw [show i = 20 by omega]
          have el : ((p.q.take 20).map Pk.small).length = i := by simp; omega
          rw [e] at hown
          go_wp2_with fail
          go_meet
          exact ⟨by rw [el]; exact hown, hBr⟩
      · have e : (p.q.take i).map Pk.small = (p.q.take 20).map Pk.small := by rw [List.take_of_length_le (by omega), List.take_of_length_le (by omega)]
        have el : ((p.q.take 20).map Pk.small).length = i := by simp; omega
        rw [e] at hown
        go_wp2_with fail
        go_meet
        exact ⟨by rw [el]; exact hown, hBr⟩
  case rest =>
    obtain ⟨hown, hBc⟩ := hcut
    obtain ⟨a3, c3, rfl⟩ := owns_slice hown
    have hsz : ∀ x ∈ (p.q.take 20).map Pk.small, x.f.size ≤ maxLen ∧ x.b.size ≤ maxLen := (fun x hx => by
      obtain ⟨y, hy, rfl⟩ := List.mem_map.1 hx
      obtain ⟨j, hj⟩ := List.getElem?_of_mem (List.mem_of_mem_take hy)
      obtain ⟨g1, g2, _⟩ := Hcs.out j y hj
      simp only [Pk.small, ByteArray.size_extract]
      omega)
    have hXc := hBc.heapS hX'
    have hZc := hBc.heapS hZ'
    obtain ⟨y0, y1, y2, y3⟩ := blk4 hXc
    have hsc := hBc.size
    have hfz : ∀ j, wc.frozen? ⟨w.heap.size, j, none⟩ = false := fun j => blk_free hXc j
    have hltc : w.heap.size < wc.heap.size := by omega
    generalize hQ : (p.q.take 20).map Pk.small = Q at *
    have hZs : (wc.setCell ⟨w.heap.size, 3, none⟩ (.slice a3 Q.length c3)).heap[w.heap.size + 1]? = _ := blk_set_other hZc (by simp) _
    go_wp2_with (refine wpList_store_row rfl 56 _ _ rfl (w.heap.size + 1) #[.string (p.o.extract 0 k1), .int .i64 p.e, .int .i64 p.l, .slice a3 Q.length c3] rfl rfl 56 _ hZs (by kernel_rfl) rfl (by simp [Value.oneCell']) ?_)
    have hF1 : Fr (fun k => k = w.heap.size ∨ k = w.heap.size + 1) wc (wc.setCell ⟨w.heap.size, 3, none⟩ (.slice a3 Q.length c3)) := (Fr.refl _ wc).setCell (.inl (.inl rfl)) _
    have hF2 := fun cs => hF1.trans ((Fr.setRow1 (wc.setCell ⟨w.heap.size, 3, none⟩ (.slice a3 Q.length c3)) (w.heap.size + 1) cs).mono fun _ h => .inr h)
    refine bodyPost_ret (v := .agg #[.string (p.o.extract 0 k1), .int .i64 p.e, .int .i64 p.l, .slice a3 Q.length c3]) (results_cell_row rfl _ _ (w.heap.size + 1) 56 _ (0, 0) _ rfl (setRow_heap _ _ _ _ _ _ hZs) Tryz.underlying56 rfl (by kernel_rfl)) rfl ⟨.slice a3 Q.length c3, rfl, ?_, ?_, (((hA'.trans' hBc).setCell (Nat.le_refl _) _).setRow (Nat.le_succ _) _)⟩
    · rw [hQ]
      exact ownsRow_mono (owns_fr hown (hF2 _) (by rintro g c f (rfl | rfl) hc; rw [hXc] at hc; cases hc; rw [hZc] at hc; cases hc)) (by omega)
    · rw [hQ]
      exact hsz

end Go.Proofs.YtdjjfjnkkgmadaaGreatDoor
