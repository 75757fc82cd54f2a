/-
  Ports: Decode, the program's and the statements' (printed by tools/genporti.py).
-/
import Derived.Test.YtdjjfjnkkgmadaaGreatDoorPortG
import Derived.Test.YtdjjfjnkkgmadaaGreatDoorPortD
import Derived.Deep.RegionLaw
import Derived.Deep.AppendLies
import Derived.Deep.Cut
import Derived.Deep.CutRange
import Derived.Deep.CutBlock
namespace Go.Proofs.YtdjjfjnkkgmadaaGreatDoor
open Go Go.RowKit

/-- One packet more is read at the end. -/
theorem rpks_succ (n : Nat) : ∀ (l : List UInt8) (e : Nat), rpks (n + 1) l e =
    ((rpks n l e).1 ++ [⟨bs (Cd.rtxt 32 (rpks n l e).2.1 (rpks n l e).2.2).1, bs (Cd.rtxt 512 (Cd.rtxt 32 (rpks n l e).2.1 (rpks n l e).2.2).2.1 (Cd.rtxt 32 (rpks n l e).2.1 (rpks n l e).2.2).2.2).1⟩],
      (Cd.rtxt 512 (Cd.rtxt 32 (rpks n l e).2.1 (rpks n l e).2.2).2.1 (Cd.rtxt 32 (rpks n l e).2.1 (rpks n l e).2.2).2.2).2) := by
  induction n with
  | zero => intro l e; rfl
  | succ n ih =>
    intro l e
    rw [rpks, ih, rpks]
    rfl

theorem rpks_len (n : Nat) : ∀ (l : List UInt8) (e : Nat), (rpks n l e).1.length = n := by
  induction n with
  | zero => intro l e; rfl
  | succ n ih => intro l e; simp [rpks, ih]

theorem rtxt_len (most : Nat) (l : List UInt8) (e : Nat) : (Cd.rtxt (most : Int) l e).1.length ≤ most := by
  unfold Cd.rtxt
  by_cases h : e = 0
  · rw [if_pos h]
    unfold Cd.txt
    cases Cd.dec 9 true l with
    | err e => simp
    | ok n s =>
      simp only
      by_cases h1 : (most : Int) < (n : Int)
      · rw [if_pos h1]; simp
      · rw [if_neg h1]
        by_cases h2 : l.length < s + n
        · rw [if_pos h2]; simp
        · rw [if_neg h2]
          simp only [List.length_take]
          omega
  · rw [if_neg h]; simp

theorem rnum_le (most : Nat) (l : List UInt8) (e : Nat) : (Cd.rnum (most : Int) l e).1 ≤ most := by
  unfold Cd.rnum
  by_cases h : e = 0
  · rw [if_pos h]
    unfold Cd.num
    cases Cd.dec 9 true l with
    | err e => simp
    | ok n s =>
      simp only
      by_cases h1 : (most : Int) < (n : Int)
      · rw [if_pos h1]; simp
      · rw [if_neg h1]
        simp only
        omega
  · rw [if_neg h]; simp

/-- A small packet. -/
def Pk.fits (p : Pk) : Prop := p.f.size ≤ 600 ∧ p.b.size ≤ 600

theorem rpks_small (n : Nat) : ∀ (l : List UInt8) (e : Nat), ∀ p ∈ (rpks n l e).1, p.fits := by
  induction n with
  | zero => intro l e p hp; simp [rpks] at hp
  | succ n ih =>
    intro l e p hp
    rw [rpks] at hp
    rcases List.mem_cons.1 hp with rfl | hp
    · have h1 := rtxt_len 32 l e
      have h2 := rtxt_len 512 (Cd.rtxt 32 l e).2.1 (Cd.rtxt 32 l e).2.2
      exact ⟨by rw [bs_size]; exact Nat.le_trans h1 (by omega), by rw [bs_size]; exact Nat.le_trans h2 (by omega)⟩
    · exact ih _ _ p hp

theorem IsReader.drew {w : World} {r : Nat} {l : List UInt8} {e : Nat} (h : IsReader w r l e) : IsReader w.drew r l e := h
theorem IsReader.type {w : World} {r : Nat} {l : List UInt8} {e : Nat} (h : IsReader w r l e) : ∃ cs, w.heap[r]? = some (.cells cs 254 (0, 0)) := by
  obtain ⟨v, full, k, h1, _⟩ := h
  exact ⟨_, h1⟩

/-- A row above what was turned. -/
theorem owns_low {S : Nat → Prop} {w w' : World} {b : Nat} {e : TypeId} {size : Nat} {v : Value} {n : Nat} {xs : List Value} (h : w.ownsRow b e size v n xs) (hf : Fr S w w') (hS : ∀ k, S k → k < b) : w'.ownsRow b e size v n xs := by
  refine ⟨h.1, h.2.imp id ?_⟩
  rintro ⟨g, cap, cur, rfl, h1, h2, h3⟩
  exact ⟨g, cap, cur, rfl, h1, hf.heap (fun hs => by have := hS g hs; omega) h2, h3⟩

theorem grown_heap {w w' : World} {row : Option Nat} (hg : w.grownBy w' row) {k : Nat} {o : Obj} (hk : w.heap[k]? = some o) (hne : some k ≠ row) : w'.heap[k]? = some o := (hg.block k (lt_of_block hk) hne).trans hk

theorem Fr.grown {S : Nat → Prop} {w0 w w' : World} {row : Option Nat} (h : Fr S w0 w) (hg : w.grownBy w' row) (hr : ∀ k, row = some k → S k ∨ w0.heap.size ≤ k) : Fr S w0 w' :=
  ⟨hg.os.trans h.os, hg.tape.trans h.tape, hg.output.trans h.output, Nat.le_trans h.size hg.size, fun k hk hs => (hg.block k (Nat.lt_of_lt_of_le hk h.size) (fun e => (hr k e.symm).elim hs (fun hle => by omega))).trans (h.block k hk hs)⟩

theorem pks_zero (w : World) : PksIn w (.slice none 0 0) [] := ⟨none, 0, rfl, Nat.zero_le _, fun i p h => by simp at h⟩

set_option maxRecDepth 100000 in
set_option maxHeartbeats 16000000 in
theorem portDecode_any (s : ByteArray) (hs : s.size ≤ 140737488355328) (w : World) : Calls Tryz.prog 44 #[.string s] w fun e w' => ∃ qv, e = .returned (.tuple #[(Po.dec s.data.toList).1.v qv, .int .i64 (Po.dec s.data.toList).2]) ∧ w'.ownsRow w.heap.size 123 2 qv (Po.dec s.data.toList).1.q.length (pvs (Po.dec s.data.toList).1.q) ∧ Below w.heap.size w w' := by
  have hsm : s.size ≤ maxLen := by unfold maxLen; omega
  obtain ⟨i0, hi0, hz0, hz1, hz2⟩ := info_parts info123
  obtain ⟨c, wc, hcv, hb, hBc, -⟩ := conv_string (w.alloc (.cells #[.string ⟨#[]⟩, .int .i64 0, .int .i64 0, .slice none 0 0] 56)) s hsm
  rw [World.size_alloc] at hcv hb
  have hlen := dl s
  have hZ := blk_new w (.cells #[.string ⟨#[]⟩, .int .i64 0, .int .i64 0, .slice none 0 0] 56)
  have hZc := hBc.heapS hZ
  generalize hD : Po.dec s.data.toList = D
  have HD := Lib.hid hD
  clear hD
  generalize s.data.toList = l at *
  go_enter Tryz.func44, Tryz.ntmps44
  go_wp2_with (go_at_call 108; refine (newReader_any _ l _ hb.bytes (by omega)).mono ?_; rintro e w1 ⟨r, rfl, hr, hR1, hB1⟩)
  have hZ1 := hB1.heapS hZc
  have hrn : w.heap.size ≠ r := by have := lt_of_block hZc; omega
  refine (text_any 64 r l 0 w1 (by decide) hR1).mono ?_
  rintro e w2 ⟨rfl, hR2, hF2⟩
  have hal := rtxt_len 64 l 0
  generalize ha : Cd.rtxt 64 l 0 = a at hR2
  rw [show ((64 : Nat) : Int) = 64 from rfl, ha] at hal
  go_wp2_with fail
  refine (number_any 1073741824 r _ _ w2 hR2).mono ?_
  rintro e w3 ⟨rfl, hR3, hF3⟩
  generalize hb2 : Cd.rnum 1073741824 a.2.1 a.2.2 = b at hR3
  go_wp2_with fail
  refine (number_any 1073741824 r _ _ w3 hR3).mono ?_
  rintro e w4 ⟨rfl, hR4, hF4⟩
  generalize hc2 : Cd.rnum 1073741824 b.2.1 b.2.2 = c3 at hR4
  go_wp2_with fail
  have hR4a := hR4.kept (KeepT.of_below (below_new1 w4 (.cells #[.string (bs a.1), .int .i64 b.1, .int .i64 c3.1, .slice none 0 0] 56)))
  refine (number_any 16 r _ _ _ hR4a).mono ?_
  rintro e w5 ⟨rfl, hR5, hF5⟩
  have hdl := rnum_le 16 c3.2.1 c3.2.2
  generalize hd2 : Cd.rnum 16 c3.2.1 c3.2.2 = d at hR5
  rw [show ((16 : Nat) : Int) = 16 from rfl, hd2] at hdl
  have hF14 := (hF2.trans hF3).trans hF4
  have hB4 : Below w.heap.size w w4 := ((below_new1 w _).trans' (hBc.trans' hB1)).trans (hF14.below (by have := hB1.size; have := hBc.size; simp at this; omega) (fun i hi => by subst hi; have := hBc.size; simp at this; omega))
  have hr4 : r < w4.heap.size := by obtain ⟨cs, h⟩ := hR4.type; exact lt_of_block h
  have hQ5 := hF5.heap (by omega : ¬ (w4.heap.size = r)) (blk_new w4 (.cells #[.string (bs a.1), .int .i64 b.1, .int .i64 c3.1, .slice none 0 0] 56))
  have hs5 : w4.heap.size + 1 ≤ w5.heap.size := by have := hF5.size; simpa using this
  have hB5 : Below w.heap.size w w5 := (hB4.alloc hB4.size _).trans (hF5.below (by have := hB4.size; simp; omega) (fun i hi => by subst hi; have := hBc.size; simp at this; omega))
  have hZ5 : w5.heap[w.heap.size]? = _ := hF5.heap hrn (blk_alloc (hF14.heap hrn hZ1) (.cells #[.string (bs a.1), .int .i64 b.1, .int .i64 c3.1, .slice none 0 0] 56))
  have hltw : w.heap.size < r := by have := hBc.size; simp at this; omega
  have hX : Hid (Po.read l = (⟨bs a.1, b.1, c3.1, (rpks d.1 d.2.1 d.2.2).1⟩, Cd.rclose (rpks d.1 d.2.1 d.2.2).2.1 (rpks d.1 d.2.1 d.2.2).2.2)) := Lib.hid (by simp only [Po.read, ha, hb2, hc2, hd2])
  have hrl := rpks_len d.1 d.2.1 d.2.2
  have hrs := rpks_small d.1 d.2.1 d.2.2
  have Hrl := Lib.hid hrl
  have Hrs := Lib.hid hrs
  clear hrl hrs ha hb2 hc2 hd2 hF14 hF2 hF3 hF4 hF5 hR1 hR2 hR3 hR4 hR4a hB1 hBc hb hcv
  have How : (bs a.1).size ≤ 64 := by rw [bs_size]; exact hal
  generalize bs a.1 = ow at *
  generalize hqb : w4.heap.size = qb at *
  have hqw : w.heap.size < qb := by omega
  have hqr : r ≠ qb := by omega
  go_wp2_with fail
  go_loopw [20] (fun t20 wr => ∃ (i : Nat) (v : Value), t20 = .int .i64 i ∧ i ≤ d.1 ∧ IsReader wr r (rpks i d.2.1 d.2.2).2.1 (rpks i d.2.1 d.2.2).2.2 ∧ wr.heap[qb]? = some (.cells #[.string ow, .int .i64 b.1, .int .i64 c3.1, v] 56 (0, 0)) ∧ wr.ownsRow w5.heap.size 123 2 v i (pvs (rpks i d.2.1 d.2.2).1) ∧ Fr (fun k => k = r ∨ k = qb) w5 wr) (fun t20 _ => d.1 - (intOf t20).toNat)
  case atStart => exact ⟨0, .slice none 0 0, rfl, Nat.zero_le _, hR5, hQ5, World.ownsRow_nil .., Fr.refl _ _⟩
  case round =>
    obtain ⟨i, v, rfl, hi, hRr, hQr, hown, hFr⟩ := hrel
    by_cases hlt : i < d.1
    · have hsucc := rpks_succ i d.2.1 d.2.2
      have hsm1 := rtxt_len 32 (rpks i d.2.1 d.2.2).2.1 (rpks i d.2.1 d.2.2).2.2
      generalize hp : rpks i d.2.1 d.2.2 = p at *
      generalize hf : Cd.rtxt 32 p.2.1 p.2.2 = f at hsucc
      generalize hg : Cd.rtxt 512 f.2.1 f.2.2 = g at hsucc
      have hT1 := fun W h => text_any 32 r p.2.1 p.2.2 W (by decide) h
      have hT2 := fun W h => text_any 512 r f.2.1 f.2.2 W (by decide) h
      rw [hf] at hT1
      rw [hg] at hT2
      have Hsucc := Lib.hid hsucc
      clear hsucc hp hf hg hsm1
      obtain ⟨y0, y1, y2, y3⟩ := blk4 hQr
      have hsr := hFr.size
      have hrr : r < wr.heap.size := by omega
      have hqrr : qb < wr.heap.size := by omega
      obtain ⟨av, cv, rfl⟩ := owns_slice hown
      go_wp2_with fail
      go_region_law (first | (go_simp; go_at_call 110; (with_reducible refine (hT1 _ (by first | exact hRr | exact hRr.drew)).mono ?_); rintro e wa ⟨rfl, hRa, hFa⟩; have hFa' : Fr (fun k => k = r) wr wa := (by first | exact hFa | exact ((Fr.refl _ wr).drew).trans hFa); have hQa := hFa'.heap (fun h => hqr h.symm) hQr; have z3 := blk_cell hQa 3; simp only [List.getElem?_toArray, List.getElem?_cons_zero, List.getElem?_cons_succ] at z3; have hsa := hFa'.size) | (go_simp; go_at_call 110; (with_reducible refine (hT2 _ (by first | exact hRa | exact hRa.drew)).mono ?_); rintro e wb ⟨rfl, hRb, hFb⟩; have hFb' : Fr (fun k => k = r) wr wb := (by first | exact hFa'.trans hFb | exact (hFa'.drew).trans hFb); have hQb := hFb'.heap (fun h => hqr h.symm) hQr; have x3 := blk_cell hQb 3; simp only [List.getElem?_toArray, List.getElem?_cons_zero, List.getElem?_cons_succ] at x3; have hsb := hFb'.size; have hownb := owns_low hown hFb' (fun k hk => by omega); have u3 := blk_cell (blk_alloc hQb (.cells #[.string (bs f.1), .string (bs g.1)] 123)) 3; simp only [List.getElem?_toArray, List.getElem?_cons_zero, List.getElem?_cons_succ] at u3) | (refine step_append_lies _ rfl _ _ 54 rfl w5.heap.size 123 i0 _ 2 32 Tryz.underlying54 hi0 hz0 hz1 hz2 rfl (by decide) (.slice av i cv) i (pvs p.1) rfl (by first | exact hownb.alloc _ | exact (hownb.alloc _)) ⟨_, 0, none⟩ 1 1 [.string (bs f.1), .string (bs g.1)] rfl rfl (by first | exact World.news_of_block (blk_new wb _)) (by simp [Value.oneCell']) (by decide) (by unfold maxLen; omega) (by omega) (by simp; omega) _ rfl ?_; intro g' cap' w3 hown3 hgr3 hat3 hlt3; have hQ3 := grown_heap hgr3 (blk_alloc hQb (.cells #[.string (bs f.1), .string (bs g.1)] 123)) (ownsRow_ne hown (by omega)); have k2 := blk_cell hQ3 3; have k3 := blk_free hQ3 3; have hlt4 := lt_of_block hQ3; simp only [List.getElem?_toArray, List.getElem?_cons_zero, List.getElem?_cons_succ] at k2))
      all_goals go_wp2_with fail
      all_goals
        have hF3 : Fr (fun k => k = r ∨ k = qb) w5 w3 := ((hFr.trans (hFb'.mono fun _ h => .inl h)).alloc _).grown hgr3 (fun k hk => .inr (by have := (hown.lt k hk.symm.symm).1; omega))
        have hR3 : IsReader w3 r g.2.1 g.2.2 := (hRb.kept (KeepT.of_below (below_new1 wb _))).kept (KeepT.grown hgr3 (fun k hk => by obtain ⟨cur, f', hg⟩ := ownsRow_row (hownb.alloc (.cells #[.string (bs f.1), .string (bs g.1)] 123)) k hk; exact ⟨cur, 123, f', hg, by simp⟩))
        exact ⟨⟨i + 1, _, by go_num, by omega, by rw [Hsucc.out]; exact hR3.kept ((KeepT.refl _ w3).setCell (a := ⟨qb, 3, none⟩) hQ3 (by simp) _), blk_set hQ3 3 _, by rw [Hsucc.out, pvs_append]; exact owns_low (S := fun k => k = qb) hown3 ((Fr.refl (fun k => k = qb) w3).setCell (a := ⟨qb, 3, none⟩) (.inl rfl) _) (fun k hk => by omega), hF3.setCell (a := ⟨qb, 3, none⟩) (.inl (.inr rfl)) _⟩, by simp [intOf]; omega⟩
    · obtain rfl : i = d.1 := by omega
      have hR6 := hRr
      have hQ6 := hQr
      have hown6 := hown
      have hF6 := hFr
      clear hRr hQr hown hFr
      generalize hrp : rpks d.1 d.2.1 d.2.2 = rp at *
      have hrl := Hrl.out
      have hrs := Hrs.out
      have hcl := close_any r _ _ _ hR6
      have hs6 := hF6.size
      have hZ6 := hF6.heap (by omega : ¬ (w.heap.size = r ∨ w.heap.size = qb)) hZ5
      have hB6 : Below w.heap.size w wr := hB5.trans (hF6.below (by have := hB5.size; omega) (fun i hi => by omega))
      generalize hk : Cd.rclose rp.2.1 rp.2.2 = k at *
      rw [← hrl] at hown6
      have hsz : ∀ x ∈ rp.1, x.f.size ≤ maxLen ∧ x.b.size ≤ maxLen := fun x hx => by have := hrs x hx; unfold Pk.fits at this; unfold maxLen; omega
      have hpk := pks_of_owns hown6 hsz
      obtain ⟨av, cv, rfl⟩ := owns_slice hown6
      have hchk := fun W (h : PksIn W (.slice av rp.1.length cv) rp.1) => portCheck_any ⟨ow, b.1, c3.1, rp.1⟩ (.slice av rp.1.length cv) W h (by show ow.size ≤ maxLen; unfold maxLen; omega)
      unfold Po.v at hchk
      simp only at hchk
      have hx := hX.out
      obtain ⟨x0, x1, x2, x3⟩ := blk4 hQ6
      have hrt : Po.read l = (⟨ow, b.1, c3.1, rp.1⟩, k) := hx
      clear hx hX hrl hrs Hrl Hrs hrp hk hF6 hR6 hR5 hQ5
      by_cases hk0 : k = 0
      · subst hk0
        by_cases hqe : (⟨ow, b.1, c3.1, rp.1⟩ : Po).err = 0
        · have hDv : D = (⟨ow, b.1, c3.1, rp.1⟩, 0) := by rw [← HD.out, Po.dec, hrt, if_neg (by simp), if_neg (by simpa using hqe)]
          subst hDv
          rw [hqe] at hchk
          clear hqe hrt HD
          go_wp2_with fail
          refine hcl.mono ?_
          rintro e w6 ⟨rfl, nq, rfl⟩
          have hpk6 : PksIn (wr.drewN nq) (.slice av rp.1.length cv) rp.1 := hpk
          go_wp2_with (first | (go_at_call 43; refine (hchk _ hpk6).mono ?_; rintro e w7 ⟨rfl, hB7⟩; have hZ7 := hB7.heapS (show _ = some _ from hZ6); obtain ⟨y0, y1, y2, y3⟩ := blk4 (hB7.heapS (show _ = some _ from hQ6))) | (refine wpList_store_row rfl 56 _ _ rfl w.heap.size #[.string ow, .int .i64 b.1, .int .i64 c3.1, .slice av rp.1.length cv] rfl rfl 56 _ hZ7 (by kernel_rfl) rfl (by simp [Value.oneCell']) ?_))
          refine bodyPost_ret (results_row_tmp rfl _ _ w.heap.size 56 #[.string ow, .int .i64 b.1, .int .i64 c3.1, .slice av rp.1.length cv] (0, 0) _ rfl (setRow_heap _ _ _ _ _ _ hZ7) Tryz.underlying56 rfl (by kernel_rfl)) rfl ⟨_, rfl, ?_, ?_⟩
          · exact ownsRow_mono (owns_low (ownsRow_below (show (wr.drewN nq).ownsRow _ _ _ _ _ _ from hown6) hB7) (Fr.setRow1 w7 w.heap.size _) (fun k hk => by omega)) (by omega)
          · exact ((hB6.drewN nq).trans' hB7).setRow (Nat.le_refl _) _
        · have hDv : D = (Po.zero, (⟨ow, b.1, c3.1, rp.1⟩ : Po).err) := by rw [← HD.out, Po.dec, hrt, if_neg (by simp), if_pos hqe]
          clear hrt HD
          generalize (⟨ow, b.1, c3.1, rp.1⟩ : Po).err = er at *
          subst hDv
          have hqe2 : (er != 0) = true := by rw [bne_iff_ne]; exact hqe
          clear hqe
          go_wp2_with fail
          refine hcl.mono ?_
          rintro e w6 ⟨rfl, nq, rfl⟩
          have hpk6 : PksIn (wr.drewN nq) (.slice av rp.1.length cv) rp.1 := hpk
          go_wp2_with (first | (go_at_call 43; refine (hchk _ hpk6).mono ?_; rintro e w7 ⟨rfl, hB7⟩; have hZ7 := hB7.heapS (show _ = some _ from hZ6)) | (refine wpList_store_row rfl 56 _ _ rfl w.heap.size #[.string ⟨#[]⟩, .int .i64 0, .int .i64 0, .slice none 0 0] rfl rfl 56 _ hZ7 (by kernel_rfl) rfl (by simp [Value.oneCell']) ?_))
          refine bodyPost_ret (results_row_tmp rfl _ _ w.heap.size 56 #[.string ⟨#[]⟩, .int .i64 0, .int .i64 0, .slice none 0 0] (0, 0) _ rfl (setRow_heap _ _ _ _ _ _ hZ7) Tryz.underlying56 rfl (by kernel_rfl)) rfl ⟨.slice none 0 0, rfl, World.ownsRow_nil _ _ _ _, ?_⟩
          exact ((hB6.drewN nq).trans' hB7).setRow (Nat.le_refl _) _
      · have hDv : D = (Po.zero, (k : Int)) := by rw [← HD.out, Po.dec, hrt, if_pos hk0]
        subst hDv
        have hk2 : ((k : Int) != 0) = true := by rw [bne_iff_ne]; omega
        clear hrt HD hk0
        go_wp2_with fail
        refine hcl.mono ?_
        rintro e w6 ⟨rfl, nq, rfl⟩
        have hZ7 : (wr.drewN nq).heap[w.heap.size]? = some _ := hZ6
        go_wp2_with (refine wpList_store_row rfl 56 _ _ rfl w.heap.size #[.string ⟨#[]⟩, .int .i64 0, .int .i64 0, .slice none 0 0] rfl rfl 56 _ hZ7 (by kernel_rfl) rfl (by simp [Value.oneCell']) ?_)
        refine bodyPost_ret (results_row_tmp rfl _ _ w.heap.size 56 #[.string ⟨#[]⟩, .int .i64 0, .int .i64 0, .slice none 0 0] (0, 0) _ rfl (setRow_heap _ _ _ _ _ _ hZ7) Tryz.underlying56 rfl (by kernel_rfl)) rfl ⟨.slice none 0 0, rfl, World.ownsRow_nil _ _ _ _, ?_⟩
        exact (hB6.drewN nq).setRow (Nat.le_refl _) _

set_option maxRecDepth 100000 in
set_option maxHeartbeats 16000000 in
theorem ldecode_any (s : ByteArray) (hs : s.size ≤ 140737488355328) (w : World) : Calls Tryz.prog 47 #[.string s] w fun e w' => ∃ qv, e = .returned (.tuple #[(Po.dec s.data.toList).1.v qv, .int .i64 (Po.dec s.data.toList).2]) ∧ w'.ownsRow w.heap.size 123 2 qv (Po.dec s.data.toList).1.q.length (pvs (Po.dec s.data.toList).1.q) ∧ Below w.heap.size w w' := by
  have hsm : s.size ≤ maxLen := by unfold maxLen; omega
  obtain ⟨i0, hi0, hz0, hz1, hz2⟩ := info_parts info123
  obtain ⟨c, wc, hcv, hb, hBc, -⟩ := conv_string (w.alloc (.cells #[.string ⟨#[]⟩, .int .i64 0, .int .i64 0, .slice none 0 0] 56)) s hsm
  rw [World.size_alloc] at hcv hb
  have hlen := dl s
  have hZ := blk_new w (.cells #[.string ⟨#[]⟩, .int .i64 0, .int .i64 0, .slice none 0 0] 56)
  have hZc := hBc.heapS hZ
  generalize hD : Po.dec s.data.toList = D
  have HD := Lib.hid hD
  clear hD
  generalize s.data.toList = l at *
  go_enter Tryz.func47, Tryz.ntmps47
  go_wp2_with (go_at_call 108; refine (newReader_any _ l _ hb.bytes (by omega)).mono ?_; rintro e w1 ⟨r, rfl, hr, hR1, hB1⟩)
  have hZ1 := hB1.heapS hZc
  have hrn : w.heap.size ≠ r := by have := lt_of_block hZc; omega
  refine (text_any 64 r l 0 w1 (by decide) hR1).mono ?_
  rintro e w2 ⟨rfl, hR2, hF2⟩
  have hal := rtxt_len 64 l 0
  generalize ha : Cd.rtxt 64 l 0 = a at hR2
  rw [show ((64 : Nat) : Int) = 64 from rfl, ha] at hal
  go_wp2_with fail
  refine (number_any 1073741824 r _ _ w2 hR2).mono ?_
  rintro e w3 ⟨rfl, hR3, hF3⟩
  generalize hb2 : Cd.rnum 1073741824 a.2.1 a.2.2 = b at hR3
  go_wp2_with fail
  refine (number_any 1073741824 r _ _ w3 hR3).mono ?_
  rintro e w4 ⟨rfl, hR4, hF4⟩
  generalize hc2 : Cd.rnum 1073741824 b.2.1 b.2.2 = c3 at hR4
  go_wp2_with fail
  have hR4a := hR4.kept (KeepT.of_below (below_new1 w4 (.cells #[.string (bs a.1), .int .i64 b.1, .int .i64 c3.1, .slice none 0 0] 56)))
  refine (number_any 16 r _ _ _ hR4a).mono ?_
  rintro e w5 ⟨rfl, hR5, hF5⟩
  have hdl := rnum_le 16 c3.2.1 c3.2.2
  generalize hd2 : Cd.rnum 16 c3.2.1 c3.2.2 = d at hR5
  rw [show ((16 : Nat) : Int) = 16 from rfl, hd2] at hdl
  have hF14 := (hF2.trans hF3).trans hF4
  have hB4 : Below w.heap.size w w4 := ((below_new1 w _).trans' (hBc.trans' hB1)).trans (hF14.below (by have := hB1.size; have := hBc.size; simp at this; omega) (fun i hi => by subst hi; have := hBc.size; simp at this; omega))
  have hr4 : r < w4.heap.size := by obtain ⟨cs, h⟩ := hR4.type; exact lt_of_block h
  have hQ5 := hF5.heap (by omega : ¬ (w4.heap.size = r)) (blk_new w4 (.cells #[.string (bs a.1), .int .i64 b.1, .int .i64 c3.1, .slice none 0 0] 56))
  have hs5 : w4.heap.size + 1 ≤ w5.heap.size := by have := hF5.size; simpa using this
  have hB5 : Below w.heap.size w w5 := (hB4.alloc hB4.size _).trans (hF5.below (by have := hB4.size; simp; omega) (fun i hi => by subst hi; have := hBc.size; simp at this; omega))
  have hZ5 : w5.heap[w.heap.size]? = _ := hF5.heap hrn (blk_alloc (hF14.heap hrn hZ1) (.cells #[.string (bs a.1), .int .i64 b.1, .int .i64 c3.1, .slice none 0 0] 56))
  have hltw : w.heap.size < r := by have := hBc.size; simp at this; omega
  have hX : Hid (Po.read l = (⟨bs a.1, b.1, c3.1, (rpks d.1 d.2.1 d.2.2).1⟩, Cd.rclose (rpks d.1 d.2.1 d.2.2).2.1 (rpks d.1 d.2.1 d.2.2).2.2)) := Lib.hid (by simp only [Po.read, ha, hb2, hc2, hd2])
  have hrl := rpks_len d.1 d.2.1 d.2.2
  have hrs := rpks_small d.1 d.2.1 d.2.2
  have Hrl := Lib.hid hrl
  have Hrs := Lib.hid hrs
  clear hrl hrs ha hb2 hc2 hd2 hF14 hF2 hF3 hF4 hF5 hR1 hR2 hR3 hR4 hR4a hB1 hBc hb hcv
  have How : (bs a.1).size ≤ 64 := by rw [bs_size]; exact hal
  generalize bs a.1 = ow at *
  generalize hqb : w4.heap.size = qb at *
  have hqw : w.heap.size < qb := by omega
  have hqr : r ≠ qb := by omega
  go_wp2_with fail
  go_loopw [7] (fun t7 wr => ∃ (i : Nat) (v : Value), t7 = .int .i64 i ∧ i ≤ d.1 ∧ IsReader wr r (rpks i d.2.1 d.2.2).2.1 (rpks i d.2.1 d.2.2).2.2 ∧ wr.heap[qb]? = some (.cells #[.string ow, .int .i64 b.1, .int .i64 c3.1, v] 56 (0, 0)) ∧ wr.ownsRow w5.heap.size 123 2 v i (pvs (rpks i d.2.1 d.2.2).1) ∧ Fr (fun k => k = r ∨ k = qb) w5 wr) (fun t7 _ => d.1 - (intOf t7).toNat)
  case atStart => exact ⟨0, .slice none 0 0, rfl, Nat.zero_le _, hR5, hQ5, World.ownsRow_nil .., Fr.refl _ _⟩
  case round =>
    obtain ⟨i, v, rfl, hi, hRr, hQr, hown, hFr⟩ := hrel
    by_cases hlt : i < d.1
    · have hsucc := rpks_succ i d.2.1 d.2.2
      have hsm1 := rtxt_len 32 (rpks i d.2.1 d.2.2).2.1 (rpks i d.2.1 d.2.2).2.2
      generalize hp : rpks i d.2.1 d.2.2 = p at *
      generalize hf : Cd.rtxt 32 p.2.1 p.2.2 = f at hsucc
      generalize hg : Cd.rtxt 512 f.2.1 f.2.2 = g at hsucc
      have hT1 := fun W h => text_any 32 r p.2.1 p.2.2 W (by decide) h
      have hT2 := fun W h => text_any 512 r f.2.1 f.2.2 W (by decide) h
      rw [hf] at hT1
      rw [hg] at hT2
      have Hsucc := Lib.hid hsucc
      clear hsucc hp hf hg hsm1
      obtain ⟨y0, y1, y2, y3⟩ := blk4 hQr
      have hsr := hFr.size
      have hrr : r < wr.heap.size := by omega
      have hqrr : qb < wr.heap.size := by omega
      obtain ⟨av, cv, rfl⟩ := owns_slice hown
      go_wp2_with fail
      go_region_law (first | (go_simp; go_at_call 110; (with_reducible refine (hT1 _ (by first | exact hRr | exact hRr.drew)).mono ?_); rintro e wa ⟨rfl, hRa, hFa⟩; have hFa' : Fr (fun k => k = r) wr wa := (by first | exact hFa | exact ((Fr.refl _ wr).drew).trans hFa); have hQa := hFa'.heap (fun h => hqr h.symm) hQr; have z3 := blk_cell hQa 3; simp only [List.getElem?_toArray, List.getElem?_cons_zero, List.getElem?_cons_succ] at z3; have hsa := hFa'.size) | (go_simp; go_at_call 110; (with_reducible refine (hT2 _ (by first | exact hRa | exact hRa.drew)).mono ?_); rintro e wb ⟨rfl, hRb, hFb⟩; have hFb' : Fr (fun k => k = r) wr wb := (by first | exact hFa'.trans hFb | exact (hFa'.drew).trans hFb); have hQb := hFb'.heap (fun h => hqr h.symm) hQr; have x3 := blk_cell hQb 3; simp only [List.getElem?_toArray, List.getElem?_cons_zero, List.getElem?_cons_succ] at x3; have hsb := hFb'.size; have hownb := owns_low hown hFb' (fun k hk => by omega); have u3 := blk_cell (blk_alloc hQb (.cells #[.string (bs f.1), .string (bs g.1)] 123)) 3; simp only [List.getElem?_toArray, List.getElem?_cons_zero, List.getElem?_cons_succ] at u3) | (refine step_append_lies _ rfl _ _ 54 rfl w5.heap.size 123 i0 _ 2 32 Tryz.underlying54 hi0 hz0 hz1 hz2 rfl (by decide) (.slice av i cv) i (pvs p.1) rfl (by first | exact hownb.alloc _ | exact (hownb.alloc _)) ⟨_, 0, none⟩ 1 1 [.string (bs f.1), .string (bs g.1)] rfl rfl (by first | exact World.news_of_block (blk_new wb _)) (by simp [Value.oneCell']) (by decide) (by unfold maxLen; omega) (by omega) (by simp; omega) _ rfl ?_; intro g' cap' w3 hown3 hgr3 hat3 hlt3; have hQ3 := grown_heap hgr3 (blk_alloc hQb (.cells #[.string (bs f.1), .string (bs g.1)] 123)) (ownsRow_ne hown (by omega)); have k2 := blk_cell hQ3 3; have k3 := blk_free hQ3 3; have hlt4 := lt_of_block hQ3; simp only [List.getElem?_toArray, List.getElem?_cons_zero, List.getElem?_cons_succ] at k2))
      all_goals go_wp2_with fail
      all_goals
        have hF3 : Fr (fun k => k = r ∨ k = qb) w5 w3 := ((hFr.trans (hFb'.mono fun _ h => .inl h)).alloc _).grown hgr3 (fun k hk => .inr (by have := (hown.lt k hk.symm.symm).1; omega))
        have hR3 : IsReader w3 r g.2.1 g.2.2 := (hRb.kept (KeepT.of_below (below_new1 wb _))).kept (KeepT.grown hgr3 (fun k hk => by obtain ⟨cur, f', hg⟩ := ownsRow_row (hownb.alloc (.cells #[.string (bs f.1), .string (bs g.1)] 123)) k hk; exact ⟨cur, 123, f', hg, by simp⟩))
        exact ⟨⟨i + 1, _, by go_num, by omega, by rw [Hsucc.out]; exact hR3.kept ((KeepT.refl _ w3).setCell (a := ⟨qb, 3, none⟩) hQ3 (by simp) _), blk_set hQ3 3 _, by rw [Hsucc.out, pvs_append]; exact owns_low (S := fun k => k = qb) hown3 ((Fr.refl (fun k => k = qb) w3).setCell (a := ⟨qb, 3, none⟩) (.inl rfl) _) (fun k hk => by omega), hF3.setCell (a := ⟨qb, 3, none⟩) (.inl (.inr rfl)) _⟩, by simp [intOf]; omega⟩
    · obtain rfl : i = d.1 := by omega
      have hR6 := hRr
      have hQ6 := hQr
      have hown6 := hown
      have hF6 := hFr
      clear hRr hQr hown hFr
      generalize hrp : rpks d.1 d.2.1 d.2.2 = rp at *
      have hrl := Hrl.out
      have hrs := Hrs.out
      have hcl := close_any r _ _ _ hR6
      have hs6 := hF6.size
      have hZ6 := hF6.heap (by omega : ¬ (w.heap.size = r ∨ w.heap.size = qb)) hZ5
      have hB6 : Below w.heap.size w wr := hB5.trans (hF6.below (by have := hB5.size; omega) (fun i hi => by omega))
      generalize hk : Cd.rclose rp.2.1 rp.2.2 = k at *
      rw [← hrl] at hown6
      have hsz : ∀ x ∈ rp.1, x.f.size ≤ maxLen ∧ x.b.size ≤ maxLen := fun x hx => by have := hrs x hx; unfold Pk.fits at this; unfold maxLen; omega
      have hpk := pks_of_owns hown6 hsz
      obtain ⟨av, cv, rfl⟩ := owns_slice hown6
      have hchk := fun W (h : PksIn W (.slice av rp.1.length cv) rp.1) => lportCheck_any ⟨ow, b.1, c3.1, rp.1⟩ (.slice av rp.1.length cv) W h (by show ow.size ≤ maxLen; unfold maxLen; omega)
      unfold Po.v at hchk
      simp only at hchk
      have hx := hX.out
      obtain ⟨x0, x1, x2, x3⟩ := blk4 hQ6
      have hrt : Po.read l = (⟨ow, b.1, c3.1, rp.1⟩, k) := hx
      clear hx hX hrl hrs Hrl Hrs hrp hk hF6 hR6 hR5 hQ5
      by_cases hk0 : k = 0
      · subst hk0
        by_cases hqe : (⟨ow, b.1, c3.1, rp.1⟩ : Po).err = 0
        · have hDv : D = (⟨ow, b.1, c3.1, rp.1⟩, 0) := by rw [← HD.out, Po.dec, hrt, if_neg (by simp), if_neg (by simpa using hqe)]
          subst hDv
          rw [hqe] at hchk
          clear hqe hrt HD
          go_wp2_with fail
          refine hcl.mono ?_
          rintro e w6 ⟨rfl, nq, rfl⟩
          have hpk6 : PksIn (wr.drewN nq) (.slice av rp.1.length cv) rp.1 := hpk
          go_wp2_with (first | (go_at_call 42; refine (hchk _ hpk6).mono ?_; rintro e w7 ⟨rfl, hB7⟩; have hZ7 := hB7.heapS (show _ = some _ from hZ6); obtain ⟨y0, y1, y2, y3⟩ := blk4 (hB7.heapS (show _ = some _ from hQ6))) | (refine wpList_store_row rfl 56 _ _ rfl w.heap.size #[.string ow, .int .i64 b.1, .int .i64 c3.1, .slice av rp.1.length cv] rfl rfl 56 _ hZ7 (by kernel_rfl) rfl (by simp [Value.oneCell']) ?_))
          refine bodyPost_ret (results_row_tmp rfl _ _ w.heap.size 56 #[.string ow, .int .i64 b.1, .int .i64 c3.1, .slice av rp.1.length cv] (0, 0) _ rfl (setRow_heap _ _ _ _ _ _ hZ7) Tryz.underlying56 rfl (by kernel_rfl)) rfl ⟨_, rfl, ?_, ?_⟩
          · exact ownsRow_mono (owns_low (ownsRow_below (show (wr.drewN nq).ownsRow _ _ _ _ _ _ from hown6) hB7) (Fr.setRow1 w7 w.heap.size _) (fun k hk => by omega)) (by omega)
          · exact ((hB6.drewN nq).trans' hB7).setRow (Nat.le_refl _) _
        · have hDv : D = (Po.zero, (⟨ow, b.1, c3.1, rp.1⟩ : Po).err) := by rw [← HD.out, Po.dec, hrt, if_neg (by simp), if_pos hqe]
          clear hrt HD
          generalize (⟨ow, b.1, c3.1, rp.1⟩ : Po).err = er at *
          subst hDv
          have hqe2 : (er != 0) = true := by rw [bne_iff_ne]; exact hqe
          clear hqe
          go_wp2_with fail
          refine hcl.mono ?_
          rintro e w6 ⟨rfl, nq, rfl⟩
          have hpk6 : PksIn (wr.drewN nq) (.slice av rp.1.length cv) rp.1 := hpk
          go_wp2_with (first | (go_at_call 42; refine (hchk _ hpk6).mono ?_; rintro e w7 ⟨rfl, hB7⟩; have hZ7 := hB7.heapS (show _ = some _ from hZ6)) | (refine wpList_store_row rfl 56 _ _ rfl w.heap.size #[.string ⟨#[]⟩, .int .i64 0, .int .i64 0, .slice none 0 0] rfl rfl 56 _ hZ7 (by kernel_rfl) rfl (by simp [Value.oneCell']) ?_))
          refine bodyPost_ret (results_row_tmp rfl _ _ w.heap.size 56 #[.string ⟨#[]⟩, .int .i64 0, .int .i64 0, .slice none 0 0] (0, 0) _ rfl (setRow_heap _ _ _ _ _ _ hZ7) Tryz.underlying56 rfl (by kernel_rfl)) rfl ⟨.slice none 0 0, rfl, World.ownsRow_nil _ _ _ _, ?_⟩
          exact ((hB6.drewN nq).trans' hB7).setRow (Nat.le_refl _) _
      · have hDv : D = (Po.zero, (k : Int)) := by rw [← HD.out, Po.dec, hrt, if_pos hk0]
        subst hDv
        have hk2 : ((k : Int) != 0) = true := by rw [bne_iff_ne]; omega
        clear hrt HD hk0
        go_wp2_with fail
        refine hcl.mono ?_
        rintro e w6 ⟨rfl, nq, rfl⟩
        have hZ7 : (wr.drewN nq).heap[w.heap.size]? = some _ := hZ6
        go_wp2_with (refine wpList_store_row rfl 56 _ _ rfl w.heap.size #[.string ⟨#[]⟩, .int .i64 0, .int .i64 0, .slice none 0 0] rfl rfl 56 _ hZ7 (by kernel_rfl) rfl (by simp [Value.oneCell']) ?_)
        refine bodyPost_ret (results_row_tmp rfl _ _ w.heap.size 56 #[.string ⟨#[]⟩, .int .i64 0, .int .i64 0, .slice none 0 0] (0, 0) _ rfl (setRow_heap _ _ _ _ _ _ hZ7) Tryz.underlying56 rfl (by kernel_rfl)) rfl ⟨.slice none 0 0, rfl, World.ownsRow_nil _ _ _ _, ?_⟩
        exact (hB6.drewN nq).setRow (Nat.le_refl _) _

theorem dec_small (l : List UInt8) : ∀ p ∈ (Po.dec l).1.q, p.f.size ≤ maxLen ∧ p.b.size ≤ maxLen := by
  intro p hp
  unfold Po.dec at hp
  split at hp
  · simp [Po.zero] at hp
  · split at hp
    · simp [Po.zero] at hp
    · have : p.fits := rpks_small _ _ _ p hp
      unfold Pk.fits at this
      unfold maxLen
      omega

end Go.Proofs.YtdjjfjnkkgmadaaGreatDoor
