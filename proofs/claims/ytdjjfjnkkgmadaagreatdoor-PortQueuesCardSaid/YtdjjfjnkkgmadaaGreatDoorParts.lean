/-
  lineage.parts: its iterator's contract.
-/
import Derived.RangeFuncNested
import Derived.RangeFuncBound
import Derived.RangeFuncCalls
import Derived.RangeFuncLeaves
import Derived.Shelf.Abstract
import Derived.Shelf.RegionOpen
import Derived.OwnWalkIn
import Derived.TacticsInMore
import Derived.LoopNIn
import Derived.LoopIn
import Derived.Lib.Strings
import Derived.Test.YtdjjfjnkkgmadaaGreatDoorAtoi
namespace Go.Proofs.YtdjjfjnkkgmadaaGreatDoor
open Go Go.RowKit Go.Shelf

def encPart (p : Ln.Part) : Value := .agg #[.int .i64 p.ord, .int .i64 p.at_, .int .i64 p.e]
def PKp : World → World → Prop := KeepT (fun t => t = 284 ∨ t = 9)


theorem str_slice (s : ByteArray) (i j : Nat) (hij : i ≤ j) (hj : j ≤ s.size) (w : World) : (Instr.slice 9 (.string s) (some (.int .i64 (i : Int))) (some (.int .i64 (j : Int))) none).run Tryz.prog w = .ok (.string (s.extract i j)) w := by
  rw [run_slice_string w 9 s .i64 .i64 i j Tryz.underlying9 (by omega) (by omega) (by omega)]
  simp

theorem abides_below {β : Type} {B : Nat} {J : β → World → Prop} (hJ : AbidesFrom B J) {p : β} {W W' : World} (h : J p W) (hB : Below W.heap.size W W') : J p W' :=
  hJ p W W' none h ⟨hB.os, hB.tape, hB.output, hB.size, fun k hk _ => hB.block k hk⟩ (fun _ e => by cases e)

theorem drop_get (s : ByteArray) (a j : Nat) (h : j < (s.data.toList.drop a).length) : (s.data.toList.drop a)[j] = s[a + j]'(by rw [List.length_drop, dl] at h; omega) := by
  rw [List.getElem_drop]; rfl

theorem dig_at (s : ByteArray) (a j : Nat) (h : j < Ln.digs (s.data.toList.drop a)) : ∃ h' : a + j < s.size, 48 ≤ (s[a + j]'h').toNat ∧ (s[a + j]'h').toNat ≤ 57 := by
  have hl := Ln.digs_le (s.data.toList.drop a)
  have h' : j < (s.data.toList.drop a).length := by omega
  have h2 := Ln.digs_dig _ j h
  rw [drop_get s a j h'] at h2
  refine ⟨by rw [List.length_drop, dl] at h'; omega, ?_⟩
  simpa [Ln.isDig] using h2

theorem dig_end (s : ByteArray) (a : Nat) (h : a + Ln.digs (s.data.toList.drop a) < s.size) : ¬ (48 ≤ (s[a + Ln.digs (s.data.toList.drop a)]).toNat ∧ (s[a + Ln.digs (s.data.toList.drop a)]).toNat ≤ 57) := by
  have h' : Ln.digs (s.data.toList.drop a) < (s.data.toList.drop a).length := by rw [List.length_drop, dl]; omega
  have h2 := Ln.digs_stop _ h'
  rw [drop_get s a _ h'] at h2
  simpa [Ln.isDig] using h2

theorem digs_bound (s : ByteArray) (a : Nat) (ha : a ≤ s.size) : a + Ln.digs (s.data.toList.drop a) ≤ s.size := by
  have := Ln.digs_le (s.data.toList.drop a)
  rw [List.length_drop, dl] at this
  omega


section
variable {s : ByteArray} {a m d : Nat}

theorem perr_8 (h : m = 8) : Ln.perr m (s.data.toList.drop a) = 9 := by rw [Ln.perr, if_pos h]
theorem drop_nil (ha : a = s.size) : s.data.toList.drop a = [] := List.drop_of_length_le (by rw [dl]; omega)
theorem drop_ne (ha : a < s.size) : s.data.toList.drop a = s[a] :: s.data.toList.drop (a + 1) := by
  rw [List.drop_eq_getElem_cons (by rw [dl]; exact ha)]; rfl
theorem perr_4 (h : m ≠ 8) (ha : a = s.size) : Ln.perr m (s.data.toList.drop a) = 4 := by
  rw [Ln.perr, if_neg h, if_pos (drop_nil ha)]
theorem perr_6 (h : m ≠ 8) (ha : a < s.size) (hd : Ln.digs (s.data.toList.drop a) = 0) : Ln.perr m (s.data.toList.drop a) = 6 := by
  rw [Ln.perr, if_neg h, if_neg (by rw [drop_ne ha]; simp), if_pos hd]
theorem perr_3 (h : m ≠ 8) (ha : a < s.size) (hd : Ln.digs (s.data.toList.drop a) ≠ 0) (h0 : s[a].toNat = 48) : Ln.perr m (s.data.toList.drop a) = 3 := by
  rw [Ln.perr, if_neg h, if_neg (by rw [drop_ne ha]; simp), if_neg hd, if_pos]
  rw [drop_ne ha, List.head?_cons]
  congr 1
  exact UInt8.toNat_inj.1 h0
theorem perr_2 (h : m ≠ 8) (ha : a < s.size) (hd : 6 < Ln.digs (s.data.toList.drop a)) (h0 : s[a].toNat ≠ 48) : Ln.perr m (s.data.toList.drop a) = 2 := by
  rw [Ln.perr, if_neg h, if_neg (by rw [drop_ne ha]; simp), if_neg (by omega), if_neg, if_pos hd]
  rw [drop_ne ha, List.head?_cons]
  intro e
  injection e with e
  exact h0 (by rw [e]; rfl)
theorem perr_0 (h : m ≠ 8) (ha : a < s.size) (hd0 : Ln.digs (s.data.toList.drop a) ≠ 0) (hd : Ln.digs (s.data.toList.drop a) ≤ 6) (h0 : s[a].toNat ≠ 48) : Ln.perr m (s.data.toList.drop a) = 0 := by
  rw [Ln.perr, if_neg h, if_neg (by rw [drop_ne ha]; simp), if_neg hd0, if_neg, if_neg (by omega)]
  rw [drop_ne ha, List.head?_cons]
  intro e
  injection e with e
  exact h0 (by rw [e]; rfl)

theorem parts_err (hm : m ≤ 8) {e : Int} (h : Ln.perr m (s.data.toList.drop a) = e) (he : e ≠ 0) : Ln.parts (9 - m) m a (s.data.toList.drop a) = [⟨0, a, e⟩] := by
  obtain ⟨k, hk⟩ : ∃ k, 9 - m = k + 1 := ⟨8 - m, by omega⟩
  rw [hk, Ln.parts, if_pos (by rw [h]; exact he), h]

theorem parts_ok (hm : m ≤ 8) (h : Ln.perr m (s.data.toList.drop a) = 0) (hd : Ln.digs (s.data.toList.drop a) = d) :
    Ln.parts (9 - m) m a (s.data.toList.drop a) = match s.data.toList.drop (a + d) with
      | [] => [⟨Ln.val ((s.data.toList.drop a).take d), a, 0⟩]
      | c :: r' => if c.toNat ≠ 46 then [⟨Ln.val ((s.data.toList.drop a).take d), a, 0⟩, ⟨0, a + d, 6⟩] else ⟨Ln.val ((s.data.toList.drop a).take d), a, 0⟩ :: Ln.parts (8 - m) (m + 1) (a + d + 1) r' := by
  obtain ⟨k, hk⟩ : ∃ k, 9 - m = k + 1 := ⟨8 - m, by omega⟩
  have hk' : 8 - m = k := by omega
  rw [hk, Ln.parts, if_neg (by rw [h]; simp), hd, List.drop_drop, hk']
  rfl

theorem parts_last (hm : m ≤ 8) (h : Ln.perr m (s.data.toList.drop a) = 0) (hd : Ln.digs (s.data.toList.drop a) = d) (he : a + d = s.size) :
    Ln.parts (9 - m) m a (s.data.toList.drop a) = [⟨Ln.val ((s.data.toList.drop a).take d), a, 0⟩] := by
  rw [parts_ok hm h hd, drop_nil he]
theorem parts_bad (hm : m ≤ 8) (h : Ln.perr m (s.data.toList.drop a) = 0) (hd : Ln.digs (s.data.toList.drop a) = d) (he : a + d < s.size) (hc : s[a + d].toNat ≠ 46) :
    Ln.parts (9 - m) m a (s.data.toList.drop a) = [⟨Ln.val ((s.data.toList.drop a).take d), a, 0⟩, ⟨0, (a : Int) + d, 6⟩] := by
  rw [parts_ok hm h hd, drop_ne he]
  show (if _ then _ else _) = _
  rw [if_pos hc]
theorem parts_next (hm : m ≤ 8) (h : Ln.perr m (s.data.toList.drop a) = 0) (hd : Ln.digs (s.data.toList.drop a) = d) (he : a + d < s.size) (hc : s[a + d].toNat = 46) :
    Ln.parts (9 - m) m a (s.data.toList.drop a) = ⟨Ln.val ((s.data.toList.drop a).take d), a, 0⟩ :: Ln.parts (9 - (m + 1)) (m + 1) (a + d + 1) (s.data.toList.drop (a + d + 1)) := by
  rw [parts_ok hm h hd, drop_ne he]
  show (if _ then _ else _) = _
  rw [if_neg (by rw [hc]; simp), show 9 - (m + 1) = 8 - m by omega]
end

set_option maxRecDepth 100000 in
set_option maxHeartbeats 16000000 in
theorem parts1_in (s : ByteArray) (hs : s.size ≤ maxLen) (n l Bn : Nat) (J Jx : List Ln.Part → World → Prop) (W0 : World)
    (hJ : AbidesFrom W0.heap.size J)
    (hY : ∀ pre x W, J pre W → pre.length < 9 → YieldAt Fence.wide (n - 1) Tryz.prog l #[encPart x] W fun e W' =>
      (e = .returned (.bool true) ∧ J (pre ++ [x]) W' ∧ PKp W W') ∨ (e = .returned (.bool false) ∧ Jx (pre ++ [x]) W'))
    (hBn : W0.heap[Bn]? = some (.cells #[.string s] 9 (0, 0))) (h0 : J [] W0) (hs0 : 0 < s.size) (hn : 1 ≤ n) :
    CallsIn Fence.wide n Tryz.prog 214 #[.func (.yield l) #[] #[], .pointer (some ⟨Bn, 0, none⟩)] W0 fun e W' => (∃ v, e = .returned v) ∧
      ((∃ ys, ys = Ln.all s.data.toList ∧ J ys W') ∨ (∃ pre, pre <+: Ln.all s.data.toList ∧ Jx pre W')) := by
  unfold maxLen at hs
  have hne : ¬ s.toList = [] := fun e => by rw [ByteArray.toList_eq] at e; have := dl s; rw [e] at this; simp at this; omega
  have hne2 : (s.toList == []) = false := by simpa using hne
  refine callsIn_of_wp Tryz.func214 rfl trivial ?_ rfl
  simp only [Tryz.ntmps214, List.size_toArray, List.length_cons, List.length_nil, Nat.reduceAdd, Nat.reduceSub, Array.replicate_succ, Array.replicate_zero, List.push_toArray, List.append_toArray, List.nil_append, List.cons_append]
  gi_wp2
  gi_loopw [3, 4] (fun t3 t4 wr => ∃ (a m : Nat) (pre : List Ln.Part), t3 = .int .i64 a ∧ t4 = .int .i64 m ∧ m ≤ 8 ∧ a ≤ s.size ∧ pre.length = m ∧ Hid (Ln.all s.data.toList = pre ++ Ln.parts (9 - m) m a (s.data.toList.drop a)) ∧ J pre wr ∧ wr.heap[Bn]? = some (.cells #[.string s] 9 (0, 0))) (fun _ t4 _ => 9 - (intOf t4).toNat)
  case atStart =>
    refine ⟨0, 0, [], rfl, rfl, by omega, by omega, rfl, ?_, h0, hBn⟩
    show _ = _
    rw [Ln.all, if_neg (by intro e; have := dl s; rw [e] at this; simp at this; omega)]
    rfl
  case round =>
    obtain ⟨a, m, pre, rfl, rfl, hm, ha, hpre, Hall, hJp, hB⟩ := hrel
    have Hpre := Lib.hid hpre
    clear hpre
    have hcs := blk_cell hB 0
    simp only [List.getElem?_toArray, List.getElem?_cons_zero] at hcs
    have hBlt := lt_of_block hB
    have hd := digs_bound s a ha
    have hdig := dig_at s a
    have hend := dig_end s a
    generalize hdd : Ln.digs (s.data.toList.drop a) = d at *
    have Hdd := Lib.hid hdd
    have Hdig := Lib.hid hdig
    have Hend := Lib.hid hend
    clear hdd hdig hend
    gi_wp2
    gi_loop [6] (fun t6 => ∃ j : Nat, j ≤ d ∧ t6 = .int .i64 j) (fun t6 => d - (intOf t6).toNat)
    case atStart => exact ⟨0, Nat.zero_le _, rfl⟩
    case round =>
      obtain ⟨j, hj, rfl⟩ := hrel
      by_cases hlt : j < d
      · obtain ⟨h1, h2, h3⟩ := Hdig.out j hlt
        gi_wp2
        exact ⟨⟨j + 1, by omega, by go_num⟩, by simp [intOf]; omega⟩
      · obtain rfl : j = d := by omega
        clear hj hlt
        by_cases h8 : m = 8
        · have h8b : ((m : Int) == 8) = true := by simp; omega
          have H8 := Lib.hid h8
          clear h8
          have hW : Below wr.heap.size wr (wr.alloc (.cells #[.int .i64 0, .int .i64 a, .int .i64 9] 284)) := (Below.refl _ _).alloc (Nat.le_refl _) _
          have hall : Ln.all s.data.toList = pre ++ [⟨0, a, 9⟩] := by rw [Hall.out, parts_err hm (perr_8 H8.out) (by decide)]
          obtain ⟨fn, tmps, assign, body, hy, hR⟩ := hY pre ⟨0, a, 9⟩ _ (abides_below hJ hJp hW) (by rw [Hpre.out]; omega)
          simp only [encPart] at hy
          have Hall2 := Lib.hid hall
          clear hall
          by_cases hq : a + j = s.size
          all_goals
            first
              | (have hqn : ¬ ((a : Int) + j < s.size) := by omega
                 clear hq)
              | (have hqn : a + j < s.size := by omega
                 have hqn2 := Hend.out hqn
                 clear hq)
            gi_wp2
            all_goals
              refine hR.mono ?_
              rintro e W3 (⟨rfl, hJ3, hk3⟩ | ⟨rfl, hJx3⟩)
              · have hp3 := hk3 wr.heap.size _ 284 (0, 0) (blk_new wr _) (.inl rfl)
                have hpc := blk_cell hp3 2
                simp only [List.getElem?_toArray, List.getElem?_cons_zero, List.getElem?_cons_succ] at hpc
                gi_wp2
                refine bodyPost_ret (results_none rfl _ _ _) rfl ?_
                exact ⟨⟨_, rfl⟩, .inl ⟨_, Hall2.out.symm, hJ3⟩⟩
              · gi_wp2
                refine bodyPost_ret (results_none rfl _ _ _) rfl ?_
                exact ⟨⟨_, rfl⟩, .inr ⟨_, ⟨[], by rw [List.append_nil, Hall2.out]⟩, hJx3⟩⟩
        · have h8b : ((m : Int) == 8) = false := by simp; omega
          have hm7 : m ≤ 7 := by omega
          by_cases h4 : a = s.size
          · have h4b : ((a : Int) == s.size) = true := by simp; omega
            have H4 := Lib.hid h4
            clear h4
            have hW : Below wr.heap.size wr (wr.alloc (.cells #[.int .i64 0, .int .i64 a, .int .i64 4] 284)) := (Below.refl _ _).alloc (Nat.le_refl _) _
            have hall : Ln.all s.data.toList = pre ++ [⟨0, a, 4⟩] := by rw [Hall.out, parts_err hm (perr_4 h8 H4.out) (by decide)]
            obtain ⟨fn, tmps, assign, body, hy, hR⟩ := hY pre ⟨0, a, 4⟩ _ (abides_below hJ hJp hW) (by rw [Hpre.out]; omega)
            simp only [encPart] at hy
            have Hall2 := Lib.hid hall
            clear hall
            have hqn : ¬ ((a : Int) + j < s.size) := by have := H4.out; omega
            gi_wp2
            all_goals
              refine hR.mono ?_
              rintro e W3 (⟨rfl, hJ3, hk3⟩ | ⟨rfl, hJx3⟩)
              · have hp3 := hk3 wr.heap.size _ 284 (0, 0) (blk_new wr _) (.inl rfl)
                have hpc := blk_cell hp3 2
                simp only [List.getElem?_toArray, List.getElem?_cons_zero, List.getElem?_cons_succ] at hpc
                gi_wp2
                refine bodyPost_ret (results_none rfl _ _ _) rfl ?_
                exact ⟨⟨_, rfl⟩, .inl ⟨_, Hall2.out.symm, hJ3⟩⟩
              · gi_wp2
                refine bodyPost_ret (results_none rfl _ _ _) rfl ?_
                exact ⟨⟨_, rfl⟩, .inr ⟨_, ⟨[], by rw [List.append_nil, Hall2.out]⟩, hJx3⟩⟩
          · have h4b : ((a : Int) == s.size) = false := by simp; omega
            have hlt4 : a < s.size := by omega
            clear h4
            by_cases h6 : j = 0
            · have h6b : ((j : Int) == 0) = true := by simp; omega
              have H6 := Lib.hid (Hdd.out.trans h6)
              have Hj := Lib.hid h6
              clear h6
              have hW : Below wr.heap.size wr (wr.alloc (.cells #[.int .i64 0, .int .i64 a, .int .i64 6] 284)) := (Below.refl _ _).alloc (Nat.le_refl _) _
              have hall : Ln.all s.data.toList = pre ++ [⟨0, a, 6⟩] := by rw [Hall.out, parts_err hm (perr_6 h8 hlt4 H6.out) (by decide)]
              obtain ⟨fn, tmps, assign, body, hy, hR⟩ := hY pre ⟨0, a, 6⟩ _ (abides_below hJ hJp hW) (by rw [Hpre.out]; omega)
              simp only [encPart] at hy
              have Hall2 := Lib.hid hall
              clear hall
              have hqn : a + j < s.size := by have := Hj.out; omega
              have hqn2 := Hend.out hqn
              gi_wp2
              all_goals
                refine hR.mono ?_
                rintro e W3 (⟨rfl, hJ3, hk3⟩ | ⟨rfl, hJx3⟩)
                · have hp3 := hk3 wr.heap.size _ 284 (0, 0) (blk_new wr _) (.inl rfl)
                  have hpc := blk_cell hp3 2
                  simp only [List.getElem?_toArray, List.getElem?_cons_zero, List.getElem?_cons_succ] at hpc
                  gi_wp2
                  refine bodyPost_ret (results_none rfl _ _ _) rfl ?_
                  exact ⟨⟨_, rfl⟩, .inl ⟨_, Hall2.out.symm, hJ3⟩⟩
                · gi_wp2
                  refine bodyPost_ret (results_none rfl _ _ _) rfl ?_
                  exact ⟨⟨_, rfl⟩, .inr ⟨_, ⟨[], by rw [List.append_nil, Hall2.out]⟩, hJx3⟩⟩
            · have h6b : ((j : Int) == 0) = false := by simp; omega
              have H6 : Ln.digs (s.data.toList.drop a) ≠ 0 := by rw [Hdd.out]; exact h6
              have H6' := Lib.hid H6
              clear H6
              by_cases h3 : s[a].toNat = 48
              · have h3b : ((s[a].toNat : Int) == 48) = true := by simp; omega
                have H3 := Lib.hid h3
                clear h3
                have hW : Below wr.heap.size wr (wr.alloc (.cells #[.int .i64 0, .int .i64 a, .int .i64 3] 284)) := (Below.refl _ _).alloc (Nat.le_refl _) _
                have hall : Ln.all s.data.toList = pre ++ [⟨0, a, 3⟩] := by rw [Hall.out, parts_err hm (perr_3 h8 hlt4 H6'.out H3.out) (by decide)]
                obtain ⟨fn, tmps, assign, body, hy, hR⟩ := hY pre ⟨0, a, 3⟩ _ (abides_below hJ hJp hW) (by rw [Hpre.out]; omega)
                simp only [encPart] at hy
                have Hall2 := Lib.hid hall
                clear hall
                by_cases hq : a + j = s.size
                all_goals
                  first
                    | (have hqn : ¬ ((a : Int) + j < s.size) := by omega
                       clear hq)
                    | (have hqn : a + j < s.size := by omega
                       have hqn2 := Hend.out hqn
                       clear hq)
                  gi_wp2
                  all_goals
                    refine hR.mono ?_
                    rintro e W3 (⟨rfl, hJ3, hk3⟩ | ⟨rfl, hJx3⟩)
                    · have hp3 := hk3 wr.heap.size _ 284 (0, 0) (blk_new wr _) (.inl rfl)
                      have hpc := blk_cell hp3 2
                      simp only [List.getElem?_toArray, List.getElem?_cons_zero, List.getElem?_cons_succ] at hpc
                      gi_wp2
                      refine bodyPost_ret (results_none rfl _ _ _) rfl ?_
                      exact ⟨⟨_, rfl⟩, .inl ⟨_, Hall2.out.symm, hJ3⟩⟩
                    · gi_wp2
                      refine bodyPost_ret (results_none rfl _ _ _) rfl ?_
                      exact ⟨⟨_, rfl⟩, .inr ⟨_, ⟨[], by rw [List.append_nil, Hall2.out]⟩, hJx3⟩⟩
              · have h3b : ((s[a].toNat : Int) == 48) = false := by simp; omega
                by_cases h2 : 6 < j
                · have H2 : 6 < Ln.digs (s.data.toList.drop a) := by rw [Hdd.out]; exact h2
                  have H2' := Lib.hid H2
                  clear H2
                  have hW : Below wr.heap.size wr (wr.alloc (.cells #[.int .i64 0, .int .i64 a, .int .i64 2] 284)) := (Below.refl _ _).alloc (Nat.le_refl _) _
                  have hall : Ln.all s.data.toList = pre ++ [⟨0, a, 2⟩] := by rw [Hall.out, parts_err hm (perr_2 h8 hlt4 H2'.out h3) (by decide)]
                  obtain ⟨fn, tmps, assign, body, hy, hR⟩ := hY pre ⟨0, a, 2⟩ _ (abides_below hJ hJp hW) (by rw [Hpre.out]; omega)
                  simp only [encPart] at hy
                  have Hall2 := Lib.hid hall
                  clear hall
                  by_cases hq : a + j = s.size
                  all_goals
                    first
                      | (have hqn : ¬ ((a : Int) + j < s.size) := by omega
                         clear hq)
                      | (have hqn : a + j < s.size := by omega
                         have hqn2 := Hend.out hqn
                         clear hq)
                    gi_wp2
                    all_goals
                      refine hR.mono ?_
                      rintro e W3 (⟨rfl, hJ3, hk3⟩ | ⟨rfl, hJx3⟩)
                      · have hp3 := hk3 wr.heap.size _ 284 (0, 0) (blk_new wr _) (.inl rfl)
                        have hpc := blk_cell hp3 2
                        simp only [List.getElem?_toArray, List.getElem?_cons_zero, List.getElem?_cons_succ] at hpc
                        gi_wp2
                        refine bodyPost_ret (results_none rfl _ _ _) rfl ?_
                        exact ⟨⟨_, rfl⟩, .inl ⟨_, Hall2.out.symm, hJ3⟩⟩
                      · gi_wp2
                        refine bodyPost_ret (results_none rfl _ _ _) rfl ?_
                        exact ⟨⟨_, rfl⟩, .inr ⟨_, ⟨[], by rw [List.append_nil, Hall2.out]⟩, hJx3⟩⟩
                · have hj6 : j ≤ 6 := by omega
                  have hp0 := perr_0 h8 hlt4 H6'.out (by rw [Hdd.out]; exact hj6) h3
                  have hexl : (s.extract a (a + j)).data.toList = (s.data.toList.drop a).take j := by
                    rw [Lib.extract_data]
                    congr 1
                    omega
                  have hexs : (s.extract a (a + j)).size = j := by rw [← dl, hexl, List.length_take, List.length_drop, dl]; omega
                  have hat := fun w => atoi_any (s.extract a (a + j)) w (by rw [hexs]; omega) (by rw [hexs]; omega) (by
                    intro c hc
                    rw [hexl] at hc
                    obtain ⟨i, hi, rfl⟩ := List.getElem_of_mem hc
                    rw [List.getElem_take]
                    exact Ln.digs_dig _ i (by rw [Hdd.out]; rw [List.length_take] at hi; omega))
                  rw [hexl] at hat
                  have hsl : ∀ wx, (Instr.slice 9 (.string s) (some (.int .i64 (a : Int))) (some (.int .i64 ((a : Int) + (j : Int)))) none).run Tryz.prog wx = .ok (.string (s.extract a (a + j))) wx := fun wx => str_slice s a (a + j) (by omega) (by omega) wx
                  have Hp0 := Lib.hid hp0
                  clear hp0 hexl hexs
                  generalize hval : Ln.val ((s.data.toList.drop a).take j) = v at *
                  have Hval := Lib.hid hval
                  clear hval
                  by_cases hq : a + j = s.size
                  · have hqn : ¬ ((a : Int) + j < s.size) := by omega
                    have hqe : ((a : Int) + (j : Int) == (s.size : Int)) = true := by simp; omega
                    have hall : Ln.all s.data.toList = pre ++ [⟨v, a, 0⟩] := by rw [Hall.out, parts_last hm Hp0.out Hdd.out hq, Hval.out]
                    have Hpref : Hid (pre ++ [⟨v, a, 0⟩] <+: Ln.all s.data.toList) := ⟨[], by rw [List.append_nil, hall]⟩
                    have Hall2 := Lib.hid hall
                    clear hq hall
                    gi_wp2_with fail
                    refine ⟨trivial, (callsIn_wide.2 (hat _)).mono ?_⟩
                    rintro e w1 ⟨rfl, hB1⟩
                    have hp1 : w1.heap[wr.heap.size]? = some (.cells #[.int .i64 0, .int .i64 a, .int .i64 0] 284 (0, 0)) := hB1.heapS (blk_new wr _)
                    have q0 := blk_cell hp1 0
                    have q1 := blk_cell hp1 1
                    have q2 := blk_cell hp1 2
                    have qf := blk_free hp1 0
                    simp only [List.getElem?_toArray, List.getElem?_cons_zero, List.getElem?_cons_succ] at q0 q1 q2
                    have hBw : Below wr.heap.size wr (w1.setCell ⟨wr.heap.size, 0, none⟩ (.int .i64 v)) := (((Below.refl _ wr).alloc (Nat.le_refl _) _).trans (hB1.mono (by simp))).setCell (Nat.le_refl _) _
                    have hp2 := blk_set hp1 0 (.int .i64 v)
                    obtain ⟨fn, tmps, assign, body, hy, hR⟩ := hY pre ⟨v, a, 0⟩ _ (abides_below hJ hJp hBw) (by rw [Hpre.out]; omega)
                    simp only [encPart] at hy
                    have hB2 := hBw.heapS hB
                    have hBl := hB1.size
                    clear hat
                    gi_wp2_with fail
                    refine hR.mono ?_
                    clear hR hy
                    rintro e W3 (⟨rfl, hJ3, hk3⟩ | ⟨rfl, hJx3⟩)
                    · have hp3 := hk3 wr.heap.size _ 284 (0, 0) hp2 (.inl rfl)
                      have hs3 := hk3 Bn _ 9 (0, 0) hB2 (.inr rfl)
                      have r2 := blk_cell hp3 2
                      have rs := blk_cell hs3 0
                      simp only [List.setIfInBounds_toArray, List.set_cons_zero, List.getElem?_toArray, List.getElem?_cons_zero, List.getElem?_cons_succ] at r2 rs
                      have hBn3 := lt_of_block hs3
                      clear hp3 hp2 hp1 hk3 q0 q1 q2 qf
                      gi_wp2
                      refine bodyPost_ret (results_none rfl _ _ _) rfl ?_
                      exact ⟨⟨_, rfl⟩, .inl ⟨_, Hall2.out.symm, hJ3⟩⟩
                    · gi_wp2
                      refine bodyPost_ret (results_none rfl _ _ _) rfl ?_
                      exact ⟨⟨_, rfl⟩, .inr ⟨_, Hpref.out, hJx3⟩⟩
                  · have hqn : a + j < s.size := by omega
                    have hqn2 := Hend.out hqn
                    have hqe : ((a : Int) + (j : Int) == (s.size : Int)) = false := by simp; omega
                    clear hq
                    by_cases h46 : s[a + j].toNat = 46
                    · have h46b : ((s[a + j].toNat : Int) != 46) = false := by simp; omega
                      have hall : Ln.all s.data.toList = (pre ++ [⟨v, a, 0⟩]) ++ Ln.parts (9 - (m + 1)) (m + 1) (a + j + 1) (s.data.toList.drop (a + j + 1)) := by rw [Hall.out, parts_next hm Hp0.out Hdd.out hqn h46, Hval.out]; simp
                      have Hpref : Hid (pre ++ [⟨v, a, 0⟩] <+: Ln.all s.data.toList) := ⟨_, hall.symm⟩
                      have Hall2 := Lib.hid hall
                      have h48 : s[a + j].toNat < 48 := by omega
                      clear hall h46
                      gi_wp2_with fail
                      refine ⟨trivial, (callsIn_wide.2 (hat _)).mono ?_⟩
                      rintro e w1 ⟨rfl, hB1⟩
                      have hp1 : w1.heap[wr.heap.size]? = some (.cells #[.int .i64 0, .int .i64 a, .int .i64 0] 284 (0, 0)) := hB1.heapS (blk_new wr _)
                      have q0 := blk_cell hp1 0
                      have q1 := blk_cell hp1 1
                      have q2 := blk_cell hp1 2
                      have qf := blk_free hp1 0
                      simp only [List.getElem?_toArray, List.getElem?_cons_zero, List.getElem?_cons_succ] at q0 q1 q2
                      have hBw : Below wr.heap.size wr (w1.setCell ⟨wr.heap.size, 0, none⟩ (.int .i64 v)) := (((Below.refl _ wr).alloc (Nat.le_refl _) _).trans (hB1.mono (by simp))).setCell (Nat.le_refl _) _
                      have hp2 := blk_set hp1 0 (.int .i64 v)
                      obtain ⟨fn, tmps, assign, body, hy, hR⟩ := hY pre ⟨v, a, 0⟩ _ (abides_below hJ hJp hBw) (by rw [Hpre.out]; omega)
                      simp only [encPart] at hy
                      have hB2 := hBw.heapS hB
                      have hBl := hB1.size
                      clear hat
                      gi_wp2_with fail
                      refine hR.mono ?_
                      clear hR hy
                      rintro e W3 (⟨rfl, hJ3, hk3⟩ | ⟨rfl, hJx3⟩)
                      · have hp3 := hk3 wr.heap.size _ 284 (0, 0) hp2 (.inl rfl)
                        have hs3 := hk3 Bn _ 9 (0, 0) hB2 (.inr rfl)
                        have r2 := blk_cell hp3 2
                        have rs := blk_cell hs3 0
                        simp only [List.setIfInBounds_toArray, List.set_cons_zero, List.getElem?_toArray, List.getElem?_cons_zero, List.getElem?_cons_succ] at r2 rs
                        have hBn3 := lt_of_block hs3
                        clear hp3 hp2 hp1 hk3 q0 q1 q2 qf
                        gi_wp2
                        refine ⟨⟨a + j + 1, m + 1, pre ++ [⟨v, a, 0⟩], by go_num, by go_num, by omega, by omega, by rw [List.length_append, Hpre.out]; rfl, Hall2, hJ3, hs3⟩, by simp [intOf]; omega⟩
                      · gi_wp2
                        refine bodyPost_ret (results_none rfl _ _ _) rfl ?_
                        exact ⟨⟨_, rfl⟩, .inr ⟨_, Hpref.out, hJx3⟩⟩
                    · have h46b : ((s[a + j].toNat : Int) != 46) = true := by rw [bne_iff_ne]; omega
                      have hall : Ln.all s.data.toList = pre ++ [⟨v, a, 0⟩] ++ [⟨0, (a : Int) + j, 6⟩] := by rw [Hall.out, parts_bad hm Hp0.out Hdd.out hqn h46, Hval.out]; simp
                      have Hpref : Hid (pre ++ [⟨v, a, 0⟩] <+: Ln.all s.data.toList) := ⟨[⟨0, (a : Int) + j, 6⟩], hall.symm⟩
                      have Hall2 := Lib.hid hall
                      clear hall h46
                      by_cases h57 : s[a + j].toNat < 48
                      all_goals
                        first
                          | (have h57' : 57 < s[a + j].toNat := by omega
                             clear h57)
                          | skip
                        gi_wp2_with fail
                        refine ⟨trivial, (callsIn_wide.2 (hat _)).mono ?_⟩
                        rintro e w1 ⟨rfl, hB1⟩
                        have hp1 : w1.heap[wr.heap.size]? = some (.cells #[.int .i64 0, .int .i64 a, .int .i64 0] 284 (0, 0)) := hB1.heapS (blk_new wr _)
                        have q0 := blk_cell hp1 0
                        have q1 := blk_cell hp1 1
                        have q2 := blk_cell hp1 2
                        have qf := blk_free hp1 0
                        simp only [List.getElem?_toArray, List.getElem?_cons_zero, List.getElem?_cons_succ] at q0 q1 q2
                        have hBw : Below wr.heap.size wr (w1.setCell ⟨wr.heap.size, 0, none⟩ (.int .i64 v)) := (((Below.refl _ wr).alloc (Nat.le_refl _) _).trans (hB1.mono (by simp))).setCell (Nat.le_refl _) _
                        have hp2 := blk_set hp1 0 (.int .i64 v)
                        obtain ⟨fn, tmps, assign, body, hy, hR⟩ := hY pre ⟨v, a, 0⟩ _ (abides_below hJ hJp hBw) (by rw [Hpre.out]; omega)
                        simp only [encPart] at hy
                        have hB2 := hBw.heapS hB
                        have hBl := hB1.size
                        clear hat
                        gi_wp2_with fail
                        refine hR.mono ?_
                        clear hR hy
                        rintro e W3 (⟨rfl, hJ3, hk3⟩ | ⟨rfl, hJx3⟩)
                        · have hp3 := hk3 wr.heap.size _ 284 (0, 0) hp2 (.inl rfl)
                          have hs3 := hk3 Bn _ 9 (0, 0) hB2 (.inr rfl)
                          have r2 := blk_cell hp3 2
                          have rs := blk_cell hs3 0
                          simp only [List.setIfInBounds_toArray, List.set_cons_zero, List.getElem?_toArray, List.getElem?_cons_zero, List.getElem?_cons_succ] at r2 rs
                          have hBn3 := lt_of_block hs3
                          clear hp3 hp2 hp1 hk3 q0 q1 q2 qf
                          obtain ⟨fn, tmps, assign, body, hy, hR⟩ := hY (pre ++ [⟨v, a, 0⟩]) ⟨0, (a : Int) + j, 6⟩ W3 hJ3 (by rw [List.length_append, Hpre.out]; simp; omega)
                          simp only [encPart] at hy
                          gi_wp2
                          refine hR.mono ?_
                          clear hR hy
                          rintro e W4 (⟨rfl, hJ4, hk4⟩ | ⟨rfl, hJx4⟩)
                          · gi_wp2
                            refine bodyPost_ret (results_none rfl _ _ _) rfl ?_
                            exact ⟨⟨_, rfl⟩, .inl ⟨_, Hall2.out.symm, hJ4⟩⟩
                          · gi_wp2
                            refine bodyPost_ret (results_none rfl _ _ _) rfl ?_
                            exact ⟨⟨_, rfl⟩, .inr ⟨_, ⟨[], by rw [List.append_nil, Hall2.out]⟩, hJx4⟩⟩
                        · gi_wp2
                          refine bodyPost_ret (results_none rfl _ _ _) rfl ?_
                          exact ⟨⟨_, rfl⟩, .inr ⟨_, Hpref.out, hJx3⟩⟩

end Go.Proofs.YtdjjfjnkkgmadaaGreatDoor
