/-
  pipe: the closures of Read, Write, Join, Leave.
-/
import Derived.Test.YtdjjfjnkkgmadaaGreatDoorPipe2
namespace Go.Proofs.YtdjjfjnkkgmadaaGreatDoor
open Go Go.RowKit

/-- Read's closure: whether anything changes, the error, the pipe, what comes out. -/
def rdF (p : Pp) (most : Int) : Bool × Int × Pp × ByteArray :=
  if most < 0 then (false, 2, p, ⟨#[]⟩) else if most = 0 then (false, 0, p, ⟨#[]⟩) else if p.b.size = 0 ∧ 0 < p.w then (false, 19, p, ⟨#[]⟩)
  else (decide (0 < min most.toNat p.b.size), 0, { p with b := p.b.extract (min most.toNat p.b.size) p.b.size }, p.b.extract 0 (min most.toNat p.b.size))

/-- Write's closure. -/
def wrF (p : Pp) (s : ByteArray) : Bool × Int × Pp × Nat :=
  if s.size = 0 then (false, 0, p, 0) else if p.r = 0 then (false, 20, p, 0) else if 256 ≤ p.b.size then (false, 19, p, 0)
  else (true, 0, { p with b := p.b ++ s.extract 0 (min s.size (256 - p.b.size)) }, min s.size (256 - p.b.size))

def Pp.side (p : Pp) (wr : Bool) : Int := if wr then p.w else p.r
def Pp.put (p : Pp) (wr : Bool) (n : Int) : Pp := if wr then { p with w := n } else { p with r := n }
def jnF (p : Pp) (wr : Bool) : Bool × Int × Pp := if p.side wr = 0 then (false, 20, p) else if p.side wr = 64 then (false, 9, p) else (true, 0, p.put wr (p.side wr + 1))
def lvF (p : Pp) (wr : Bool) : Bool × Int × Pp := if p.side wr = 0 then (false, 20, p) else (true, 0, p.put wr (p.side wr - 1))

/-- The cells of a pipe. -/
def Pp.cs (p : Pp) : Array Value := #[.int .i64 p.e, .int .i64 p.r, .int .i64 p.w, .string p.b]

theorem side_any (W : World) (pb : Nat) (wr : Bool) :
    Calls Tryz.prog 140 #[.pointer (some ⟨pb, 0, none⟩), .bool wr] W fun e w' => e = .returned (.pointer (some ⟨pb, if wr then 2 else 1, none⟩)) ∧ W = w' := by
  cases wr with
  | true =>
    go_enter Tryz.func140, Tryz.ntmps140
    go_wp2
    go_ret
    exact ⟨rfl, rfl⟩
  | false =>
    go_enter Tryz.func140, Tryz.ntmps140
    go_wp2
    go_ret
    exact ⟨rfl, rfl⟩

set_option maxRecDepth 100000 in
theorem join_cl (W : World) (pb ib : Nat) (p : Pp) (wr : Bool) (hp : W.heap[pb]? = some (.cells p.cs 28 (0, 0))) (hi : W.heap[ib]? = some (.cells #[.bool wr] 4 (0, 0))) (h64 : 0 ≤ p.side wr ∧ p.side wr ≤ 64) :
    Calls Tryz.prog 139 #[.pointer (some ⟨pb, 0, none⟩), .pointer (some ⟨ib, 0, none⟩)] W fun e w' => e = .returned (.tuple #[.bool (jnF p wr).1, .int .i64 (jnF p wr).2.1]) ∧ w'.heap[pb]? = some (.cells (jnF p wr).2.2.cs 28 (0, 0)) ∧ Fr (fun k => k = pb) W w' := by
  have hs := side_any W pb wr
  have hi0 := blk_cell hi 0
  simp only [List.getElem?_toArray, List.getElem?_cons_zero] at hi0
  have hc : W.cell? ⟨pb, if wr then 2 else 1, none⟩ = some (.int .i64 (p.side wr)) := by
    cases wr
    · exact blk_cell hp 1
    · exact blk_cell hp 2
  have hfz : W.frozen? ⟨pb, if wr then 2 else 1, none⟩ = false := blk_free hp _
  have hset : ∀ u : Int, (W.setCell ⟨pb, if wr then 2 else 1, none⟩ (.int .i64 u)).heap[pb]? = some (.cells (p.put wr u).cs 28 (0, 0)) := by
    intro u
    cases wr
    · exact blk_set hp 1 _
    · exact blk_set hp 2 _
  generalize hj : (if wr then 2 else 1) = j at *
  unfold jnF
  by_cases h0 : p.side wr = 0
  · rw [if_pos h0]
    rw [h0] at hc
    go_enter Tryz.func139, Tryz.ntmps139
    go_wp2_with (go_at_call 140; refine hs.mono ?_; rintro e w1 ⟨rfl, rfl⟩)
    go_ret2
    exact ⟨rfl, hp, Fr.refl _ _⟩
  · rw [if_neg h0]
    have h0' : (p.side wr == 0) = false := by simpa using h0
    by_cases h1 : p.side wr = 64
    · rw [if_pos h1]
      rw [h1] at hc
      go_enter Tryz.func139, Tryz.ntmps139
      go_wp2_with (go_at_call 140; refine hs.mono ?_; rintro e w1 ⟨rfl, rfl⟩)
      go_ret2
      exact ⟨rfl, hp, Fr.refl _ _⟩
    · rw [if_neg h1]
      have h1' : (p.side wr == 64) = false := by simpa using h1
      have hset1 := hset (p.side wr + 1)
      generalize p.side wr = u at *
      have hu : IntKind.i64.wrap (u + 1) = u + 1 := IntWalk.i64_in _ (by omega)
      go_enter Tryz.func139, Tryz.ntmps139
      go_wp2_with (go_at_call 140; refine hs.mono ?_; rintro e w1 ⟨rfl, rfl⟩)
      go_ret2
      refine ⟨rfl, hset1, (Fr.refl (fun k => k = pb) W).setCell (a := ⟨pb, j, none⟩) (.inl rfl) _⟩

set_option maxRecDepth 100000 in
theorem leave_cl (W : World) (pb ib : Nat) (p : Pp) (wr : Bool) (hp : W.heap[pb]? = some (.cells p.cs 28 (0, 0))) (hi : W.heap[ib]? = some (.cells #[.bool wr] 4 (0, 0))) (h64 : 0 ≤ p.side wr ∧ p.side wr ≤ 64) :
    Calls Tryz.prog 141 #[.pointer (some ⟨pb, 0, none⟩), .pointer (some ⟨ib, 0, none⟩)] W fun e w' => e = .returned (.tuple #[.bool (lvF p wr).1, .int .i64 (lvF p wr).2.1]) ∧ w'.heap[pb]? = some (.cells (lvF p wr).2.2.cs 28 (0, 0)) ∧ Fr (fun k => k = pb) W w' := by
  have hs := side_any W pb wr
  have hi0 := blk_cell hi 0
  simp only [List.getElem?_toArray, List.getElem?_cons_zero] at hi0
  have hc : W.cell? ⟨pb, if wr then 2 else 1, none⟩ = some (.int .i64 (p.side wr)) := by
    cases wr
    · exact blk_cell hp 1
    · exact blk_cell hp 2
  have hfz : W.frozen? ⟨pb, if wr then 2 else 1, none⟩ = false := blk_free hp _
  have hset : ∀ u : Int, (W.setCell ⟨pb, if wr then 2 else 1, none⟩ (.int .i64 u)).heap[pb]? = some (.cells (p.put wr u).cs 28 (0, 0)) := by
    intro u
    cases wr
    · exact blk_set hp 1 _
    · exact blk_set hp 2 _
  generalize hj : (if wr then 2 else 1) = j at *
  unfold lvF
  by_cases h0 : p.side wr = 0
  · rw [if_pos h0]
    rw [h0] at hc
    go_enter Tryz.func141, Tryz.ntmps141
    go_wp2_with (go_at_call 140; refine hs.mono ?_; rintro e w1 ⟨rfl, rfl⟩)
    go_ret2
    exact ⟨rfl, hp, Fr.refl _ _⟩
  · rw [if_neg h0]
    have h0' : (p.side wr == 0) = false := by simpa using h0
    have hset1 := hset (p.side wr - 1)
    generalize p.side wr = u at *
    have hu : IntKind.i64.wrap (u - 1) = u - 1 := IntWalk.i64_in _ (by omega)
    go_enter Tryz.func141, Tryz.ntmps141
    go_wp2_with (go_at_call 140; refine hs.mono ?_; rintro e w1 ⟨rfl, rfl⟩)
    go_ret2
    refine ⟨rfl, hset1, (Fr.refl (fun k => k = pb) W).setCell (a := ⟨pb, j, none⟩) (.inl rfl) _⟩

set_option maxRecDepth 100000 in
set_option maxHeartbeats 4000000 in
theorem write_cl (W : World) (pb ib ob : Nat) (p : Pp) (s : ByteArray) (hp : W.heap[pb]? = some (.cells p.cs 28 (0, 0))) (hi : W.heap[ib]? = some (.cells #[.string s] 9 (0, 0))) (ho : W.heap[ob]? = some (.cells #[.int .i64 0] 3 (0, 0))) (hs : s.size ≤ 1000000) :
    Calls Tryz.prog 118 #[.pointer (some ⟨pb, 0, none⟩), .pointer (some ⟨ib, 0, none⟩), .pointer (some ⟨ob, 0, none⟩)] W fun e w' => e = .returned (.tuple #[.bool (wrF p s).1, .int .i64 (wrF p s).2.1]) ∧ w'.heap[pb]? = some (.cells (wrF p s).2.2.1.cs 28 (0, 0)) ∧
      w'.heap[ob]? = some (.cells #[.int .i64 (wrF p s).2.2.2] 3 (0, 0)) ∧ Fr (fun k => k = pb ∨ k = ob) W w' := by
  have hi0 := blk_cell hi 0
  have ho0 := blk_cell ho 0
  simp only [List.getElem?_toArray, List.getElem?_cons_zero] at hi0 ho0
  have hp' := hp
  unfold Pp.cs at hp'
  obtain ⟨c0, c1, c2, c3⟩ := blk4 hp'
  have f3 := blk_free hp 3
  have fo := blk_free ho 0
  have hne : pb ≠ ob := fun e => by rw [e, ho] at hp; simp at hp
  have hne2 : ib ≠ ob := fun e => by rw [e, ho] at hi; simp at hi
  have hlp := lt_of_block hp
  have hlo := lt_of_block ho
  unfold wrF
  by_cases h0 : s.size = 0
  · rw [if_pos h0]
    have : s.toList = [] := by rw [ByteArray.toList_eq]; exact List.eq_nil_of_length_eq_zero (by rw [dl, h0])
    go_enter Tryz.func118, Tryz.ntmps118
    go_wp2
    go_ret2
    exact ⟨rfl, hp, ho, Fr.refl _ _⟩
  · rw [if_neg h0]
    have hsl : s.toList ≠ [] := by rw [ByteArray.toList_eq]; intro e; have := dl s; rw [e] at this; simp at this; omega
    have hsl2 : (s.toList == []) = false := by simpa using hsl
    by_cases h1 : p.r = 0
    · rw [if_pos h1]
      rw [h1] at c1
      go_enter Tryz.func118, Tryz.ntmps118
      go_wp2
      go_ret2
      exact ⟨rfl, hp, ho, Fr.refl _ _⟩
    · rw [if_neg h1]
      have h1' : (p.r == 0) = false := by simpa using h1
      by_cases h2 : 256 ≤ p.b.size
      · rw [if_pos h2]
        go_enter Tryz.func118, Tryz.ntmps118
        go_wp2
        go_ret2
        exact ⟨rfl, hp, ho, Fr.refl _ _⟩
      · rw [if_neg h2]
        go_enter Tryz.func118, Tryz.ntmps118
        go_wp2
        go_region
        have hn : (if (256 : Int) - p.b.size < s.size then (256 : Int) - p.b.size else s.size) = ((min s.size (256 - p.b.size) : Nat) : Int) := by split <;> omega
        simp only [hn]
        have hk1 : min s.size (256 - p.b.size) ≤ s.size := Nat.min_le_left _ _
        generalize hnn : min s.size (256 - p.b.size) = nn at *
        have Hnn := Lib.hid hnn
        clear hnn
        have hw1 : (W.setCell ⟨ob, 0, none⟩ (.int .i64 nn)).heap[ob]? = some (.cells #[.int .i64 nn] 3 (0, 0)) := blk_set ho 0 _
        have hw2 : (W.setCell ⟨ob, 0, none⟩ (.int .i64 nn)).heap[pb]? = some (.cells p.cs 28 (0, 0)) := blk_set_other hp hne _
        have hw3 : (W.setCell ⟨ob, 0, none⟩ (.int .i64 nn)).heap[ib]? = some (.cells #[.string s] 9 (0, 0)) := blk_set_other hi hne2 _
        have hF1 : Fr (fun k => k = pb ∨ k = ob) W (W.setCell ⟨ob, 0, none⟩ (.int .i64 nn)) := (Fr.refl _ W).setCell (a := ⟨ob, 0, none⟩) (.inl (.inr rfl)) _
        generalize W.setCell ⟨ob, 0, none⟩ (.int .i64 nn) = X at *
        have hXi := blk_cell hw3 0
        have hXo := blk_cell hw1 0
        simp only [List.getElem?_toArray, List.getElem?_cons_zero] at hXi hXo
        have hwp := hw2
        unfold Pp.cs at hwp
        obtain ⟨d0, d1, d2, d3⟩ := blk4 hwp
        have g3 := blk_free hw2 3
        clear hi0 ho0 c0 c1 c2 c3 f3 fo hn
        go_wp2
        go_region
        go_wp2
        go_ret2
        obtain rfl := Hnn.out
        exact ⟨rfl, blk_set hw2 3 _, blk_set_other hw1 (Ne.symm hne) _, (hF1.setCell (a := ⟨pb, 3, none⟩) (.inl (.inl rfl)) _).drew.drew⟩

set_option maxRecDepth 100000 in
set_option maxHeartbeats 8000000 in
theorem read_cl (W : World) (pb ib ob : Nat) (p : Pp) (most : Int) (hp : W.heap[pb]? = some (.cells p.cs 28 (0, 0))) (hi : W.heap[ib]? = some (.cells #[.int .i64 most] 3 (0, 0))) (ho : W.heap[ob]? = some (.cells #[.string ⟨#[]⟩] 9 (0, 0))) (hs : p.b.size ≤ 1000000) :
    Calls Tryz.prog 117 #[.pointer (some ⟨pb, 0, none⟩), .pointer (some ⟨ib, 0, none⟩), .pointer (some ⟨ob, 0, none⟩)] W fun e w' => e = .returned (.tuple #[.bool (rdF p most).1, .int .i64 (rdF p most).2.1]) ∧ w'.heap[pb]? = some (.cells (rdF p most).2.2.1.cs 28 (0, 0)) ∧
      w'.heap[ob]? = some (.cells #[.string (rdF p most).2.2.2] 9 (0, 0)) ∧ Fr (fun k => k = pb ∨ k = ob) W w' := by
  have hi0 := blk_cell hi 0
  have ho0 := blk_cell ho 0
  simp only [List.getElem?_toArray, List.getElem?_cons_zero] at hi0 ho0
  have hp' := hp
  unfold Pp.cs at hp'
  obtain ⟨c0, c1, c2, c3⟩ := blk4 hp'
  have f3 := blk_free hp 3
  have fo := blk_free ho 0
  have hne : pb ≠ ob := fun e => by rw [e, ho] at hp; simp at hp
  have hne2 : ib ≠ ob := fun e => by rw [e, ho] at hi; simp at hi
  have hlp := lt_of_block hp
  have hlo := lt_of_block ho
  unfold rdF
  by_cases h0 : most < 0
  · rw [if_pos h0]
    go_enter Tryz.func117, Tryz.ntmps117
    go_wp2
    go_ret2
    exact ⟨rfl, hp, ho, Fr.refl _ _⟩
  · rw [if_neg h0]
    by_cases h1 : most = 0
    · rw [if_pos h1]
      subst h1
      go_enter Tryz.func117, Tryz.ntmps117
      go_wp2
      go_ret2
      exact ⟨rfl, hp, ho, Fr.refl _ _⟩
    · rw [if_neg h1]
      have h1' : (most == 0) = false := by simpa using h1
      have hmain : (p.b.size = 0 ∧ 0 < p.w) ∨ ((p.b.size = 0 ∧ ¬ 0 < p.w) ∨ p.b.size ≠ 0) := by omega
      have key : ¬ (p.b.size = 0 ∧ 0 < p.w) → ((p.b.toList == []) = false ∨ ((p.b.toList == []) = true ∧ decide (0 < p.w) = false)) := fun h => by
        by_cases hz : p.b.size = 0
        · right
          refine ⟨?_, by simp; omega⟩
          have : p.b.toList = [] := by rw [ByteArray.toList_eq]; exact List.eq_nil_of_length_eq_zero (by rw [dl, hz])
          rw [this]; rfl
        · left
          have : p.b.toList ≠ [] := by rw [ByteArray.toList_eq]; intro e; have := dl p.b; rw [e] at this; simp at this; omega
          simpa using this
      by_cases h2 : p.b.size = 0 ∧ 0 < p.w
      · rw [if_pos h2]
        obtain ⟨h3, h4⟩ := h2
        have : p.b.toList = [] := by rw [ByteArray.toList_eq]; exact List.eq_nil_of_length_eq_zero (by rw [dl, h3])
        have h4' : decide (0 < p.w) = true := by simpa using h4
        clear hmain key
        go_enter Tryz.func117, Tryz.ntmps117
        go_wp2
        go_ret2
        exact ⟨rfl, hp, ho, Fr.refl _ _⟩
      · rw [if_neg h2]
        have hk := key h2
        clear hmain key h2
        have hmn : (if (p.b.size : Int) < most then (p.b.size : Int) else most) = ((min most.toNat p.b.size : Nat) : Int) := by split <;> omega
        have hk1 : min most.toNat p.b.size ≤ p.b.size := Nat.min_le_right _ _
        rcases hk with hk | ⟨hk, hk'⟩
        · go_enter Tryz.func117, Tryz.ntmps117
          go_wp2
          go_quiet (fail)
          generalize hnn : min most.toNat p.b.size = nn at *
          have Hnn := Lib.hid hnn
          clear hnn hmn
          have hpX : (W.drewN nq).heap[pb]? = some (.cells p.cs 28 (0, 0)) := hp
          have hoX : (W.drewN nq).heap[ob]? = some (.cells #[.string ⟨#[]⟩] 9 (0, 0)) := ho
          have hiX : (W.drewN nq).heap[ib]? = some (.cells #[.int .i64 most] 3 (0, 0)) := hi
          have hFX : Fr (fun k => k = pb ∨ k = ob) W (W.drewN nq) := (Fr.refl _ W).drewN nq
          generalize W.drewN nq = X at *
          have hXo := blk_cell hoX 0
          simp only [List.getElem?_toArray, List.getElem?_cons_zero] at hXo
          have hwp := hpX
          unfold Pp.cs at hwp
          obtain ⟨d0, d1, d2, d3⟩ := blk4 hwp
          have g3 := blk_free hpX 3
          have g0 := blk_free hoX 0
          have hlpX := lt_of_block hpX
          have hloX := lt_of_block hoX
          clear hi0 ho0 c0 c1 c2 c3 f3 fo hp ho hi
          go_wp2
          go_region
          go_wp2
          go_ret2
          obtain rfl := Hnn.out
          exact ⟨by simp, blk_set (blk_set_other hpX hne _) 3 _, blk_set_other (blk_set hoX 0 _) (Ne.symm hne) _, ((hFX.setCell (a := ⟨ob, 0, none⟩) (.inl (.inr rfl)) _).setCell (a := ⟨pb, 3, none⟩) (.inl (.inl rfl)) _).drew⟩
        · go_enter Tryz.func117, Tryz.ntmps117
          go_wp2
          go_quiet (fail)
          generalize hnn : min most.toNat p.b.size = nn at *
          have Hnn := Lib.hid hnn
          clear hnn hmn
          have hpX : (W.drewN nq).heap[pb]? = some (.cells p.cs 28 (0, 0)) := hp
          have hoX : (W.drewN nq).heap[ob]? = some (.cells #[.string ⟨#[]⟩] 9 (0, 0)) := ho
          have hiX : (W.drewN nq).heap[ib]? = some (.cells #[.int .i64 most] 3 (0, 0)) := hi
          have hFX : Fr (fun k => k = pb ∨ k = ob) W (W.drewN nq) := (Fr.refl _ W).drewN nq
          generalize W.drewN nq = X at *
          have hXo := blk_cell hoX 0
          simp only [List.getElem?_toArray, List.getElem?_cons_zero] at hXo
          have hwp := hpX
          unfold Pp.cs at hwp
          obtain ⟨d0, d1, d2, d3⟩ := blk4 hwp
          have g3 := blk_free hpX 3
          have g0 := blk_free hoX 0
          have hlpX := lt_of_block hpX
          have hloX := lt_of_block hoX
          clear hi0 ho0 c0 c1 c2 c3 f3 fo hp ho hi
          go_wp2
          go_region
          go_wp2
          go_ret2
          obtain rfl := Hnn.out
          exact ⟨by simp, blk_set (blk_set_other hpX hne _) 3 _, blk_set_other (blk_set hoX 0 _) (Ne.symm hne) _, ((hFX.setCell (a := ⟨ob, 0, none⟩) (.inl (.inr rfl)) _).setCell (a := ⟨pb, 3, none⟩) (.inl (.inl rfl)) _).drew⟩

end Go.Proofs.YtdjjfjnkkgmadaaGreatDoor
