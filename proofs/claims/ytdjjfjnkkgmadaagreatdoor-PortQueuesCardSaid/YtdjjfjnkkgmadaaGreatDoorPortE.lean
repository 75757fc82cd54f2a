/-
  Ports: slices.Equal of packets, and Equal.
-/
import Derived.Test.YtdjjfjnkkgmadaaGreatDoorPortC
import Derived.Test.YtdjjfjnkkgmadaaGreatDoorRef3
import Derived.Deep.QuietTactic
namespace Go.Proofs.YtdjjfjnkkgmadaaGreatDoor
open Go Go.RowKit

theorem take_next {L M : List Pk} {i : Nat} {k m : Pk} (h : L.take i = M.take i) (hk : L[i]? = some k) (hm : M[i]? = some m) (e : k = m) : L.take (i + 1) = M.take (i + 1) := by
  rw [List.take_add_one, List.take_add_one, h, hk, hm, e]

set_option maxRecDepth 100000 in
set_option maxHeartbeats 4000000 in
theorem pksEqual_any (v1 v2 : Value) (L M : List Pk) (w : World) (h1 : PksIn w v1 L) (h2 : PksIn w v2 M) :
    Calls Tryz.prog 122 #[v1, v2] w fun e w' => e = .returned (.bool (decide (L = M))) ∧ Below w.heap.size w w' := by
  have hT := Below.refl w.heap.size w
  obtain ⟨a1, c1, rfl, hl1, hc1⟩ := h1
  obtain ⟨a2, c2, rfl, hl2, hc2⟩ := h2
  have H1 := Lib.hid hc1
  have H2 := Lib.hid hc2
  clear hc1 hc2
  unfold maxLen at hl1 hl2
  by_cases hl : L.length = M.length
  · have hlb : ((L.length : Int) != (M.length : Int)) = false := by simp; omega
    have Hl := Lib.hid hl
    clear hl
    go_enter Tryz.func122, Tryz.ntmps122
    go_wp2_with fail
    go_loopw [5, 13] (fun _ t13 wr => ∃ (i : Nat), t13 = .int .i64 i ∧ i ≤ L.length ∧ Hid (L.take i = M.take i) ∧ Below w.heap.size w wr) (fun _ t13 _ => L.length - (intOf t13).toNat)
    case atStart => exact ⟨0, rfl, Nat.zero_le _, Lib.hid rfl, hT⟩
    case round =>
      obtain ⟨i, rfl, hi, Ht, hBr⟩ := hrel
      by_cases hlt : i < L.length
      · obtain ⟨k, hk⟩ : ∃ k, L[i]? = some k := ⟨L[i], List.getElem?_eq_getElem hlt⟩
        have hltM : i < M.length := by have := Hl.out; omega
        obtain ⟨m, hm⟩ : ∃ m, M[i]? = some m := ⟨M[i], List.getElem?_eq_getElem hltM⟩
        obtain ⟨_, _, b1, o1, rfl, hb1, hat1⟩ := H1.out i k hk
        obtain ⟨_, _, b2, o2, rfl, hb2, hat2⟩ := H2.out i m hm
        obtain ⟨x0, x1⟩ := hat1.below hBr hb1
        obtain ⟨y0, y1⟩ := hat2.below hBr hb2
        have hs := hBr.size
        have hb1r : b1 < wr.heap.size := by omega
        have hb2r : b2 < wr.heap.size := by omega
        have Hk := Lib.hid hk
        have Hm := Lib.hid hm
        clear hk hm hat1 hat2
        by_cases he : k = m
        · subst he
          go_wp2_with fail
          go_quiet (fail)
          go_wp2_with fail
          exact ⟨⟨i + 1, by go_num, by omega, Lib.hid (take_next Ht.out Hk.out Hm.out rfl), hBr.drewN _⟩, by simp [intOf]; omega⟩
        · have hne : decide (L = M) = false := by
            simp only [decide_eq_false_iff_not]
            intro h
            have h1 := Hk.out
            rw [h, Hm.out] at h1
            exact he (Option.some.inj h1).symm
          have Hne := Lib.hid hne
          clear hne
          by_cases hf : k.f = m.f
          · have hb : (k.b.toList == m.b.toList) = false := str_ne fun h => he (by cases k; cases m; simp_all)
            have hfb : (k.f.toList == m.f.toList) = true := by rw [hf]; simp
            clear hf he
            go_wp2_with fail
            go_quiet (fail)
            go_wp2_with fail
            go_ret
            exact ⟨by rw [Hne.out]; rfl, hBr.drewN _⟩
          · have hfb : (k.f.toList == m.f.toList) = false := str_ne hf
            clear hf he
            go_wp2_with fail
            go_quiet (fail)
            go_wp2_with fail
            go_ret
            exact ⟨by rw [Hne.out]; rfl, hBr.drewN _⟩
      · have he : decide (L = M) = true := by
          have h1 := Ht.out
          rw [List.take_of_length_le (by omega), List.take_of_length_le (by have := Hl.out; omega)] at h1
          simp [h1]
        have He := Lib.hid he
        clear he
        go_wp2_with fail
        go_ret
        exact ⟨by rw [He.out]; rfl, hBr⟩
  · have hlb : ((L.length : Int) != (M.length : Int)) = true := by simp; omega
    have hne : decide (L = M) = false := by simp; intro h; rw [h] at hl; exact hl rfl
    rw [hne]
    clear hl hne
    go_enter Tryz.func122, Tryz.ntmps122
    go_wp2_with fail
    go_ret
    exact ⟨rfl, hT⟩

set_option maxRecDepth 100000 in
set_option maxHeartbeats 4000000 in
theorem portEqual_any (p q : Po) (v1 v2 : Value) (w : World) (h1 : PksIn w v1 p.q) (h2 : PksIn w v2 q.q) :
    Calls Tryz.prog 46 #[p.v v1, q.v v2] w fun e w' => e = .returned (.bool (decide (p = q))) ∧ Below w.heap.size w w' := by
  have hA := below_new2 w (.cells #[.string p.o, .int .i64 p.e, .int .i64 p.l, v1] 56) (.cells #[.string q.o, .int .i64 q.e, .int .i64 q.l, v2] 56)
  have hq := pksEqual_any v1 v2 p.q q.q _ (h1.below hA) (h2.below hA)
  clear h1 h2
  unfold Po.v
  by_cases ho : p.o = q.o
  · by_cases he : p.e = q.e
    · by_cases hl : p.l = q.l
      · have hd : decide (p.q = q.q) = decide (p = q) := by
          cases p; cases q
          simp only at ho he hl
          subst ho he hl
          simp
        rw [hd] at hq
        have ho' : (p.o.toList == q.o.toList) = true := by rw [ho]; simp
        have he' : (p.e == q.e) = true := by simpa using he
        have hl' : (p.l == q.l) = true := by simpa using hl
        clear ho he hl hd
        generalize decide (p = q) = r at *
        go_enter Tryz.func46, Tryz.ntmps46
        go_wp2_with (go_at_call 122; refine hq.mono ?_; rintro e w' ⟨rfl, hB⟩)
        go_ret
        exact ⟨rfl, hA.trans' hB⟩
      · have hd : decide (p = q) = false := by simp; intro h; exact hl (by rw [h])
        rw [hd]
        have ho' : (p.o.toList == q.o.toList) = true := by rw [ho]; simp
        have he' : (p.e == q.e) = true := by simpa using he
        have hl' : (p.l == q.l) = false := by simpa using hl
        clear ho he hl hd
        go_enter Tryz.func46, Tryz.ntmps46
        go_wp2_with fail
        go_ret
        exact ⟨rfl, hA⟩
    · have hd : decide (p = q) = false := by simp; intro h; exact he (by rw [h])
      rw [hd]
      have ho' : (p.o.toList == q.o.toList) = true := by rw [ho]; simp
      have he' : (p.e == q.e) = false := by simpa using he
      clear ho he hd
      go_enter Tryz.func46, Tryz.ntmps46
      go_wp2_with fail
      go_ret
      exact ⟨rfl, hA⟩
  · have hd : decide (p = q) = false := by simp; intro h; exact ho (by rw [h])
    rw [hd]
    have ho' : (p.o.toList == q.o.toList) = false := str_ne ho
    clear ho hd
    go_enter Tryz.func46, Tryz.ntmps46
    go_wp2_with fail
    go_ret
    exact ⟨rfl, hA⟩

end Go.Proofs.YtdjjfjnkkgmadaaGreatDoor
