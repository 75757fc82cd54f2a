/-
  Ports: (Port).Check.
-/
import Derived.Test.YtdjjfjnkkgmadaaGreatDoorPortB
import Derived.Test.YtdjjfjnkkgmadaaGreatDoorParse
import Derived.Deep.CutRange
import Derived.Deep.CutBlock
namespace Go.Proofs.YtdjjfjnkkgmadaaGreatDoor
open Go Go.RowKit

/-- The cells of a packet at a place. -/
def PkAt (w : World) (b off : Nat) (p : Pk) : Prop := w.cell? ⟨b, off, none⟩ = some (.string p.f) ∧ w.cell? ⟨b, off + 1, none⟩ = some (.string p.b)

/-- A slice of packets. -/
def PksIn (w : World) (v : Value) (L : List Pk) : Prop :=
  ∃ (a : Option Addr) (cap : Nat), v = .slice a L.length cap ∧ L.length ≤ maxLen ∧ ∀ i p, L[i]? = some p → p.f.size ≤ maxLen ∧ p.b.size ≤ maxLen ∧ ∃ b off, a = some ⟨b, off, none⟩ ∧ b < w.heap.size ∧ PkAt w b (off + i * 2) p

theorem PkAt.below {w w' : World} {b off : Nat} {p : Pk} (h : PkAt w b off p) (hB : Below w.heap.size w w') (hb : b < w.heap.size) : PkAt w' b off p := by
  have e : ∀ j, w'.cell? ⟨b, j, none⟩ = w.cell? ⟨b, j, none⟩ := fun j => by simp [World.cell?, hB.block b hb]
  exact ⟨(e _).trans h.1, (e _).trans h.2⟩

theorem PksIn.below {w w' : World} {v : Value} {L : List Pk} (h : PksIn w v L) (hB : Below w.heap.size w w') : PksIn w' v L := by
  obtain ⟨a, cap, rfl, h1, h2⟩ := h
  refine ⟨a, cap, rfl, h1, fun i p hi => ?_⟩
  obtain ⟨g1, g2, b, off, g3, g4, g5⟩ := h2 i p hi
  exact ⟨g1, g2, b, off, g3, by have := hB.size; omega, g5.below hB g4⟩

def Po.v (p : Po) (qv : Value) : Value := .agg #[.string p.o, .int .i64 p.e, .int .i64 p.l, qv]

theorem perrs_drop (L : List Pk) (i : Nat) (p : Pk) (h : L[i]? = some p) : perrs (L.drop i) = if p.err ≠ 0 then p.err else perrs (L.drop (i + 1)) := by
  have hi : i < L.length := by
    rcases Nat.lt_or_ge i L.length with h' | h'
    · exact h'
    · rw [List.getElem?_eq_none h'] at h; cases h
  rw [List.getElem?_eq_getElem hi] at h
  cases h
  rw [List.drop_eq_getElem_cons hi, perrs]

set_option maxRecDepth 100000 in
set_option maxHeartbeats 4000000 in
theorem portCheck_any (p : Po) (qv : Value) (w : World) (hq : PksIn w qv p.q) (ho : p.o.size ≤ maxLen) : Calls Tryz.prog 43 #[p.v qv] w fun e w' => e = .returned (.int .i64 p.err) ∧ Below w.heap.size w w' := by
  have hv := valid_any p.o ho
  have hc1 := counts_any p.e
  have hc2 := counts_any p.l
  have hX := blk_new w (.cells #[.string p.o, .int .i64 p.e, .int .i64 p.l, qv] 56)
  have hA := below_new1 w (.cells #[.string p.o, .int .i64 p.e, .int .i64 p.l, qv] 56)
  have hq0 := hq.below hA
  obtain ⟨a, cap, rfl, hlen, _⟩ := hq
  unfold Po.v Po.err
  unfold maxLen at hlen
  cases h : Ln.valid p.o.data.toList with
  | false =>
    rw [h] at hv
    go_enter Tryz.func43, Tryz.ntmps43
    go_wp2_with (go_at_call 83; refine (hv _).mono ?_; rintro e w1 ⟨hB, rfl⟩)
    go_ret
    exact ⟨rfl, hA.trans' hB⟩
  | true =>
    rw [h] at hv
    cases he : within p.e 1073741824 with
    | false =>
      rw [he] at hc1
      go_enter Tryz.func43, Tryz.ntmps43
      go_wp2_with (first | (go_at_call 83; refine (hv _).mono ?_; rintro e w1 ⟨hB, rfl⟩; obtain ⟨c0, c1, c2, c3⟩ := blk4 (hB.heapS hX)) | (go_at_call 120; (with_reducible refine (hc1 _).mono ?_); rintro e w' ⟨rfl, rfl⟩))
      go_ret
      exact ⟨rfl, hA.trans' hB⟩
    | true =>
      rw [he] at hc1
      cases hl : within p.l 1073741824 with
      | false =>
        rw [hl] at hc2
        go_enter Tryz.func43, Tryz.ntmps43
        go_wp2_with (first | (go_at_call 83; refine (hv _).mono ?_; rintro e w1 ⟨hB, rfl⟩; obtain ⟨c0, c1, c2, c3⟩ := blk4 (hB.heapS hX)) | (go_at_call 120; (with_reducible refine (hc1 _).mono ?_); rintro e w' ⟨rfl, rfl⟩) | (go_at_call 120; (with_reducible refine (hc2 _).mono ?_); rintro e w' ⟨rfl, rfl⟩))
        go_ret
        exact ⟨rfl, hA.trans' hB⟩
      | true =>
        rw [hl] at hc2
        by_cases h16 : 16 < p.q.length
        · rw [if_neg (by simp), if_neg (by simp), if_neg (by simp), if_pos h16]
          go_enter Tryz.func43, Tryz.ntmps43
          go_wp2_with (first | (go_at_call 83; refine (hv _).mono ?_; rintro e w1 ⟨hB, rfl⟩; obtain ⟨c0, c1, c2, c3⟩ := blk4 (hB.heapS hX)) | (go_at_call 120; (with_reducible refine (hc1 _).mono ?_); rintro e w' ⟨rfl, rfl⟩) | (go_at_call 120; (with_reducible refine (hc2 _).mono ?_); rintro e w' ⟨rfl, rfl⟩))
          go_ret
          exact ⟨rfl, hA.trans' hB⟩
        · rw [if_neg (by simp), if_neg (by simp), if_neg (by simp), if_neg h16]
          go_enter Tryz.func43, Tryz.ntmps43
          go_wp2_with (first | (go_at_call 83; refine (hv _).mono ?_; rintro e w1 ⟨hB, rfl⟩; obtain ⟨c0, c1, c2, c3⟩ := blk4 (hB.heapS hX)) | (go_at_call 120; (with_reducible refine (hc1 _).mono ?_); rintro e w' ⟨rfl, rfl⟩) | (go_at_call 120; (with_reducible refine (hc2 _).mono ?_); rintro e w' ⟨rfl, rfl⟩))
          have hq1 := hq0.below hB
          go_loopw [4, 5, 30] (fun _ _ t30 wr => ∃ (i : Nat), t30 = .int .i64 i ∧ i ≤ p.q.length ∧ Hid (perrs p.q = perrs (p.q.drop i)) ∧ PksIn wr (.slice a p.q.length cap) p.q ∧ Below w.heap.size w wr) (fun _ _ t30 _ => p.q.length - (intOf t30).toNat)
          case atStart => exact ⟨0, rfl, Nat.zero_le _, Lib.hid rfl, hq1, hA.trans' hB⟩
          case round =>
            obtain ⟨i, rfl, hi, Hp, hqr, hBr⟩ := hrel
            by_cases hlt : i < p.q.length
            · obtain ⟨k, hk⟩ : ∃ k, p.q[i]? = some k := ⟨p.q[i], List.getElem?_eq_getElem hlt⟩
              have hd := perrs_drop p.q i k hk
              have hqn := hqr.below (below_new1 wr (.cells #[.string k.f, .string k.b] 123))
              obtain ⟨a', cap', heq, _, hcs⟩ := id hqr
              obtain ⟨hf, hb, b, off, ha', hbl, x0, x1⟩ := hcs i k hk
              obtain ⟨rfl, rfl⟩ : a' = a ∧ cap' = cap := by cases heq; exact ⟨rfl, rfl⟩
              subst ha'
              have hck := pkCheck_any k hf
              unfold Pk.v at hck
              have Hd := Lib.hid hd
              clear hd hcs hk
              by_cases hke : k.err = 0
              · rw [hke] at hck
                go_wp2_with (go_at_call 121; refine (hck _).mono ?_; rintro e wn ⟨rfl, hBn⟩)
                exact ⟨⟨i + 1, by go_num, by omega, Lib.hid (by rw [Hp.out, Hd.out, if_neg (by simpa using hke)]), hqn.below hBn, (hBr.alloc hBr.size _).trans' hBn⟩, by simp [intOf]; omega⟩
              · have hkb : (k.err != 0) = true := by simpa using hke
                generalize hke2 : k.err = ke at *
                go_wp2_with (go_at_call 121; refine (hck _).mono ?_; rintro e wn ⟨rfl, hBn⟩)
                go_ret
                exact ⟨by rw [Hp.out, Hd.out, if_pos hke]; rfl, (hBr.alloc hBr.size _).trans' hBn⟩
            · have h0 : perrs p.q = 0 := by rw [Hp.out, List.drop_of_length_le (by omega)]; rfl
              have H0 := Lib.hid h0
              clear h0
              go_wp2_with fail
              go_ret
              exact ⟨by rw [H0.out]; rfl, hBr⟩

set_option maxRecDepth 100000 in
set_option maxHeartbeats 4000000 in
theorem lportCheck_any (p : Po) (qv : Value) (w : World) (hq : PksIn w qv p.q) (ho : p.o.size ≤ maxLen) : Calls Tryz.prog 42 #[p.v qv] w fun e w' => e = .returned (.int .i64 p.err) ∧ Below w.heap.size w w' := by
  have hv := valid_any p.o ho
  have hc1 := lcounts_any p.e
  have hc2 := lcounts_any p.l
  have hX := blk_new w (.cells #[.string p.o, .int .i64 p.e, .int .i64 p.l, qv] 56)
  have hA := below_new1 w (.cells #[.string p.o, .int .i64 p.e, .int .i64 p.l, qv] 56)
  have hq0 := hq.below hA
  obtain ⟨a, cap, rfl, hlen, _⟩ := hq
  unfold Po.v Po.err
  unfold maxLen at hlen
  cases h : Ln.valid p.o.data.toList with
  | false =>
    rw [h] at hv
    go_enter Tryz.func42, Tryz.ntmps42
    go_wp2_with (go_at_call 83; refine (hv _).mono ?_; rintro e w1 ⟨hB, rfl⟩)
    go_ret
    exact ⟨rfl, hA.trans' hB⟩
  | true =>
    rw [h] at hv
    cases he : within p.e 1073741824 with
    | false =>
      rw [he] at hc1
      go_enter Tryz.func42, Tryz.ntmps42
      go_wp2_with (first | (go_at_call 83; refine (hv _).mono ?_; rintro e w1 ⟨hB, rfl⟩; obtain ⟨c0, c1, c2, c3⟩ := blk4 (hB.heapS hX)) | (go_at_call 119; (with_reducible refine (hc1 _).mono ?_); rintro e w' ⟨rfl, rfl⟩))
      go_ret
      exact ⟨rfl, hA.trans' hB⟩
    | true =>
      rw [he] at hc1
      cases hl : within p.l 1073741824 with
      | false =>
        rw [hl] at hc2
        go_enter Tryz.func42, Tryz.ntmps42
        go_wp2_with (first | (go_at_call 83; refine (hv _).mono ?_; rintro e w1 ⟨hB, rfl⟩; obtain ⟨c0, c1, c2, c3⟩ := blk4 (hB.heapS hX)) | (go_at_call 119; (with_reducible refine (hc1 _).mono ?_); rintro e w' ⟨rfl, rfl⟩) | (go_at_call 119; (with_reducible refine (hc2 _).mono ?_); rintro e w' ⟨rfl, rfl⟩))
        go_ret
        exact ⟨rfl, hA.trans' hB⟩
      | true =>
        rw [hl] at hc2
        by_cases h16 : 16 < p.q.length
        · rw [if_neg (by simp), if_neg (by simp), if_neg (by simp), if_pos h16]
          go_enter Tryz.func42, Tryz.ntmps42
          go_wp2_with (first | (go_at_call 83; refine (hv _).mono ?_; rintro e w1 ⟨hB, rfl⟩; obtain ⟨c0, c1, c2, c3⟩ := blk4 (hB.heapS hX)) | (go_at_call 119; (with_reducible refine (hc1 _).mono ?_); rintro e w' ⟨rfl, rfl⟩) | (go_at_call 119; (with_reducible refine (hc2 _).mono ?_); rintro e w' ⟨rfl, rfl⟩))
          go_ret
          exact ⟨rfl, hA.trans' hB⟩
        · rw [if_neg (by simp), if_neg (by simp), if_neg (by simp), if_neg h16]
          go_enter Tryz.func42, Tryz.ntmps42
          go_wp2_with (first | (go_at_call 83; refine (hv _).mono ?_; rintro e w1 ⟨hB, rfl⟩; obtain ⟨c0, c1, c2, c3⟩ := blk4 (hB.heapS hX)) | (go_at_call 119; (with_reducible refine (hc1 _).mono ?_); rintro e w' ⟨rfl, rfl⟩) | (go_at_call 119; (with_reducible refine (hc2 _).mono ?_); rintro e w' ⟨rfl, rfl⟩))
          have hq1 := hq0.below hB
          have hX1 := hB.heapS hX
          go_loopw [3, 4] (fun t3 _ wr => ∃ (i : Nat), t3 = .int .i64 i ∧ i ≤ p.q.length ∧ Hid (perrs p.q = perrs (p.q.drop i)) ∧ PksIn wr (.slice a p.q.length cap) p.q ∧ wr.heap[w.heap.size]? = some (.cells #[.string p.o, .int .i64 p.e, .int .i64 p.l, .slice a p.q.length cap] 56) ∧ Below w.heap.size w wr) (fun t3 _ _ => p.q.length - (intOf t3).toNat)
          case atStart => exact ⟨0, rfl, Nat.zero_le _, Lib.hid rfl, hq1, hX1, hA.trans' hB⟩
          case round =>
            obtain ⟨i, rfl, hi, Hp, hqr, hXr, hBr⟩ := hrel
            obtain ⟨y0, y1, y2, y3⟩ := blk4 hXr
            by_cases hlt : i < p.q.length
            · obtain ⟨k, hk⟩ : ∃ k, p.q[i]? = some k := ⟨p.q[i], List.getElem?_eq_getElem hlt⟩
              have hd := perrs_drop p.q i k hk
              obtain ⟨a', cap', heq, _, hcs⟩ := id hqr
              obtain ⟨hf, hb, b, off, ha', hbl, x0, x1⟩ := hcs i k hk
              obtain ⟨rfl, rfl⟩ : a' = a ∧ cap' = cap := by cases heq; exact ⟨rfl, rfl⟩
              subst ha'
              have hck := lpkCheck_any k hf
              unfold Pk.v at hck
              have Hd := Lib.hid hd
              clear hd hcs hk
              by_cases hke : k.err = 0
              · rw [hke] at hck
                go_wp2_with (go_at_call 78; refine (hck _).mono ?_; rintro e wn ⟨rfl, hBn⟩)
                exact ⟨⟨i + 1, by go_num, by omega, Lib.hid (by rw [Hp.out, Hd.out, if_neg (by simpa using hke)]), hqr.below hBn, hBn.heapS hXr, hBr.trans' hBn⟩, by simp [intOf]; omega⟩
              · have hkb : (k.err != 0) = true := by simpa using hke
                generalize hke2 : k.err = ke at *
                go_wp2_with (go_at_call 78; refine (hck _).mono ?_; rintro e wn ⟨rfl, hBn⟩)
                go_ret
                exact ⟨by rw [Hp.out, Hd.out, if_pos hke]; rfl, hBr.trans' hBn⟩
            · have h0 : perrs p.q = 0 := by rw [Hp.out, List.drop_of_length_le (by omega)]; rfl
              have H0 := Lib.hid h0
              clear h0
              go_wp2_with fail
              go_ret
              exact ⟨by rw [H0.out]; rfl, hBr⟩

end Go.Proofs.YtdjjfjnkkgmadaaGreatDoor
