/-
  object.Name.Check at the kinds of the claims (printed by tools/gencheck.py).
-/
import Derived.Test.YtdjjfjnkkgmadaaGreatDoorObject
import Derived.Deep.RegionWith
import Derived.BigRegion
import Derived.Deep.Cut
import Derived.Deep.CutRange
namespace Go.Proofs.YtdjjfjnkkgmadaaGreatDoor
open Go Go.RowKit

theorem blk5 {w : World} {b : Nat} {x0 x1 x2 x3 x4 : Value} {t : TypeId} (h : w.heap[b]? = some (.cells #[x0, x1, x2, x3, x4] t (0, 0))) :
    w.cell? ⟨b, 0, none⟩ = some x0 ∧ w.cell? ⟨b, 1, none⟩ = some x1 ∧ w.cell? ⟨b, 2, none⟩ = some x2 ∧ w.cell? ⟨b, 3, none⟩ = some x3 ∧ w.cell? ⟨b, 4, none⟩ = some x4 :=
  ⟨blk_cell h 0, blk_cell h 1, blk_cell h 2, blk_cell h 3, blk_cell h 4⟩
theorem below_new1 (w : World) (o : Obj) : Below w.heap.size w (w.alloc o) := (Below.refl _ w).alloc (Nat.le_refl _) _
theorem set5 {w : World} {b : Nat} {x0 x1 x2 x3 x4 : Value} {t : TypeId} (h : w.heap[b]? = some (.cells #[x0, x1, x2, x3, x4] t (0, 0))) (y0 y1 y2 y3 y4 : Value) :
    (((((w.setCell ⟨b, 0, none⟩ y0).setCell ⟨b, 1, none⟩ y1).setCell ⟨b, 2, none⟩ y2).setCell ⟨b, 3, none⟩ y3).setCell ⟨b, 4, none⟩ y4).heap[b]? = some (.cells #[y0, y1, y2, y3, y4] t (0, 0)) :=
  blk_set (blk_set (blk_set (blk_set (blk_set h 0 _) 1 _) 2 _) 3 _) 4 _
theorem set5_other {w : World} {b k : Nat} {o : Obj} (h : w.heap[k]? = some o) (hne : k ≠ b) (y0 y1 y2 y3 y4 : Value) :
    (((((w.setCell ⟨b, 0, none⟩ y0).setCell ⟨b, 1, none⟩ y1).setCell ⟨b, 2, none⟩ y2).setCell ⟨b, 3, none⟩ y3).setCell ⟨b, 4, none⟩ y4).heap[k]? = some o :=
  blk_set_other (blk_set_other (blk_set_other (blk_set_other (blk_set_other h hne _) hne _) hne _) hne _) hne _
theorem set5_below {B : Nat} {w w' : World} (h : Below B w w') {b : Nat} (hb : B ≤ b) (y0 y1 y2 y3 y4 : Value) :
    Below B w (((((w'.setCell ⟨b, 0, none⟩ y0).setCell ⟨b, 1, none⟩ y1).setCell ⟨b, 2, none⟩ y2).setCell ⟨b, 3, none⟩ y3).setCell ⟨b, 4, none⟩ y4) :=
  ((((h.setCell (p := ⟨b, 0, none⟩) hb _).setCell (p := ⟨b, 1, none⟩) hb _).setCell (p := ⟨b, 2, none⟩) hb _).setCell (p := ⟨b, 3, none⟩) hb _).setCell (p := ⟨b, 4, none⟩) hb _

/-- The errors of names. -/
def portErr (n : Int) : Int := if numOk n = false then 2 else 0
def counterErr (m : ByteArray) : Int := if Ln.valid m.data.toList = false then 12 else 0
def blockErr (m : ByteArray) (n i : Int) : Int := if Ln.valid m.data.toList = false then 12 else if numOk n = false then 2 else if i < 0 then 2 else if 63 < i then 2 else 0

theorem use11 (w : World) : (Instr.index 290 (.agg useCellsAll) (.int .i64 11)).run Tryz.prog w = .ok (.agg #[.string ⟨#[112, 105, 112, 101]⟩, .bool true, .bool true, .bool false, .int .i64 (-1)]) w := by kernel_rfl

set_option maxRecDepth 100000 in
set_option maxHeartbeats 8000000 in
theorem check_pipe (m : ByteArray) (hm : m.size ≤ maxLen) (n : Int) (w : World) :
    Calls Tryz.prog 155 #[nameV 11 m n 0 ⟨#[]⟩] w fun e w' => e = .returned (.int .i64 (birthErr m n)) ∧ Below w.heap.size w w' := by
  have hu := fun w => uses_any w
  have huc := use11
  generalize he : birthErr m n = er
  have He := Lib.hid he
  clear he
  unfold nameV
  generalize useCellsAll = uc at hu huc
  go_enter Tryz.func155, Tryz.ntmps155
  go_wp2_with fail
  go_cut [3] from 12 to 15 (fun s3 wx => ∃ tb, s3 = .pointer (some ⟨tb, 0, none⟩) ∧ wx.heap[tb]? = some (.cells #[.string ⟨#[112, 105, 112, 101]⟩, .bool true, .bool true, .bool false, .int .i64 (-1)] 289 (0, 0)) ∧ wx.heap[w.heap.size]? = some (.cells #[.int .i64 11, .string m, .int .i64 n, .int .i64 0, .string ⟨#[]⟩] 91 (0, 0)) ∧ Below w.heap.size w wx)
  case first =>
    go_region_with (go_at_call 189; refine (hu _).mono ?_; rintro e w' ⟨rfl, hB⟩; have hb := (hB.heapS (show _ = some (Obj.cells #[.int .i64 11, .string m, .int .i64 n, .int .i64 0, .string ⟨#[]⟩] 91 (0, 0)) from (by first | exact blk_new w _ | exact blk_alloc (blk_new w _) _))); have hlt := lt_of_block hb; have hB2 : Below w.heap.size w w' := (by first | exact (below_new1 w _).trans' hB | exact (below_new1 w _).drew.trans' hB | exact (below_new1 w _).drew.drew.trans' hB | exact (below_new2 w _ _).trans' hB | exact (below_new2 w _ _).drew.trans' hB | exact (below_new2 w _ _).drew.drew.trans' hB); obtain ⟨c0, c1, c2, c3, c4⟩ := blk5 hb; try (have hy := hB.heapS (blk_new1 w _ _); have hlt1 := lt_of_block hy; obtain ⟨d0, d1, d2, d3, d4⟩ := blk5 hy; have f0 := blk_free hy 0; have f1 := blk_free hy 1; have f2 := blk_free hy 2; have f3 := blk_free hy 3; have f4 := blk_free hy 4))
    all_goals (go_wp2_with fail; go_meet)
    all_goals first
      | exact ⟨w.heap.size + 1, rfl, set5 hy _ _ _ _ _, set5_other hb (by omega) _ _ _ _ _, set5_below hB2 (by omega) _ _ _ _ _⟩
      | exact ⟨_, rfl, blk_new w' _, blk_alloc hb _, hB2.alloc hB2.size _⟩
  case rest =>
    obtain ⟨tb, rfl, hr, hn, hB⟩ := hcut
    clear hu huc
    obtain ⟨r0, r1, r2, r3, r4⟩ := blk5 hr
    obtain ⟨n0, n1, n2, n3, n4⟩ := blk5 hn
    have hv := fun w => valid_any m hm w
    have hno := fun w => numOk_any n w
    cases h1 : Ln.valid m.data.toList with
    | false =>
      rw [h1] at hv
      have H1 := Lib.hid h1
      clear h1
      go_wp2_with (first | (go_at_call 83; refine (hv _).mono ?_; rintro e w' ⟨hB2, rfl⟩; obtain ⟨q0, q1, q2, q3, q4⟩ := blk5 (hB2.heapS hr); obtain ⟨p0, p1, p2, p3, p4⟩ := blk5 (hB2.heapS hn)) | (go_at_call 135; refine (hno _).mono ?_; rintro e w2 ⟨rfl, rfl⟩))
      go_ret
      exact ⟨by rw [← He.out, birthErr]; simp only [H1.out]; simp, hB.trans (hB2.mono hB.size)⟩
    | true =>
      rw [h1] at hv
      have H1 := Lib.hid h1
      clear h1
      cases h2 : numOk n with
      | false =>
        rw [h2] at hno
        have H2 := Lib.hid h2
        clear h2
        go_wp2_with (first | (go_at_call 83; refine (hv _).mono ?_; rintro e w' ⟨hB2, rfl⟩; obtain ⟨q0, q1, q2, q3, q4⟩ := blk5 (hB2.heapS hr); obtain ⟨p0, p1, p2, p3, p4⟩ := blk5 (hB2.heapS hn)) | (go_at_call 135; refine (hno _).mono ?_; rintro e w2 ⟨rfl, rfl⟩))
        go_ret
        exact ⟨by rw [← He.out, birthErr]; simp only [H1.out, H2.out]; simp, hB.trans (hB2.mono hB.size)⟩
      | true =>
        rw [h2] at hno
        have H2 := Lib.hid h2
        clear h2
        go_wp2_with (first | (go_at_call 83; refine (hv _).mono ?_; rintro e w' ⟨hB2, rfl⟩; obtain ⟨q0, q1, q2, q3, q4⟩ := blk5 (hB2.heapS hr); obtain ⟨p0, p1, p2, p3, p4⟩ := blk5 (hB2.heapS hn)) | (go_at_call 135; refine (hno _).mono ?_; rintro e w2 ⟨rfl, rfl⟩))
        go_ret
        exact ⟨by rw [← He.out, birthErr]; simp only [H1.out, H2.out]; simp, hB.trans (hB2.mono hB.size)⟩

theorem use7 (w : World) : (Instr.index 290 (.agg useCellsAll) (.int .i64 7)).run Tryz.prog w = .ok (.agg #[.string ⟨#[110, 111, 100, 101]⟩, .bool true, .bool true, .bool false, .int .i64 (-1)]) w := by kernel_rfl

set_option maxRecDepth 100000 in
set_option maxHeartbeats 8000000 in
theorem check_node (m : ByteArray) (hm : m.size ≤ maxLen) (n : Int) (w : World) :
    Calls Tryz.prog 155 #[nameV 7 m n 0 ⟨#[]⟩] w fun e w' => e = .returned (.int .i64 (birthErr m n)) ∧ Below w.heap.size w w' := by
  have hu := fun w => uses_any w
  have huc := use7
  generalize he : birthErr m n = er
  have He := Lib.hid he
  clear he
  unfold nameV
  generalize useCellsAll = uc at hu huc
  go_enter Tryz.func155, Tryz.ntmps155
  go_wp2_with fail
  go_cut [3] from 12 to 15 (fun s3 wx => ∃ tb, s3 = .pointer (some ⟨tb, 0, none⟩) ∧ wx.heap[tb]? = some (.cells #[.string ⟨#[110, 111, 100, 101]⟩, .bool true, .bool true, .bool false, .int .i64 (-1)] 289 (0, 0)) ∧ wx.heap[w.heap.size]? = some (.cells #[.int .i64 7, .string m, .int .i64 n, .int .i64 0, .string ⟨#[]⟩] 91 (0, 0)) ∧ Below w.heap.size w wx)
  case first =>
    go_region_with (go_at_call 189; refine (hu _).mono ?_; rintro e w' ⟨rfl, hB⟩; have hb := (hB.heapS (show _ = some (Obj.cells #[.int .i64 7, .string m, .int .i64 n, .int .i64 0, .string ⟨#[]⟩] 91 (0, 0)) from (by first | exact blk_new w _ | exact blk_alloc (blk_new w _) _))); have hlt := lt_of_block hb; have hB2 : Below w.heap.size w w' := (by first | exact (below_new1 w _).trans' hB | exact (below_new1 w _).drew.trans' hB | exact (below_new1 w _).drew.drew.trans' hB | exact (below_new2 w _ _).trans' hB | exact (below_new2 w _ _).drew.trans' hB | exact (below_new2 w _ _).drew.drew.trans' hB); obtain ⟨c0, c1, c2, c3, c4⟩ := blk5 hb; try (have hy := hB.heapS (blk_new1 w _ _); have hlt1 := lt_of_block hy; obtain ⟨d0, d1, d2, d3, d4⟩ := blk5 hy; have f0 := blk_free hy 0; have f1 := blk_free hy 1; have f2 := blk_free hy 2; have f3 := blk_free hy 3; have f4 := blk_free hy 4))
    all_goals (go_wp2_with fail; go_meet)
    all_goals first
      | exact ⟨w.heap.size + 1, rfl, set5 hy _ _ _ _ _, set5_other hb (by omega) _ _ _ _ _, set5_below hB2 (by omega) _ _ _ _ _⟩
      | exact ⟨_, rfl, blk_new w' _, blk_alloc hb _, hB2.alloc hB2.size _⟩
  case rest =>
    obtain ⟨tb, rfl, hr, hn, hB⟩ := hcut
    clear hu huc
    obtain ⟨r0, r1, r2, r3, r4⟩ := blk5 hr
    obtain ⟨n0, n1, n2, n3, n4⟩ := blk5 hn
    have hv := fun w => valid_any m hm w
    have hno := fun w => numOk_any n w
    cases h1 : Ln.valid m.data.toList with
    | false =>
      rw [h1] at hv
      have H1 := Lib.hid h1
      clear h1
      go_wp2_with (first | (go_at_call 83; refine (hv _).mono ?_; rintro e w' ⟨hB2, rfl⟩; obtain ⟨q0, q1, q2, q3, q4⟩ := blk5 (hB2.heapS hr); obtain ⟨p0, p1, p2, p3, p4⟩ := blk5 (hB2.heapS hn)) | (go_at_call 135; refine (hno _).mono ?_; rintro e w2 ⟨rfl, rfl⟩))
      go_ret
      exact ⟨by rw [← He.out, birthErr]; simp only [H1.out]; simp, hB.trans (hB2.mono hB.size)⟩
    | true =>
      rw [h1] at hv
      have H1 := Lib.hid h1
      clear h1
      cases h2 : numOk n with
      | false =>
        rw [h2] at hno
        have H2 := Lib.hid h2
        clear h2
        go_wp2_with (first | (go_at_call 83; refine (hv _).mono ?_; rintro e w' ⟨hB2, rfl⟩; obtain ⟨q0, q1, q2, q3, q4⟩ := blk5 (hB2.heapS hr); obtain ⟨p0, p1, p2, p3, p4⟩ := blk5 (hB2.heapS hn)) | (go_at_call 135; refine (hno _).mono ?_; rintro e w2 ⟨rfl, rfl⟩))
        go_ret
        exact ⟨by rw [← He.out, birthErr]; simp only [H1.out, H2.out]; simp, hB.trans (hB2.mono hB.size)⟩
      | true =>
        rw [h2] at hno
        have H2 := Lib.hid h2
        clear h2
        go_wp2_with (first | (go_at_call 83; refine (hv _).mono ?_; rintro e w' ⟨hB2, rfl⟩; obtain ⟨q0, q1, q2, q3, q4⟩ := blk5 (hB2.heapS hr); obtain ⟨p0, p1, p2, p3, p4⟩ := blk5 (hB2.heapS hn)) | (go_at_call 135; refine (hno _).mono ?_; rintro e w2 ⟨rfl, rfl⟩))
        go_ret
        exact ⟨by rw [← He.out, birthErr]; simp only [H1.out, H2.out]; simp, hB.trans (hB2.mono hB.size)⟩

theorem use16 (w : World) : (Instr.index 290 (.agg useCellsAll) (.int .i64 16)).run Tryz.prog w = .ok (.agg #[.string ⟨#[112, 111, 114, 116]⟩, .bool false, .bool true, .bool false, .int .i64 (-1)]) w := by kernel_rfl

set_option maxRecDepth 100000 in
set_option maxHeartbeats 8000000 in
theorem check_port (n : Int) (w : World) :
    Calls Tryz.prog 155 #[nameV 16 ⟨#[]⟩ n 0 ⟨#[]⟩] w fun e w' => e = .returned (.int .i64 (portErr n)) ∧ Below w.heap.size w w' := by
  have hu := fun w => uses_any w
  have huc := use16
  generalize he : portErr n = er
  have He := Lib.hid he
  clear he
  unfold nameV
  generalize useCellsAll = uc at hu huc
  go_enter Tryz.func155, Tryz.ntmps155
  go_wp2_with fail
  go_cut [3] from 12 to 15 (fun s3 wx => ∃ tb, s3 = .pointer (some ⟨tb, 0, none⟩) ∧ wx.heap[tb]? = some (.cells #[.string ⟨#[112, 111, 114, 116]⟩, .bool false, .bool true, .bool false, .int .i64 (-1)] 289 (0, 0)) ∧ wx.heap[w.heap.size]? = some (.cells #[.int .i64 16, .string ⟨#[]⟩, .int .i64 n, .int .i64 0, .string ⟨#[]⟩] 91 (0, 0)) ∧ Below w.heap.size w wx)
  case first =>
    go_region_with (go_at_call 189; refine (hu _).mono ?_; rintro e w' ⟨rfl, hB⟩; have hb := (hB.heapS (show _ = some (Obj.cells #[.int .i64 16, .string ⟨#[]⟩, .int .i64 n, .int .i64 0, .string ⟨#[]⟩] 91 (0, 0)) from (by first | exact blk_new w _ | exact blk_alloc (blk_new w _) _))); have hlt := lt_of_block hb; have hB2 : Below w.heap.size w w' := (by first | exact (below_new1 w _).trans' hB | exact (below_new1 w _).drew.trans' hB | exact (below_new1 w _).drew.drew.trans' hB | exact (below_new2 w _ _).trans' hB | exact (below_new2 w _ _).drew.trans' hB | exact (below_new2 w _ _).drew.drew.trans' hB); obtain ⟨c0, c1, c2, c3, c4⟩ := blk5 hb; try (have hy := hB.heapS (blk_new1 w _ _); have hlt1 := lt_of_block hy; obtain ⟨d0, d1, d2, d3, d4⟩ := blk5 hy; have f0 := blk_free hy 0; have f1 := blk_free hy 1; have f2 := blk_free hy 2; have f3 := blk_free hy 3; have f4 := blk_free hy 4))
    all_goals (go_wp2_with fail; go_meet)
    all_goals first
      | exact ⟨w.heap.size + 1, rfl, set5 hy _ _ _ _ _, set5_other hb (by omega) _ _ _ _ _, set5_below hB2 (by omega) _ _ _ _ _⟩
      | exact ⟨_, rfl, blk_new w' _, blk_alloc hb _, hB2.alloc hB2.size _⟩
  case rest =>
    obtain ⟨tb, rfl, hr, hn, hB⟩ := hcut
    clear hu huc
    obtain ⟨r0, r1, r2, r3, r4⟩ := blk5 hr
    obtain ⟨n0, n1, n2, n3, n4⟩ := blk5 hn
    have hno := fun w => numOk_any n w
    cases h2 : numOk n with
    | false =>
      rw [h2] at hno
      have H2 := Lib.hid h2
      clear h2
      go_wp2_with (go_at_call 135; refine (hno _).mono ?_; rintro e w2 ⟨rfl, rfl⟩)
      go_ret
      exact ⟨by rw [← He.out, portErr]; simp only [H2.out]; simp, hB⟩
    | true =>
      rw [h2] at hno
      have H2 := Lib.hid h2
      clear h2
      go_wp2_with (go_at_call 135; refine (hno _).mono ?_; rintro e w2 ⟨rfl, rfl⟩)
      go_ret
      exact ⟨by rw [← He.out, portErr]; simp only [H2.out]; simp, hB⟩

end Go.Proofs.YtdjjfjnkkgmadaaGreatDoor
