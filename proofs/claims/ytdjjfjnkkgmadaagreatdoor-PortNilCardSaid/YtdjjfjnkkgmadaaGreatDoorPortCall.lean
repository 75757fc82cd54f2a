/-
  replevinlaw37: who, and an operation's call over whatever its callees do (printed by tools/genportcall.py).
-/
import Derived.Test.YtdjjfjnkkgmadaaGreatDoorPortO
import Derived.Deep.RegionHeld3
import Derived.Deep.CutBlock
namespace Go.Proofs.YtdjjfjnkkgmadaaGreatDoor
open Go Go.RowKit

/-- The process of a number. -/
def whoF (n : Nat) : ByteArray := if n % 3 = 0 then ⟨#[49]⟩ else if n % 3 = 1 then ⟨#[49, 46, 49]⟩ else ⟨#[50]⟩

theorem whoF_size (n : Nat) : (whoF n).size ≤ maxLen := by
  unfold whoF
  split
  · decide
  · split <;> decide

set_option maxRecDepth 100000 in
theorem who_any (n : Nat) (hn : n < 256) (w : World) : Calls Tryz.prog 152 #[.int .u8 n] w fun e w' => e = .returned (.string (whoF n)) ∧ Below w.heap.size w w' := by
  have h3 : (n : Int) % 3 = ((n % 3 : Nat) : Int) := by omega
  have hr : n % 3 < 3 := by omega
  unfold whoF
  generalize n % 3 = r at *
  have hB := below_new1 w (.cells #[.string ⟨#[49]⟩, .string ⟨#[49, 46, 49]⟩, .string ⟨#[50]⟩] 45)
  obtain rfl | rfl | rfl : r = 0 ∨ r = 1 ∨ r = 2 := by omega
  all_goals
    go_enter Tryz.func152, Tryz.ntmps152
    go_wp2_with fail
    go_ret
    exact ⟨rfl, hB⟩

/-- An operation. -/
structure Oq where
  kd : Nat
  wh : Nat
  us : Nat
  n : Int
  ep : Int
  p : Pk
def Oq.cs (o : Oq) : Array Value := #[.int .u8 o.kd, .int .u8 o.wh, .int .u8 o.us, .int .i64 o.n, .int .i64 o.ep, .string o.p.f, .string o.p.b]
def Oq.v (o : Oq) : Value := .agg o.cs
structure Oq.ok (o : Oq) : Prop where
  kd : o.kd < 256
  wh : o.wh < 256
  us : o.us < 256
  f : o.p.f.size ≤ maxLen
  b : o.p.b.size ≤ maxLen
/-- What an operation returns. -/
structure Rq where
  p : Pk
  t : ByteArray
  e : Int
def Rq.cs (r : Rq) : Array Value := #[.string r.p.f, .string r.p.b, .string r.t, .int .i64 r.e]
def Rq.v (r : Rq) : Value := .agg r.cs
def Rq.zero : Rq := ⟨Pk.zero, ⟨#[]⟩, 0⟩

theorem below_new3' (w : World) (a b c : Obj) : Below w.heap.size w (((w.alloc a).alloc b).alloc c) := ((below_new2 w a b).alloc (by simp; omega) c)
theorem blk_new2' (w : World) (a b c : Obj) : (((w.alloc a).alloc b).alloc c).heap[w.heap.size + 1 + 1]? = some c := by
  have := blk_new ((w.alloc a).alloc b) c
  simpa using this

/-- What stays where only new blocks are turned. -/
def Stays (w : World) (P : World → Prop) : Prop := ∀ W W', P W → Fr (fun k => w.heap.size ≤ k) W W' → KeepT VT W W' → P W'

set_option maxRecDepth 100000 in
set_option maxHeartbeats 8000000 in
theorem opcall_0 (w : World) (o : Oq) (ho : o.ok) (hk : o.kd % 5 = 0) (vp : Value) (S : Nat → Prop) (hS : ∀ k, S k → k < w.heap.size) (P : World → Prop) (hP : Stays w P) (r : Rq) 
    (hc : ∀ W, Below w.heap.size w W → Calls Tryz.prog 75 #[vp, .string (whoF o.wh), .agg #[.int .i64 ((o.us : Int) % 3), .slice none 0 0], .int .i64 o.n, .int .i64 o.ep] W fun e W' => e = .returned (.int .i64 r.e) ∧ P W' ∧ Fr S W W') :
    Calls Tryz.prog 82 #[o.v, vp] w fun e w' => e = .returned (⟨Pk.zero, ⟨#[]⟩, r.e⟩ : Rq).v ∧ P w' ∧ Fr S w w' := by
  have hwho := who_any o.wh ho.wh
  have hB3 := below_new3' w (.cells o.cs 135) (.cells Rq.zero.cs 137) (.cells Rq.zero.cs 137)
  have h0 := blk_alloc (blk_alloc (blk_new w (.cells o.cs 135)) (.cells Rq.zero.cs 137)) (.cells Rq.zero.cs 137)
  have h1 := blk_alloc (blk_new1 w (.cells o.cs 135) (.cells Rq.zero.cs 137)) (.cells Rq.zero.cs 137)
  have h2 : _ = some (Obj.cells Rq.zero.cs 137) := blk_new2' w (.cells o.cs 135) (.cells Rq.zero.cs 137) (.cells Rq.zero.cs 137)
  have h5 : (o.kd : Int) % 5 = 0 := by omega
  have hz : Rq.zero.cs = #[.string ⟨#[]⟩, .string ⟨#[]⟩, .string ⟨#[]⟩, .int .i64 0] := rfl
  obtain ⟨hkd, hwh, hus, hpf, hpb⟩ := ho
  unfold Oq.v Rq.v
  unfold Oq.cs at *
  rw [hz] at hB3 h0 h1 h2
  clear hz
  obtain ⟨c0, c1, c2, c3, c4, c5, c6⟩ := blk7 h0
  generalize whoF o.wh = who at *
  unfold Rq.cs Pk.zero
  have hu3 : (o.us : Int) % 3 = ((o.us % 3 : Nat) : Int) := by omega
  have hu4 : IntKind.i64.wrap ((o.us : Int).tmod 3) = ((o.us % 3 : Nat) : Int) := by rw [Int.tmod_eq_emod_of_nonneg (by omega), IntWalk.i64_in _ (by omega)]; omega
  simp only [hu3] at hc
  generalize o.us % 3 = u3 at *
  generalize r.e = er at *
  go_enter Tryz.func82, Tryz.ntmps82
  go_upto_block 0 with fail
  generalize ((w.alloc (.cells #[.int .u8 o.kd, .int .u8 o.wh, .int .u8 o.us, .int .i64 o.n, .int .i64 o.ep, .string o.p.f, .string o.p.b] 135)).alloc (.cells #[.string ⟨#[]⟩, .string ⟨#[]⟩, .string ⟨#[]⟩, .int .i64 0] 137)).alloc (.cells #[.string ⟨#[]⟩, .string ⟨#[]⟩, .string ⟨#[]⟩, .int .i64 0] 137) = W3 at *
  have hlt0 := lt_of_block h0
  have hlt2 := lt_of_block h2
  simp only [h5]
  go_wp2_with fail
  go_region_held3 (fun wy => wy.cell? ⟨w.heap.size, 1, none⟩ = some (.int .u8 o.wh) ∧ wy.cell? ⟨w.heap.size, 2, none⟩ = some (.int .u8 o.us) ∧ wy.cell? ⟨w.heap.size, 3, none⟩ = some (.int .i64 o.n) ∧ wy.cell? ⟨w.heap.size, 4, none⟩ = some (.int .i64 o.ep)) (first | exact ⟨c1, c2, c3, c4⟩ | exact ⟨d1, d2, d3, d4⟩ | exact ⟨z1, z2, z3, z4⟩ | exact ⟨zs _ _ _, zs _ _ _, zs _ _ _, zs _ _ _⟩) (first | (go_at_call 152; refine (hwho _).mono ?_; rintro e wx ⟨rfl, hBx⟩; have hBy : Below W3.heap.size W3 wx := (by first | exact hBx | exact (Below.refl _ W3).drew.trans' hBx); have hx0 := hBy.heapS h0; obtain ⟨d0, d1, d2, d3, d4, d5, d6⟩ := blk7 hx0; have hltx : w.heap.size < wx.heap.size := lt_of_block hx0) | (go_at_call 75; refine (hc _ (hB3.trans' hBy)).mono ?_; rintro e wz ⟨rfl, hPz, hFz⟩; have hz2o := hFz.heap (fun h => by have := hS _ h; omega) (hBy.heapS h2); have hz0 := hFz.heap (fun h => by have := hS _ h; omega) hx0; have hz1 := hFz.heap (fun h => by have := hS _ h; omega) (hBy.heapS h1); have hz2 := hFz.heap (fun h => by have := hS _ h; omega) (hBy.heapS h2); obtain ⟨z0, z1, z2, z3, z4, z5, z6⟩ := blk7 hz0; obtain ⟨e0, e1, e2, e3⟩ := blk4 hz2; have efz : ∀ j, wz.frozen? ⟨w.heap.size + 1 + 1, j, none⟩ = false := (fun j => blk_free hz2 j); have hltz : w.heap.size + 1 + 1 < wz.heap.size := lt_of_block hz2; have zs := (fun (j i : Nat) (x : Value) => blk_cell (blk_set_other hz0 (a := ⟨w.heap.size + 1 + 1, j, none⟩) (show w.heap.size ≠ w.heap.size + 1 + 1 by omega) x) i); have hFw : Fr S w wz := (Fr.of_below (hB3.trans' hBy)).trans hFz))
  have hz2 := blk_set hz2 3 (.int .i64 er)
  have hz1 := blk_set_other (a := ⟨w.heap.size + 1 + 1, 3, none⟩) hz1 (by simp) (.int .i64 er)
  have hPf := hP _ _ hPz ((Fr.refl (fun k => w.heap.size ≤ k) wz).setCell (a := ⟨w.heap.size + 1 + 1, 3, none⟩) (.inl (by simp; omega)) (.int .i64 er)) ((KeepT.refl VT wz).setCell (a := ⟨w.heap.size + 1 + 1, 3, none⟩) hz2o (by simp [VT, StT]) _)
  have hFf := hFw.setCell (a := ⟨w.heap.size + 1 + 1, 3, none⟩) (.inr (by simp; omega)) (.int .i64 er)
  generalize wz.setCell ⟨w.heap.size + 1 + 1, 3, none⟩ (.int .i64 er) = W5 at *

  obtain ⟨q0, q1, q2, q3⟩ := blk4 hz2
  go_wp2_with (refine wpList_store_row rfl 137 _ _ rfl (w.heap.size + 1) #[.string ⟨#[]⟩, .string ⟨#[]⟩, .string ⟨#[]⟩, .int .i64 er] rfl rfl 137 _ hz1 (by kernel_rfl) rfl (by simp [Value.oneCell']) ?_)
  refine bodyPost_ret (v := .agg #[.string ⟨#[]⟩, .string ⟨#[]⟩, .string ⟨#[]⟩, .int .i64 er]) (results_cell_row rfl _ _ (w.heap.size + 1) 137 _ (0, 0) _ rfl (setRow_heap _ _ _ _ _ _ hz1) Tryz.underlying137 rfl (by kernel_rfl)) rfl ⟨rfl, hP _ _ hPf ?_ ?_, ?_⟩
  · exact (Fr.setRow1 _ (w.heap.size + 1) _).mono (fun k hk => by subst hk; omega)
  · exact KeepT.of_fr (Fr.setRow1 _ (w.heap.size + 1) _) (fun k c t f hk hc' => by subst hk; rw [hz1] at hc'; cases hc'; simp [VT, StT])
  · exact hFf.trans' (Fr.setRow1 _ (w.heap.size + 1) _) (fun i hi => .inr (by omega))

set_option maxRecDepth 100000 in
set_option maxHeartbeats 8000000 in
theorem opcall_1 (w : World) (o : Oq) (ho : o.ok) (hk : o.kd % 5 = 1) (vp : Value) (S : Nat → Prop) (hS : ∀ k, S k → k < w.heap.size) (P : World → Prop) (hP : Stays w P) (r : Rq) 
    (hc : ∀ W, Below w.heap.size w W → Calls Tryz.prog 81 #[vp, .string (whoF o.wh), .int .i64 o.n, .int .i64 o.ep] W fun e W' => e = .returned (.int .i64 r.e) ∧ P W' ∧ Fr S W W') :
    Calls Tryz.prog 82 #[o.v, vp] w fun e w' => e = .returned (⟨Pk.zero, ⟨#[]⟩, r.e⟩ : Rq).v ∧ P w' ∧ Fr S w w' := by
  have hwho := who_any o.wh ho.wh
  have hB3 := below_new3' w (.cells o.cs 135) (.cells Rq.zero.cs 137) (.cells Rq.zero.cs 137)
  have h0 := blk_alloc (blk_alloc (blk_new w (.cells o.cs 135)) (.cells Rq.zero.cs 137)) (.cells Rq.zero.cs 137)
  have h1 := blk_alloc (blk_new1 w (.cells o.cs 135) (.cells Rq.zero.cs 137)) (.cells Rq.zero.cs 137)
  have h2 : _ = some (Obj.cells Rq.zero.cs 137) := blk_new2' w (.cells o.cs 135) (.cells Rq.zero.cs 137) (.cells Rq.zero.cs 137)
  have h5 : (o.kd : Int) % 5 = 1 := by omega
  have hz : Rq.zero.cs = #[.string ⟨#[]⟩, .string ⟨#[]⟩, .string ⟨#[]⟩, .int .i64 0] := rfl
  obtain ⟨hkd, hwh, hus, hpf, hpb⟩ := ho
  unfold Oq.v Rq.v
  unfold Oq.cs at *
  rw [hz] at hB3 h0 h1 h2
  clear hz
  obtain ⟨c0, c1, c2, c3, c4, c5, c6⟩ := blk7 h0
  generalize whoF o.wh = who at *
  unfold Rq.cs Pk.zero
  generalize r.e = er at *
  go_enter Tryz.func82, Tryz.ntmps82
  go_upto_block 0 with fail
  generalize ((w.alloc (.cells #[.int .u8 o.kd, .int .u8 o.wh, .int .u8 o.us, .int .i64 o.n, .int .i64 o.ep, .string o.p.f, .string o.p.b] 135)).alloc (.cells #[.string ⟨#[]⟩, .string ⟨#[]⟩, .string ⟨#[]⟩, .int .i64 0] 137)).alloc (.cells #[.string ⟨#[]⟩, .string ⟨#[]⟩, .string ⟨#[]⟩, .int .i64 0] 137) = W3 at *
  have hlt0 := lt_of_block h0
  have hlt2 := lt_of_block h2
  simp only [h5]
  go_wp2_with fail
  go_region_held3 (fun wy => wy.cell? ⟨w.heap.size, 1, none⟩ = some (.int .u8 o.wh) ∧ wy.cell? ⟨w.heap.size, 3, none⟩ = some (.int .i64 o.n) ∧ wy.cell? ⟨w.heap.size, 4, none⟩ = some (.int .i64 o.ep)) (first | exact ⟨c1, c3, c4⟩ | exact ⟨d1, d3, d4⟩ | exact ⟨z1, z3, z4⟩ | exact ⟨zs _ _ _, zs _ _ _, zs _ _ _⟩) (first | (go_at_call 152; refine (hwho _).mono ?_; rintro e wx ⟨rfl, hBx⟩; have hBy : Below W3.heap.size W3 wx := (by first | exact hBx | exact (Below.refl _ W3).drew.trans' hBx); have hx0 := hBy.heapS h0; obtain ⟨d0, d1, d2, d3, d4, d5, d6⟩ := blk7 hx0; have hltx : w.heap.size < wx.heap.size := lt_of_block hx0) | (go_at_call 81; refine (hc _ (hB3.trans' hBy)).mono ?_; rintro e wz ⟨rfl, hPz, hFz⟩; have hz2o := hFz.heap (fun h => by have := hS _ h; omega) (hBy.heapS h2); have hz0 := hFz.heap (fun h => by have := hS _ h; omega) hx0; have hz1 := hFz.heap (fun h => by have := hS _ h; omega) (hBy.heapS h1); have hz2 := hFz.heap (fun h => by have := hS _ h; omega) (hBy.heapS h2); obtain ⟨z0, z1, z2, z3, z4, z5, z6⟩ := blk7 hz0; obtain ⟨e0, e1, e2, e3⟩ := blk4 hz2; have efz : ∀ j, wz.frozen? ⟨w.heap.size + 1 + 1, j, none⟩ = false := (fun j => blk_free hz2 j); have hltz : w.heap.size + 1 + 1 < wz.heap.size := lt_of_block hz2; have zs := (fun (j i : Nat) (x : Value) => blk_cell (blk_set_other hz0 (a := ⟨w.heap.size + 1 + 1, j, none⟩) (show w.heap.size ≠ w.heap.size + 1 + 1 by omega) x) i); have hFw : Fr S w wz := (Fr.of_below (hB3.trans' hBy)).trans hFz))
  have hz2 := blk_set hz2 3 (.int .i64 er)
  have hz1 := blk_set_other (a := ⟨w.heap.size + 1 + 1, 3, none⟩) hz1 (by simp) (.int .i64 er)
  have hPf := hP _ _ hPz ((Fr.refl (fun k => w.heap.size ≤ k) wz).setCell (a := ⟨w.heap.size + 1 + 1, 3, none⟩) (.inl (by simp; omega)) (.int .i64 er)) ((KeepT.refl VT wz).setCell (a := ⟨w.heap.size + 1 + 1, 3, none⟩) hz2o (by simp [VT, StT]) _)
  have hFf := hFw.setCell (a := ⟨w.heap.size + 1 + 1, 3, none⟩) (.inr (by simp; omega)) (.int .i64 er)
  generalize wz.setCell ⟨w.heap.size + 1 + 1, 3, none⟩ (.int .i64 er) = W5 at *

  obtain ⟨q0, q1, q2, q3⟩ := blk4 hz2
  go_wp2_with (refine wpList_store_row rfl 137 _ _ rfl (w.heap.size + 1) #[.string ⟨#[]⟩, .string ⟨#[]⟩, .string ⟨#[]⟩, .int .i64 er] rfl rfl 137 _ hz1 (by kernel_rfl) rfl (by simp [Value.oneCell']) ?_)
  refine bodyPost_ret (v := .agg #[.string ⟨#[]⟩, .string ⟨#[]⟩, .string ⟨#[]⟩, .int .i64 er]) (results_cell_row rfl _ _ (w.heap.size + 1) 137 _ (0, 0) _ rfl (setRow_heap _ _ _ _ _ _ hz1) Tryz.underlying137 rfl (by kernel_rfl)) rfl ⟨rfl, hP _ _ hPf ?_ ?_, ?_⟩
  · exact (Fr.setRow1 _ (w.heap.size + 1) _).mono (fun k hk => by subst hk; omega)
  · exact KeepT.of_fr (Fr.setRow1 _ (w.heap.size + 1) _) (fun k c t f hk hc' => by subst hk; rw [hz1] at hc'; cases hc'; simp [VT, StT])
  · exact hFf.trans' (Fr.setRow1 _ (w.heap.size + 1) _) (fun i hi => .inr (by omega))

set_option maxRecDepth 100000 in
set_option maxHeartbeats 8000000 in
theorem opcall_2 (w : World) (o : Oq) (ho : o.ok) (hk : o.kd % 5 = 2) (vp : Value) (S : Nat → Prop) (hS : ∀ k, S k → k < w.heap.size) (P : World → Prop) (hP : Stays w P) (r : Rq) 
    (hc : ∀ W, Below w.heap.size w W → Calls Tryz.prog 77 #[vp, .int .i64 o.n, .int .i64 o.ep, .agg #[.string o.p.small.f, .string o.p.small.b]] W fun e W' => e = .returned (.int .i64 r.e) ∧ P W' ∧ Fr S W W') :
    Calls Tryz.prog 82 #[o.v, vp] w fun e w' => e = .returned (⟨Pk.zero, ⟨#[]⟩, r.e⟩ : Rq).v ∧ P w' ∧ Fr S w w' := by
  have hsm := small_any o.p
  have hB3 := below_new3' w (.cells o.cs 135) (.cells Rq.zero.cs 137) (.cells Rq.zero.cs 137)
  have h0 := blk_alloc (blk_alloc (blk_new w (.cells o.cs 135)) (.cells Rq.zero.cs 137)) (.cells Rq.zero.cs 137)
  have h1 := blk_alloc (blk_new1 w (.cells o.cs 135) (.cells Rq.zero.cs 137)) (.cells Rq.zero.cs 137)
  have h2 : _ = some (Obj.cells Rq.zero.cs 137) := blk_new2' w (.cells o.cs 135) (.cells Rq.zero.cs 137) (.cells Rq.zero.cs 137)
  have h5 : (o.kd : Int) % 5 = 2 := by omega
  have hz : Rq.zero.cs = #[.string ⟨#[]⟩, .string ⟨#[]⟩, .string ⟨#[]⟩, .int .i64 0] := rfl
  obtain ⟨hkd, hwh, hus, hpf, hpb⟩ := ho
  unfold Oq.v Rq.v
  unfold Oq.cs at *
  rw [hz] at hB3 h0 h1 h2
  clear hz
  obtain ⟨c0, c1, c2, c3, c4, c5, c6⟩ := blk7 h0
  unfold Rq.cs Pk.zero
  unfold Pk.v at hsm
  generalize r.e = er at *
  generalize o.p.small.f = pf at *
  generalize o.p.small.b = pb at *
  go_enter Tryz.func82, Tryz.ntmps82
  go_upto_block 0 with fail
  generalize ((w.alloc (.cells #[.int .u8 o.kd, .int .u8 o.wh, .int .u8 o.us, .int .i64 o.n, .int .i64 o.ep, .string o.p.f, .string o.p.b] 135)).alloc (.cells #[.string ⟨#[]⟩, .string ⟨#[]⟩, .string ⟨#[]⟩, .int .i64 0] 137)).alloc (.cells #[.string ⟨#[]⟩, .string ⟨#[]⟩, .string ⟨#[]⟩, .int .i64 0] 137) = W3 at *
  have hlt0 := lt_of_block h0
  have hlt2 := lt_of_block h2
  simp only [h5]
  go_wp2_with fail
  go_region_held3 (fun wy => wy.cell? ⟨w.heap.size, 3, none⟩ = some (.int .i64 o.n) ∧ wy.cell? ⟨w.heap.size, 4, none⟩ = some (.int .i64 o.ep) ∧ wy.cell? ⟨w.heap.size, 5, none⟩ = some (.string o.p.f) ∧ wy.cell? ⟨w.heap.size, 6, none⟩ = some (.string o.p.b)) (first | exact ⟨c3, c4, c5, c6⟩ | exact ⟨d3, d4, d5, d6⟩ | exact ⟨z3, z4, z5, z6⟩ | exact ⟨zs _ _ _, zs _ _ _, zs _ _ _, zs _ _ _⟩) (first | (go_at_call 76; refine (hsm _).mono ?_; rintro e wx ⟨rfl, hBx⟩; have hBy : Below W3.heap.size W3 wx := (by first | exact hBx | exact (Below.refl _ W3).drew.trans' hBx); have hx0 := hBy.heapS h0; obtain ⟨d0, d1, d2, d3, d4, d5, d6⟩ := blk7 hx0; have hltx : w.heap.size < wx.heap.size := lt_of_block hx0) | (go_at_call 77; refine (hc _ (hB3.trans' hBy)).mono ?_; rintro e wz ⟨rfl, hPz, hFz⟩; have hz2o := hFz.heap (fun h => by have := hS _ h; omega) (hBy.heapS h2); have hz0 := hFz.heap (fun h => by have := hS _ h; omega) hx0; have hz1 := hFz.heap (fun h => by have := hS _ h; omega) (hBy.heapS h1); have hz2 := hFz.heap (fun h => by have := hS _ h; omega) (hBy.heapS h2); obtain ⟨z0, z1, z2, z3, z4, z5, z6⟩ := blk7 hz0; obtain ⟨e0, e1, e2, e3⟩ := blk4 hz2; have efz : ∀ j, wz.frozen? ⟨w.heap.size + 1 + 1, j, none⟩ = false := (fun j => blk_free hz2 j); have hltz : w.heap.size + 1 + 1 < wz.heap.size := lt_of_block hz2; have zs := (fun (j i : Nat) (x : Value) => blk_cell (blk_set_other hz0 (a := ⟨w.heap.size + 1 + 1, j, none⟩) (show w.heap.size ≠ w.heap.size + 1 + 1 by omega) x) i); have hFw : Fr S w wz := (Fr.of_below (hB3.trans' hBy)).trans hFz))
  have hz2 := blk_set hz2 3 (.int .i64 er)
  have hz1 := blk_set_other (a := ⟨w.heap.size + 1 + 1, 3, none⟩) hz1 (by simp) (.int .i64 er)
  have hPf := hP _ _ hPz ((Fr.refl (fun k => w.heap.size ≤ k) wz).setCell (a := ⟨w.heap.size + 1 + 1, 3, none⟩) (.inl (by simp; omega)) (.int .i64 er)) ((KeepT.refl VT wz).setCell (a := ⟨w.heap.size + 1 + 1, 3, none⟩) hz2o (by simp [VT, StT]) _)
  have hFf := hFw.setCell (a := ⟨w.heap.size + 1 + 1, 3, none⟩) (.inr (by simp; omega)) (.int .i64 er)
  generalize wz.setCell ⟨w.heap.size + 1 + 1, 3, none⟩ (.int .i64 er) = W5 at *

  obtain ⟨q0, q1, q2, q3⟩ := blk4 hz2
  go_wp2_with (refine wpList_store_row rfl 137 _ _ rfl (w.heap.size + 1) #[.string ⟨#[]⟩, .string ⟨#[]⟩, .string ⟨#[]⟩, .int .i64 er] rfl rfl 137 _ hz1 (by kernel_rfl) rfl (by simp [Value.oneCell']) ?_)
  refine bodyPost_ret (v := .agg #[.string ⟨#[]⟩, .string ⟨#[]⟩, .string ⟨#[]⟩, .int .i64 er]) (results_cell_row rfl _ _ (w.heap.size + 1) 137 _ (0, 0) _ rfl (setRow_heap _ _ _ _ _ _ hz1) Tryz.underlying137 rfl (by kernel_rfl)) rfl ⟨rfl, hP _ _ hPf ?_ ?_, ?_⟩
  · exact (Fr.setRow1 _ (w.heap.size + 1) _).mono (fun k hk => by subst hk; omega)
  · exact KeepT.of_fr (Fr.setRow1 _ (w.heap.size + 1) _) (fun k c t f hk hc' => by subst hk; rw [hz1] at hc'; cases hc'; simp [VT, StT])
  · exact hFf.trans' (Fr.setRow1 _ (w.heap.size + 1) _) (fun i hi => .inr (by omega))

set_option maxRecDepth 100000 in
set_option maxHeartbeats 8000000 in
theorem opcall_3 (w : World) (o : Oq) (ho : o.ok) (hk : o.kd % 5 = 3) (vp : Value) (S : Nat → Prop) (hS : ∀ k, S k → k < w.heap.size) (P : World → Prop) (hP : Stays w P) (r : Rq) 
    (hc : ∀ W, Below w.heap.size w W → Calls Tryz.prog 79 #[vp, .string (whoF o.wh), .int .i64 o.n, .int .i64 o.ep] W fun e W' => e = .returned (.tuple #[.agg #[.string r.p.f, .string r.p.b], .int .i64 r.e]) ∧ P W' ∧ Fr S W W') :
    Calls Tryz.prog 82 #[o.v, vp] w fun e w' => e = .returned (⟨r.p, ⟨#[]⟩, r.e⟩ : Rq).v ∧ P w' ∧ Fr S w w' := by
  have hwho := who_any o.wh ho.wh
  have hB3 := below_new3' w (.cells o.cs 135) (.cells Rq.zero.cs 137) (.cells Rq.zero.cs 137)
  have h0 := blk_alloc (blk_alloc (blk_new w (.cells o.cs 135)) (.cells Rq.zero.cs 137)) (.cells Rq.zero.cs 137)
  have h1 := blk_alloc (blk_new1 w (.cells o.cs 135) (.cells Rq.zero.cs 137)) (.cells Rq.zero.cs 137)
  have h2 : _ = some (Obj.cells Rq.zero.cs 137) := blk_new2' w (.cells o.cs 135) (.cells Rq.zero.cs 137) (.cells Rq.zero.cs 137)
  have h5 : (o.kd : Int) % 5 = 3 := by omega
  have hz : Rq.zero.cs = #[.string ⟨#[]⟩, .string ⟨#[]⟩, .string ⟨#[]⟩, .int .i64 0] := rfl
  obtain ⟨hkd, hwh, hus, hpf, hpb⟩ := ho
  unfold Oq.v Rq.v
  unfold Oq.cs at *
  rw [hz] at hB3 h0 h1 h2
  clear hz
  obtain ⟨c0, c1, c2, c3, c4, c5, c6⟩ := blk7 h0
  generalize whoF o.wh = who at *
  unfold Rq.cs
  generalize r.e = er at *
  generalize r.p.f = pf at *
  generalize r.p.b = pb at *
  go_enter Tryz.func82, Tryz.ntmps82
  go_upto_block 0 with fail
  generalize ((w.alloc (.cells #[.int .u8 o.kd, .int .u8 o.wh, .int .u8 o.us, .int .i64 o.n, .int .i64 o.ep, .string o.p.f, .string o.p.b] 135)).alloc (.cells #[.string ⟨#[]⟩, .string ⟨#[]⟩, .string ⟨#[]⟩, .int .i64 0] 137)).alloc (.cells #[.string ⟨#[]⟩, .string ⟨#[]⟩, .string ⟨#[]⟩, .int .i64 0] 137) = W3 at *
  have hlt0 := lt_of_block h0
  have hlt2 := lt_of_block h2
  simp only [h5]
  go_wp2_with fail
  go_region_held3 (fun wy => wy.cell? ⟨w.heap.size, 1, none⟩ = some (.int .u8 o.wh) ∧ wy.cell? ⟨w.heap.size, 3, none⟩ = some (.int .i64 o.n) ∧ wy.cell? ⟨w.heap.size, 4, none⟩ = some (.int .i64 o.ep)) (first | exact ⟨c1, c3, c4⟩ | exact ⟨d1, d3, d4⟩ | exact ⟨z1, z3, z4⟩ | go_keep) (first | (go_at_call 152; refine (hwho _).mono ?_; rintro e wx ⟨rfl, hBx⟩; have hBy : Below W3.heap.size W3 wx := (by first | exact hBx | exact (Below.refl _ W3).drew.trans' hBx); have hx0 := hBy.heapS h0; obtain ⟨d0, d1, d2, d3, d4, d5, d6⟩ := blk7 hx0; have hltx : w.heap.size < wx.heap.size := lt_of_block hx0) | (go_at_call 79; refine (hc _ (hB3.trans' hBy)).mono ?_; rintro e wz ⟨rfl, hPz, hFz⟩; have hz2o := hFz.heap (fun h => by have := hS _ h; omega) (hBy.heapS h2); have hz0 := hFz.heap (fun h => by have := hS _ h; omega) hx0; have hz1 := hFz.heap (fun h => by have := hS _ h; omega) (hBy.heapS h1); have hz2 := hFz.heap (fun h => by have := hS _ h; omega) (hBy.heapS h2); obtain ⟨z0, z1, z2, z3, z4, z5, z6⟩ := blk7 hz0; obtain ⟨e0, e1, e2, e3⟩ := blk4 hz2; have efz : ∀ j, wz.frozen? ⟨w.heap.size + 1 + 1, j, none⟩ = false := (fun j => blk_free hz2 j); have hltz : w.heap.size + 1 + 1 < wz.heap.size := lt_of_block hz2; have zs := (fun (j i : Nat) (x : Value) => blk_cell (blk_set_other hz0 (a := ⟨w.heap.size + 1 + 1, j, none⟩) (show w.heap.size ≠ w.heap.size + 1 + 1 by omega) x) i); have zss := (fun (j i : Nat) (x : Value) (j' : Nat) (x' : Value) => blk_cell (blk_set_other (blk_set_other hz0 (a := ⟨w.heap.size + 1 + 1, j, none⟩) (show w.heap.size ≠ w.heap.size + 1 + 1 by omega) x) (a := ⟨w.heap.size + 1 + 1, j', none⟩) (show w.heap.size ≠ w.heap.size + 1 + 1 by omega) x') i); have zt := (fun (j i : Nat) (x : Value) (j' : Nat) (x' : Value) (j2 : Nat) (x2 : Value) => blk_cell (blk_set_other (blk_set_other (blk_set_other hz0 (a := ⟨w.heap.size + 1 + 1, j, none⟩) (show w.heap.size ≠ w.heap.size + 1 + 1 by omega) x) (a := ⟨w.heap.size + 1 + 1, j', none⟩) (show w.heap.size ≠ w.heap.size + 1 + 1 by omega) x') (a := ⟨w.heap.size + 1 + 1, j2, none⟩) (show w.heap.size ≠ w.heap.size + 1 + 1 by omega) x2) i); have hFw : Fr S w wz := (Fr.of_below (hB3.trans' hBy)).trans hFz))
  have hz2 := blk_set (blk_set (blk_set hz2 0 (.string pf)) 1 (.string pb)) 3 (.int .i64 er)
  have hz1 := blk_set_other (a := ⟨w.heap.size + 1 + 1, 3, none⟩) (blk_set_other (a := ⟨w.heap.size + 1 + 1, 1, none⟩) (blk_set_other (a := ⟨w.heap.size + 1 + 1, 0, none⟩) hz1 (by simp) (.string pf)) (by simp) (.string pb)) (by simp) (.int .i64 er)
  have hPf := hP _ _ hPz ((((Fr.refl (fun k => w.heap.size ≤ k) wz).setCell (a := ⟨w.heap.size + 1 + 1, 0, none⟩) (.inl (by simp; omega)) (.string pf)).setCell (a := ⟨w.heap.size + 1 + 1, 1, none⟩) (.inl (by simp; omega)) (.string pb)).setCell (a := ⟨w.heap.size + 1 + 1, 3, none⟩) (.inl (by simp; omega)) (.int .i64 er)) ((((KeepT.refl VT wz).setCell (a := ⟨w.heap.size + 1 + 1, 0, none⟩) hz2o (by simp [VT, StT]) _).setCell (a := ⟨w.heap.size + 1 + 1, 1, none⟩) hz2o (by simp [VT, StT]) _).setCell (a := ⟨w.heap.size + 1 + 1, 3, none⟩) hz2o (by simp [VT, StT]) _)
  have hFf := ((hFw.setCell (a := ⟨w.heap.size + 1 + 1, 0, none⟩) (.inr (by simp; omega)) (.string pf)).setCell (a := ⟨w.heap.size + 1 + 1, 1, none⟩) (.inr (by simp; omega)) (.string pb)).setCell (a := ⟨w.heap.size + 1 + 1, 3, none⟩) (.inr (by simp; omega)) (.int .i64 er)
  generalize ((wz.setCell ⟨w.heap.size + 1 + 1, 0, none⟩ (.string pf)).setCell ⟨w.heap.size + 1 + 1, 1, none⟩ (.string pb)).setCell ⟨w.heap.size + 1 + 1, 3, none⟩ (.int .i64 er) = W5 at *

  obtain ⟨q0, q1, q2, q3⟩ := blk4 hz2
  go_wp2_with (refine wpList_store_row rfl 137 _ _ rfl (w.heap.size + 1) #[.string pf, .string pb, .string ⟨#[]⟩, .int .i64 er] rfl rfl 137 _ hz1 (by kernel_rfl) rfl (by simp [Value.oneCell']) ?_)
  refine bodyPost_ret (v := .agg #[.string pf, .string pb, .string ⟨#[]⟩, .int .i64 er]) (results_cell_row rfl _ _ (w.heap.size + 1) 137 _ (0, 0) _ rfl (setRow_heap _ _ _ _ _ _ hz1) Tryz.underlying137 rfl (by kernel_rfl)) rfl ⟨rfl, hP _ _ hPf ?_ ?_, ?_⟩
  · exact (Fr.setRow1 _ (w.heap.size + 1) _).mono (fun k hk => by subst hk; omega)
  · exact KeepT.of_fr (Fr.setRow1 _ (w.heap.size + 1) _) (fun k c t f hk hc' => by subst hk; rw [hz1] at hc'; cases hc'; simp [VT, StT])
  · exact hFf.trans' (Fr.setRow1 _ (w.heap.size + 1) _) (fun i hi => .inr (by omega))

set_option maxRecDepth 100000 in
set_option maxHeartbeats 8000000 in
theorem opcall_4 (w : World) (o : Oq) (ho : o.ok) (hk : o.kd % 5 = 4) (vp : Value) (S : Nat → Prop) (hS : ∀ k, S k → k < w.heap.size) (P : World → Prop) (hP : Stays w P) (q : Po) (hsm : ∀ x ∈ q.q, x.f.size ≤ maxLen ∧ x.b.size ≤ maxLen) (hq : q.err = 0)
    (hc : ∀ W, Below w.heap.size w W → Calls Tryz.prog 80 #[vp, .int .i64 o.n, .int .i64 o.ep] W fun e W' => ∃ qv, e = .returned (.tuple #[q.v qv, .int .i64 0]) ∧ W'.ownsRow W.heap.size 123 2 qv q.q.length (pvs q.q) ∧ P W' ∧ Fr S W W') :
    Calls Tryz.prog 82 #[o.v, vp] w fun e w' => e = .returned (⟨Pk.zero, bs q.enc, 0⟩ : Rq).v ∧ P w' ∧ Fr S w w' := by
  have hB3 := below_new3' w (.cells o.cs 135) (.cells Rq.zero.cs 137) (.cells Rq.zero.cs 137)
  have h0 := blk_alloc (blk_alloc (blk_new w (.cells o.cs 135)) (.cells Rq.zero.cs 137)) (.cells Rq.zero.cs 137)
  have h1 := blk_alloc (blk_new1 w (.cells o.cs 135) (.cells Rq.zero.cs 137)) (.cells Rq.zero.cs 137)
  have h2 : _ = some (Obj.cells Rq.zero.cs 137) := blk_new2' w (.cells o.cs 135) (.cells Rq.zero.cs 137) (.cells Rq.zero.cs 137)
  have h5 : (o.kd : Int) % 5 = 4 := by omega
  have hz : Rq.zero.cs = #[.string ⟨#[]⟩, .string ⟨#[]⟩, .string ⟨#[]⟩, .int .i64 0] := rfl
  obtain ⟨hkd, hwh, hus, hpf, hpb⟩ := ho
  have hlen := fun W v h => lencode_ok q v W h hq
  unfold Oq.v Rq.v Rq.cs Pk.zero
  unfold Oq.cs at *
  unfold Po.v at *
  rw [hz] at hB3 h0 h1 h2
  clear hz
  obtain ⟨c0, c1, c2, c3, c4, c5, c6⟩ := blk7 h0
  generalize bs q.enc = out at *
  go_enter Tryz.func82, Tryz.ntmps82
  go_upto_block 0 with fail
  generalize ((w.alloc (.cells #[.int .u8 o.kd, .int .u8 o.wh, .int .u8 o.us, .int .i64 o.n, .int .i64 o.ep, .string o.p.f, .string o.p.b] 135)).alloc (.cells #[.string ⟨#[]⟩, .string ⟨#[]⟩, .string ⟨#[]⟩, .int .i64 0] 137)).alloc (.cells #[.string ⟨#[]⟩, .string ⟨#[]⟩, .string ⟨#[]⟩, .int .i64 0] 137) = W3 at *
  have hlt0 := lt_of_block h0
  have hlt2 := lt_of_block h2
  simp only [h5]
  go_wp2_with fail
  refine (hc _ hB3).mono ?_
  rintro e wz ⟨qv, rfl, hown, hPz, hFz⟩
  obtain ⟨a7, c7, rfl⟩ := owns_slice hown
  clear hc
  have hns : ∀ k, w.heap.size ≤ k → ¬ S k := fun k hk h => by have := hS _ h; omega
  have hz1 := hFz.heap (hns _ (by omega)) h1
  have hz2 := hFz.heap (hns _ (by omega)) h2
  have hFw : Fr S w wz := (Fr.of_below hB3).trans hFz
  have hltz := lt_of_block hz2
  have hsz := hFw.size
  have g2 := blk_alloc (blk_set hz2 3 (.int .i64 0)) (.cells #[.string q.o, .int .i64 q.e, .int .i64 q.l, .slice a7 q.q.length c7] 56)
  have g1 := blk_alloc (blk_set_other (a := ⟨w.heap.size + 1 + 1, 3, none⟩) hz1 (by simp) (.int .i64 0)) (.cells #[.string q.o, .int .i64 q.e, .int .i64 q.l, .slice a7 q.q.length c7] 56)
  obtain ⟨e0, e1, e2, e3⟩ := blk4 hz2
  obtain ⟨y0, y1, y2, y3⟩ := blk4 g2
  have efz := fun j => blk_free hz2 j
  have efg := fun j => blk_free g2 j
  have hPa := hP _ _ hPz (((Fr.refl (fun k => w.heap.size ≤ k) wz).setCell (a := ⟨w.heap.size + 1 + 1, 3, none⟩) (.inl (by simp; omega)) (.int .i64 0)).alloc (.cells #[.string q.o, .int .i64 q.e, .int .i64 q.l, .slice a7 q.q.length c7] 56)) (((KeepT.refl VT wz).setCell (a := ⟨w.heap.size + 1 + 1, 3, none⟩) hz2 (by simp [VT, StT]) _).alloc _)
  have hFa := (hFw.setCell (a := ⟨w.heap.size + 1 + 1, 3, none⟩) (.inr (by simp; omega)) (.int .i64 0)).alloc (.cells #[.string q.o, .int .i64 q.e, .int .i64 q.l, .slice a7 q.q.length c7] 56)
  have hne : wz.heap.size ≠ w.heap.size + 1 + 1 := by omega
  have hXq := blk_new (wz.setCell ⟨w.heap.size + 1 + 1, 3, none⟩ (.int .i64 0)) (.cells #[.string q.o, .int .i64 q.e, .int .i64 q.l, .slice a7 q.q.length c7] 56)
  rw [World.size_setCell] at hXq
  obtain ⟨x0, x1, x2, x3⟩ := blk4 hXq
  have hs3 := (Fr.of_below (S := S) hB3).size
  have hown5 := owns_low hown ((Fr.refl (fun k => k = w.heap.size + 1 + 1) wz).setCell (a := ⟨w.heap.size + 1 + 1, 3, none⟩) (.inl rfl) (.int .i64 0)) (fun k hk => by omega)
  have hpk5 := (pks_of_owns hown5 hsm).below (below_new1 _ (.cells #[.string q.o, .int .i64 q.e, .int .i64 q.l, .slice a7 q.q.length c7] 56))
  go_wp2_with fail
  refine (hlen _ _ hpk5).mono ?_
  rintro e w6 ⟨rfl, hB6⟩
  have k2 := hB6.heapS g2
  have k1 := hB6.heapS g1
  have efk := fun j => blk_free k2 j
  have hltk := lt_of_block k2
  obtain ⟨u0, u1, u2, u3⟩ := blk4 k2
  have hPf := hP _ _ hPa (((Fr.of_below hB6)).setCell (a := ⟨w.heap.size + 1 + 1, 2, none⟩) (.inl (by simp; omega)) (.string out)) ((KeepT.of_below hB6).trans ((KeepT.refl VT w6).setCell (a := ⟨w.heap.size + 1 + 1, 2, none⟩) k2 (by simp [VT, StT]) _))
  have hFf := (hFa.trans (Fr.of_below hB6)).setCell (a := ⟨w.heap.size + 1 + 1, 2, none⟩) (.inr (by simp; omega)) (.string out)
  have hz2f := blk_set k2 2 (.string out)
  have hz1f := blk_set_other (a := ⟨w.heap.size + 1 + 1, 2, none⟩) k1 (by simp) (.string out)
  obtain ⟨r0, r1, r2, r3⟩ := blk4 hz2f
  go_wp2_with (refine wpList_store_row rfl 137 _ _ rfl (w.heap.size + 1) #[.string ⟨#[]⟩, .string ⟨#[]⟩, .string out, .int .i64 0] rfl rfl 137 _ hz1f (by kernel_rfl) rfl (by simp [Value.oneCell']) ?_)
  refine bodyPost_ret (v := .agg #[.string ⟨#[]⟩, .string ⟨#[]⟩, .string out, .int .i64 0]) (results_cell_row rfl _ _ (w.heap.size + 1) 137 _ (0, 0) _ rfl (setRow_heap _ _ _ _ _ _ hz1f) Tryz.underlying137 rfl (by kernel_rfl)) rfl ⟨rfl, hP _ _ hPf ?_ ?_, ?_⟩
  · exact (Fr.setRow1 _ (w.heap.size + 1) _).mono (fun k hk => by subst hk; omega)
  · exact KeepT.of_fr (Fr.setRow1 _ (w.heap.size + 1) _) (fun k c t f hk hc' => by subst hk; rw [hz1f] at hc'; cases hc'; simp [VT, StT])
  · exact hFf.trans' (Fr.setRow1 _ (w.heap.size + 1) _) (fun i hi => .inr (by omega))

set_option maxRecDepth 100000 in
set_option maxHeartbeats 8000000 in
theorem opcall_4b (w : World) (o : Oq) (ho : o.ok) (hk : o.kd % 5 = 4) (vp : Value) (S : Nat → Prop) (hS : ∀ k, S k → k < w.heap.size) (P : World → Prop) (hP : Stays w P) (q : Po) (er : Int) (he : er ≠ 0)
    (hc : ∀ W, Below w.heap.size w W → Calls Tryz.prog 80 #[vp, .int .i64 o.n, .int .i64 o.ep] W fun e W' => ∃ qv, e = .returned (.tuple #[q.v qv, .int .i64 er]) ∧ W'.ownsRow W.heap.size 123 2 qv q.q.length (pvs q.q) ∧ P W' ∧ Fr S W W') :
    Calls Tryz.prog 82 #[o.v, vp] w fun e w' => e = .returned (⟨Pk.zero, ⟨#[]⟩, er⟩ : Rq).v ∧ P w' ∧ Fr S w w' := by
  have hB3 := below_new3' w (.cells o.cs 135) (.cells Rq.zero.cs 137) (.cells Rq.zero.cs 137)
  have h0 := blk_alloc (blk_alloc (blk_new w (.cells o.cs 135)) (.cells Rq.zero.cs 137)) (.cells Rq.zero.cs 137)
  have h1 := blk_alloc (blk_new1 w (.cells o.cs 135) (.cells Rq.zero.cs 137)) (.cells Rq.zero.cs 137)
  have h2 : _ = some (Obj.cells Rq.zero.cs 137) := blk_new2' w (.cells o.cs 135) (.cells Rq.zero.cs 137) (.cells Rq.zero.cs 137)
  have h5 : (o.kd : Int) % 5 = 4 := by omega
  have hz : Rq.zero.cs = #[.string ⟨#[]⟩, .string ⟨#[]⟩, .string ⟨#[]⟩, .int .i64 0] := rfl
  obtain ⟨hkd, hwh, hus, hpf, hpb⟩ := ho
  unfold Oq.v Rq.v Rq.cs Pk.zero
  unfold Oq.cs at *
  unfold Po.v at *
  rw [hz] at hB3 h0 h1 h2
  clear hz
  obtain ⟨c0, c1, c2, c3, c4, c5, c6⟩ := blk7 h0
  go_enter Tryz.func82, Tryz.ntmps82
  go_upto_block 0 with fail
  generalize ((w.alloc (.cells #[.int .u8 o.kd, .int .u8 o.wh, .int .u8 o.us, .int .i64 o.n, .int .i64 o.ep, .string o.p.f, .string o.p.b] 135)).alloc (.cells #[.string ⟨#[]⟩, .string ⟨#[]⟩, .string ⟨#[]⟩, .int .i64 0] 137)).alloc (.cells #[.string ⟨#[]⟩, .string ⟨#[]⟩, .string ⟨#[]⟩, .int .i64 0] 137) = W3 at *
  have hlt0 := lt_of_block h0
  have hlt2 := lt_of_block h2
  simp only [h5]
  go_wp2_with fail
  refine (hc _ hB3).mono ?_
  rintro e wz ⟨qv, rfl, hown, hPz, hFz⟩
  obtain ⟨a7, c7, rfl⟩ := owns_slice hown
  clear hc
  have hns : ∀ k, w.heap.size ≤ k → ¬ S k := fun k hk h => by have := hS _ h; omega
  have hz1 := hFz.heap (hns _ (by omega)) h1
  have hz2 := hFz.heap (hns _ (by omega)) h2
  have hFw : Fr S w wz := (Fr.of_below hB3).trans hFz
  have hltz := lt_of_block hz2
  have hsz := hFw.size
  have g2 := blk_alloc (blk_set hz2 3 (.int .i64 er)) (.cells #[.string q.o, .int .i64 q.e, .int .i64 q.l, .slice a7 q.q.length c7] 56)
  have g1 := blk_alloc (blk_set_other (a := ⟨w.heap.size + 1 + 1, 3, none⟩) hz1 (by simp) (.int .i64 er)) (.cells #[.string q.o, .int .i64 q.e, .int .i64 q.l, .slice a7 q.q.length c7] 56)
  obtain ⟨e0, e1, e2, e3⟩ := blk4 hz2
  obtain ⟨y0, y1, y2, y3⟩ := blk4 g2
  have efz := fun j => blk_free hz2 j
  have efg := fun j => blk_free g2 j
  have hPa := hP _ _ hPz (((Fr.refl (fun k => w.heap.size ≤ k) wz).setCell (a := ⟨w.heap.size + 1 + 1, 3, none⟩) (.inl (by simp; omega)) (.int .i64 er)).alloc (.cells #[.string q.o, .int .i64 q.e, .int .i64 q.l, .slice a7 q.q.length c7] 56)) (((KeepT.refl VT wz).setCell (a := ⟨w.heap.size + 1 + 1, 3, none⟩) hz2 (by simp [VT, StT]) _).alloc _)
  have hFa := (hFw.setCell (a := ⟨w.heap.size + 1 + 1, 3, none⟩) (.inr (by simp; omega)) (.int .i64 er)).alloc (.cells #[.string q.o, .int .i64 q.e, .int .i64 q.l, .slice a7 q.q.length c7] 56)
  have hne : wz.heap.size ≠ w.heap.size + 1 + 1 := by omega
  have he' : (er == 0) = false := by simpa using he
  have hPf := hPa
  have hFf := hFa
  go_wp2_with (refine wpList_store_row rfl 137 _ _ rfl (w.heap.size + 1) #[.string ⟨#[]⟩, .string ⟨#[]⟩, .string ⟨#[]⟩, .int .i64 er] rfl rfl 137 _ g1 (by kernel_rfl) rfl (by simp [Value.oneCell']) ?_)
  refine bodyPost_ret (v := .agg #[.string ⟨#[]⟩, .string ⟨#[]⟩, .string ⟨#[]⟩, .int .i64 er]) (results_cell_row rfl _ _ (w.heap.size + 1) 137 _ (0, 0) _ rfl (setRow_heap _ _ _ _ _ _ g1) Tryz.underlying137 rfl (by kernel_rfl)) rfl ⟨rfl, hP _ _ hPf ?_ ?_, ?_⟩
  · exact (Fr.setRow1 _ (w.heap.size + 1) _).mono (fun k hk => by subst hk; omega)
  · exact KeepT.of_fr (Fr.setRow1 _ (w.heap.size + 1) _) (fun k c t f hk hc' => by subst hk; rw [g1] at hc'; cases hc'; simp [VT, StT])
  · exact hFf.trans' (Fr.setRow1 _ (w.heap.size + 1) _) (fun i hi => .inr (by omega))

end Go.Proofs.YtdjjfjnkkgmadaaGreatDoor
