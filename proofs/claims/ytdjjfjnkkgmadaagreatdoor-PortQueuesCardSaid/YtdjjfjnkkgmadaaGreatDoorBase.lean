/-
  The words of this seat's walks: frames (what a call leaves as it was), byte slices, blocks of cells.
-/
import Derived.Test.YtdjjfjnkkgmadaaGreatDoorProg
import Derived.WalkKit
import Derived.Deep.QuietTactic
import Derived.BigQuiet
import Derived.KernelRfl
import Derived.Lib.Hide
namespace Go.Proofs.YtdjjfjnkkgmadaaGreatDoor
open Go Go.RowKit

/-- Blocks that lay, but those of S, lie as they lay. -/
structure Fr (S : Nat → Prop) (w w' : World) : Prop where
  os : w'.os = w.os
  tape : w'.tape = w.tape
  output : w'.output = w.output
  size : w.heap.size ≤ w'.heap.size
  block : ∀ k, k < w.heap.size → ¬ S k → w'.heap[k]? = w.heap[k]?

section
variable {S T : Nat → Prop} {w w' w'' : World}

theorem Fr.refl (S : Nat → Prop) (w : World) : Fr S w w := ⟨rfl, rfl, rfl, Nat.le_refl _, fun _ _ _ => rfl⟩
theorem Fr.trans (h : Fr S w w') (k : Fr S w' w'') : Fr S w w'' :=
  ⟨k.os.trans h.os, k.tape.trans h.tape, k.output.trans h.output, Nat.le_trans h.size k.size, fun i hi hs => (k.block i (Nat.lt_of_lt_of_le hi h.size) hs).trans (h.block i hi hs)⟩
/-- What is turned later may lie among what was made meanwhile. -/
theorem Fr.trans' (h : Fr S w w') (k : Fr T w' w'') (hT : ∀ i, T i → S i ∨ w.heap.size ≤ i) : Fr S w w'' :=
  ⟨k.os.trans h.os, k.tape.trans h.tape, k.output.trans h.output, Nat.le_trans h.size k.size, fun i hi hs =>
    (k.block i (Nat.lt_of_lt_of_le hi h.size) (fun ht => (hT i ht).elim hs (fun hle => by omega))).trans (h.block i hi hs)⟩
theorem Fr.mono (h : Fr S w w') (hST : ∀ i, S i → T i) : Fr T w w' := ⟨h.os, h.tape, h.output, h.size, fun i hi hs => h.block i hi (fun hS => hs (hST i hS))⟩
theorem Fr.of_below (h : Below w.heap.size w w') : Fr S w w' := ⟨h.os, h.tape, h.output, h.size, fun i hi _ => h.block i hi⟩
theorem Fr.below (h : Fr S w w') {B : Nat} (hB : B ≤ w.heap.size) (hS : ∀ i, S i → B ≤ i) : Below B w w' :=
  ⟨h.os, h.tape, h.output, h.size, fun i hi => h.block i (by omega) (fun hs => by have := hS i hs; omega)⟩
theorem Fr.alloc (h : Fr S w w') (o : Obj) : Fr S w (w'.alloc o) :=
  ⟨h.os, h.tape, h.output, by rw [World.size_alloc]; exact Nat.le_succ_of_le h.size, fun i hi hs => (Below.heap_alloc w' o i (Nat.lt_of_lt_of_le hi h.size)).trans (h.block i hi hs)⟩
theorem Fr.drew (h : Fr S w w') : Fr S w w'.drew := ⟨h.os, h.tape, h.output, h.size, h.block⟩
theorem Fr.drewN (h : Fr S w w') (n : Nat) : Fr S w (w'.drewN n) := ⟨h.os, h.tape, h.output, h.size, h.block⟩
theorem Fr.setCell (h : Fr S w w') {a : Addr} (ha : S a.block ∨ w.heap.size ≤ a.block) (v : Value) : Fr S w (w'.setCell a v) :=
  ⟨h.os, h.tape, h.output, by rw [World.size_setCell]; exact h.size, fun i hi hs =>
    (Below.heap_setCell w' a v i (fun e => ha.elim (fun hS => hs (e ▸ hS)) (fun hle => by omega))).trans (h.block i hi hs)⟩
theorem Fr.heap (h : Fr S w w') {k : Nat} (hs : ¬ S k) {o : Obj} (ho : w.heap[k]? = some o) : w'.heap[k]? = some o :=
  (h.block k (lt_of_block ho) hs).trans ho
theorem Fr.cell (h : Fr S w w') {a : Addr} (hs : ¬ S a.block) {v : Value} (hv : w.cell? a = some v) : w'.cell? a = some v :=
  (World.cell?_of_block (h.block a.block (World.block_lt_of_cell? w a hv) hs)).trans hv
theorem Fr.frozen (h : Fr S w w') {a : Addr} (hs : ¬ S a.block) (hlt : a.block < w.heap.size) : w'.frozen? a = w.frozen? a :=
  World.frozen?_of_block (h.block a.block hlt hs)
end

theorem _root_.Go.RowKit.Below.heap' {B : Nat} {w w' : World} (h : Below B w w') {k : Nat} (hk : k < B) {o : Obj} (ho : w.heap[k]? = some o) : w'.heap[k]? = some o := (h.block k hk).trans ho
theorem _root_.Go.RowKit.Below.heapS {w w' : World} (h : Below w.heap.size w w') {k : Nat} {o : Obj} (ho : w.heap[k]? = some o) : w'.heap[k]? = some o := (h.block k (lt_of_block ho)).trans ho
theorem _root_.Go.RowKit.Below.drewN {B : Nat} {a w : World} (h : Below B a w) (n : Nat) : Below B a (w.drewN n) := ⟨h.os, h.tape, h.output, h.size, h.block⟩
/-- A later world over a later heap. -/
theorem _root_.Go.RowKit.Below.trans' {w w' w'' : World} (h : Below w.heap.size w w') (k : Below w'.heap.size w' w'') : Below w.heap.size w w'' := h.trans (k.mono h.size)

/-! ### blocks of cells -/
section
variable {w : World} {b : Nat} {cs : Array Value} {t : TypeId}
theorem blk_cell (h : w.heap[b]? = some (.cells cs t (0, 0))) (j : Nat) : w.cell? ⟨b, j, none⟩ = cs[j]? := by simp [World.cell?, h]
theorem blk_free (h : w.heap[b]? = some (.cells cs t (0, 0))) (j : Nat) : w.frozen? ⟨b, j, none⟩ = false := by simp [World.frozen?, h]
theorem blk_set (h : w.heap[b]? = some (.cells cs t (0, 0))) (j : Nat) (v : Value) : (w.setCell ⟨b, j, none⟩ v).heap[b]? = some (.cells (cs.setIfInBounds j v) t (0, 0)) := by
  have hlt := lt_of_block h
  have h' : w.heap[b] = .cells cs t (0, 0) := by simpa [Array.getElem?_eq_getElem hlt] using h
  show (w.heap.modify b _)[b]? = _
  rw [Array.getElem?_eq_getElem (by simpa using hlt), Array.getElem_modify_self, h']
  rfl
theorem setCell_self {w : World} {a : Addr} {v : Value} (h : w.cell? a = some v) : w.setCell a v = w := by
  unfold World.setCell
  congr 1
  apply Array.ext_getElem?
  intro k
  rw [Array.getElem?_modify]
  split
  · rename_i hk
    subst hk
    unfold World.cell? at h
    cases hh : w.heap[a.block]? with
    | none => rfl
    | some o =>
      rw [hh] at h
      cases o with
      | cells c t f =>
        simp only at h
        have hs : a.spot.isSome = false := by
          cases hs : a.spot.isSome with
          | false => rfl
          | true => simp [hs] at h
        simp only [hs, Bool.false_eq_true, ↓reduceIte] at h
        simp only [Option.map_some, hs, Bool.false_eq_true, ↓reduceIte]
        congr 2
        apply Array.ext_getElem?
        intro j
        rw [Array.getElem?_setIfInBounds]
        split
        · rename_i hj
          subst hj
          split
          · exact h.symm
          · rename_i hlt
            rw [Array.getElem?_eq_none (by omega)]
        · rfl
      | _ => simp
  · rfl
theorem blk_set_other {o : Obj} (h : w.heap[b]? = some o) {a : Addr} (hne : b ≠ a.block) (v : Value) : (w.setCell a v).heap[b]? = some o :=
  (Below.heap_setCell w a v b hne).trans h
theorem blk_alloc {o : Obj} (h : w.heap[b]? = some o) (o' : Obj) : (w.alloc o').heap[b]? = some o := (Below.heap_alloc w o' b (lt_of_block h)).trans h
theorem blk_new (w : World) (o : Obj) : (w.alloc o).heap[w.heap.size]? = some o := heap_alloc_new w o
end

/-- Blocks whose elements' type is one of T lie as they lay. -/
def KeepT (T : TypeId → Prop) (w w' : World) : Prop := ∀ (k : Nat) (c : Array Value) (t : TypeId) (f : Nat × Nat), w.heap[k]? = some (Obj.cells c t f) → T t → w'.heap[k]? = some (Obj.cells c t f)

section
variable {T : TypeId → Prop} {w w' w'' : World}
theorem KeepT.refl (T : TypeId → Prop) (w : World) : KeepT T w w := fun _ _ _ _ h _ => h
theorem KeepT.trans (h : KeepT T w w') (k : KeepT T w' w'') : KeepT T w w'' := fun i c t f hi ht => k i c t f (h i c t f hi ht) ht
theorem KeepT.of_below (h : Below w.heap.size w w') : KeepT T w w' := fun _ _ _ _ hi _ => h.heapS hi
theorem KeepT.of_fr {S : Nat → Prop} (h : Fr S w w') (hS : ∀ (k : Nat) (c : Array Value) (t : TypeId) (f : Nat × Nat), S k → w.heap[k]? = some (Obj.cells c t f) → ¬ T t) : KeepT T w w' :=
  fun k c t f hi ht => h.heap (fun hs => hS k c t f hs hi ht) hi
theorem KeepT.alloc (h : KeepT T w w') (o : Obj) : KeepT T w (w'.alloc o) := fun k c t f hi ht => blk_alloc (h k c t f hi ht) o
theorem KeepT.drewN (h : KeepT T w w') (n : Nat) : KeepT T w (w'.drewN n) := h
theorem KeepT.setCell (h : KeepT T w w') {a : Addr} {cs : Array Value} {t0 : TypeId} {f0 : Nat × Nat} (hb : w.heap[a.block]? = some (.cells cs t0 f0)) (h0 : ¬ T t0) (v : Value) : KeepT T w (w'.setCell a v) := by
  intro k c t f hi ht
  refine blk_set_other (h k c t f hi ht) (fun e => ?_) v
  subst e
  rw [hb] at hi
  cases hi
  exact h0 ht
end

/-! ### slices of bytes -/

/-- The cells of bytes. -/
def bv (l : List UInt8) : List Value := l.map fun c => .int .u8 c.toNat

/-- The slice value v shows the bytes l. -/
def Bytes (w : World) (v : Value) (l : List UInt8) : Prop :=
  (v = .slice none 0 0 ∧ l = []) ∨ ∃ (b off cap : Nat) (cs : Array Value) (t : TypeId) (f : Nat × Nat), v = .slice (some ⟨b, off, none⟩) l.length cap ∧ l.length ≤ cap ∧ cap ≤ maxLen ∧
    w.heap[b]? = some (Obj.cells cs t f) ∧ t = 5 ∧ ∀ i, i < l.length → cs[off + i]? = some (.int .u8 (l.getD i 0).toNat)

theorem Bytes.kept {T : TypeId → Prop} {w w' : World} {v : Value} {l : List UInt8} (h : Bytes w v l) (hk : KeepT T w w') (h5 : T 5) : Bytes w' v l := by
  rcases h with h | ⟨b, off, cap, cs, t, f, h1, h2, h3, h4, rfl, h6⟩
  · exact .inl h
  · exact .inr ⟨b, off, cap, cs, 5, f, h1, h2, h3, hk _ _ _ _ h4 h5, rfl, h6⟩

theorem Bytes.below {w w' : World} {v : Value} {l : List UInt8} (h : Bytes w v l) (hk : Below w.heap.size w w') : Bytes w' v l :=
  h.kept (T := fun _ => True) (KeepT.of_below hk) trivial

theorem bv_length (l : List UInt8) : (bv l).length = l.length := by simp [bv]

/-- What the call owns it can read. -/
theorem bytes_of_owns {w : World} {base : Nat} {v : Value} {n : Nat} {l : List UInt8} (h : w.ownsRow base 5 1 v n (bv l)) : Bytes w v l := by
  obtain ⟨h1, h2⟩ := h
  rw [bv_length, Nat.mul_one] at h1
  rcases h2 with ⟨hv, hn⟩ | ⟨g, cap, cur, hv, _, hg, hle, hm, hsz, htake⟩
  · subst hn
    exact .inl ⟨hv, List.eq_nil_of_length_eq_zero h1⟩
  · subst h1
    refine .inr ⟨g, 0, cap, cur, 5, (0, 0), hv, hle, hm, hg, rfl, ?_⟩
    intro i hi
    have e : (bv l)[i]? = some (.int .u8 (l.getD i 0).toNat) := by
      simp [bv, List.getElem?_eq_getElem hi]
    rw [← htake, List.getElem?_take] at e
    rw [if_pos (by omega)] at e
    simpa using e

/-- The string of bytes. -/
def bs (l : List UInt8) : ByteArray := ⟨l.toArray⟩
theorem bs_list (l : List UInt8) : (bs l).data.toList = l := by simp [bs]
theorem bs_toList (l : List UInt8) : (bs l).toList = l := by rw [ByteArray.toList_eq, bs_list]
theorem bs_size (l : List UInt8) : (bs l).size = l.length := by simp [bs, ByteArray.size]
theorem bs_of (s : ByteArray) : bs s.data.toList = s := by simp [bs]
theorem bs_inj {a b : List UInt8} (h : bs a = bs b) : a = b := by rw [← bs_list a, h, bs_list]
theorem bs_nil : bs [] = ByteArray.mk #[] := rfl

theorem Bytes.len {w : World} {v : Value} {l : List UInt8} (h : Bytes w v l) : ∃ a cap, v = .slice a l.length cap ∧ l.length ≤ cap := by
  rcases h with ⟨rfl, rfl⟩ | ⟨b, off, cap, cs, t, f, rfl, h2, _⟩
  · exact ⟨none, 0, rfl, Nat.le_refl _⟩
  · exact ⟨_, cap, rfl, h2⟩

theorem addr_add (b off k : Nat) : (⟨b, off, none⟩ : Addr).add k = ⟨b, off + k, none⟩ := by unfold Addr.add; split <;> simp_all

theorem sizeOf5 (w : World) : (sizeOf 5).run Tryz.prog w = .ok 1 w := by kernel_rfl
theorem elem165 : Tryz.prog.elem 165 = 5 := by kernel_rfl
theorem u165 : Tryz.prog.underlying 165 = some (.slice (Tryz.prog.elem 165)) := by rw [elem165]; exact Tryz.underlying165

theorem slice_bytes {w : World} {v : Value} {l : List UInt8} (h : Bytes w v l) (i j : Nat) (hij : i ≤ j) (hj : j ≤ l.length) :
    ∃ v', Bytes w v' ((l.drop i).take (j - i)) ∧ (∃ a cap, v' = .slice a (j - i) cap) ∧ ∀ wx, (Instr.slice 165 v (some (.int .i64 i)) (some (.int .i64 j)) none).run Tryz.prog wx = .ok v' wx := by
  rcases h with ⟨rfl, rfl⟩ | ⟨b, off, cap, cs, t, f, rfl, h2, h3, h4, h5, h6⟩
  · have hj0 : j = 0 := by simpa using hj
    subst hj0
    have hi0 : i = 0 := by omega
    subst hi0
    exact ⟨.slice none 0 0, .inl ⟨rfl, rfl⟩, ⟨none, 0, rfl⟩, fun wx => by
      rw [run_slice_lh wx 165 none 0 0 u165 .i64 .i64 _ _ (by omega) (by omega) (by omega), elem165, sizeOf5]; rfl⟩
  · refine ⟨.slice (some ⟨b, if cap = i then off else off + i, none⟩) (j - i) (cap - i), .inr ⟨b, if cap = i then off else off + i, cap - i, cs, t, f, ?_, ?_, by omega, h4, h5, ?_⟩, ⟨_, _, rfl⟩, fun wx => ?_⟩
    · simp only [List.length_take, List.length_drop]
      congr 1
      omega
    · simp only [List.length_take, List.length_drop]
      omega
    · intro q hq
      simp only [List.length_take, List.length_drop] at hq
      have hne : cap ≠ i := by omega
      rw [if_neg hne, Nat.add_assoc, h6 (i + q) (by omega)]
      simp [List.getD, List.getElem?_drop, show q < j - i by omega]
    · rw [run_slice_lh wx 165 _ _ cap u165 .i64 .i64 _ _ (by omega) (by omega) (by omega), elem165, sizeOf5]
      simp only [Result.andThen, sliced, Int.toNat_natCast, Nat.mul_one, Option.map_some, addr_add]
      by_cases e : cap = i
      · rw [if_pos e, if_pos e]
      · rw [if_neg e, if_neg e]

theorem slice_bytes_l {w : World} {v : Value} {l : List UInt8} (h : Bytes w v l) (i : Nat) (hi : i ≤ l.length) :
    ∃ v', Bytes w v' (l.drop i) ∧ ∀ wx, (Instr.slice 165 v (some (.int .i64 i)) none none).run Tryz.prog wx = .ok v' wx := by
  obtain ⟨v', h1, _, h2⟩ := slice_bytes h i l.length hi (Nat.le_refl _)
  refine ⟨v', by rwa [List.take_of_length_le (by simp)] at h1, fun wx => ?_⟩
  rw [← h2 wx]
  obtain ⟨a, cap, rfl, hc⟩ := h.len
  rw [run_slice_l wx 165 a l.length cap u165 .i64 _ (by omega) (by omega),
    run_slice_lh wx 165 a l.length cap u165 .i64 .i64 _ _ (by omega) (by omega) (by omega)]
  simp

theorem conv_bytes {w : World} {v : Value} {l : List UInt8} (h : Bytes w v l) : (convert 165 9 v).run Tryz.prog w = .ok (.string (bs l)) w := by
  rcases h with ⟨rfl, rfl⟩ | ⟨b, off, cap, cs, t, f, rfl, h2, h3, h4, h5, h6⟩
  · exact run_convert_bytes_nil w 165 5 Tryz.underlying165 Tryz.underlying5 0 0 9 Tryz.underlying9
  · have hcell : ∀ i, i < l.length → w.cell? ⟨b, off + i, none⟩ = some (.int .u8 ((l.map fun c => (c.toNat : Int)).getD i 0)) := fun i hi => by
      rw [show w.cell? ⟨b, off + i, none⟩ = cs[off + i]? by simp [World.cell?, h4], h6 i hi]
      simp [List.getD, List.getElem?_eq_getElem hi]
    have := run_convert_bytes_arg (P := Tryz.prog) w 165 5 Tryz.underlying165 Tryz.underlying5 b off l.length cap (l.map fun c => (c.toNat : Int)) (by simp)
      hcell 9 Tryz.underlying9
    refine this.trans (congrArg (fun s => Result.ok (Value.string s) w) ?_)
    have e : ∀ a b : ByteArray, a.data.toList = b.data.toList → a = b := fun a b h => by
      cases a; cases b; simp at h; rw [h]
    apply e
    rw [strOfNums_data, bs_list, List.map_map]
    conv => rhs; rw [← List.map_id l]
    apply List.map_congr_left
    intro c _
    simp

end Go.Proofs.YtdjjfjnkkgmadaaGreatDoor
