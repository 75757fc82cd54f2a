/-
  object.Word.
-/
import Derived.Test.YtdjjfjnkkgmadaaGreatDoorBase
namespace Go.Proofs.YtdjjfjnkkgmadaaGreatDoor
open Go Go.RowKit

/-- A byte that may stand in a word. -/
def okByte (c : UInt8) : Bool := 33 ≤ c.toNat && c.toNat ≤ 126 && c.toNat != 47

/-- A word. -/
def word (l : List UInt8) : Bool := !l.isEmpty && decide (l.length ≤ 32) && l.all okByte

theorem odd_yes (r : Int) (w : World) (h : r ≤ 32 ∨ 126 < r ∨ r = 47) :
    Calls Tryz.prog 185 #[.int .i32 r] w fun e w' => e = .returned (.bool true) ∧ w = w' := by
  by_cases h1 : r ≤ 32
  · clear h
    go_enter Tryz.func185, Tryz.ntmps185
    go_wp2
    go_ret
    exact ⟨rfl, rfl⟩
  · by_cases h2 : 126 < r
    · clear h
      go_enter Tryz.func185, Tryz.ntmps185
      go_wp2
      go_ret
      exact ⟨rfl, rfl⟩
    · obtain rfl : r = 47 := by omega
      clear h
      go_enter Tryz.func185, Tryz.ntmps185
      go_wp2
      go_ret
      exact ⟨rfl, rfl⟩

theorem odd_no (r : Int) (w : World) (h1 : 32 < r) (h2 : r ≤ 126) (h3 : r ≠ 47) :
    Calls Tryz.prog 185 #[.int .i32 r] w fun e w' => e = .returned (.bool false) ∧ w = w' := by
  have h3' : (r == 47) = false := by simpa using h3
  have h1' : decide (r ≤ 32) = false := by simp; omega
  have h2' : decide (126 < r) = false := by simp; omega
  go_enter Tryz.func185, Tryz.ntmps185
  go_wp2
  go_ret
  exact ⟨by simp, rfl⟩

theorem decode_big (s : ByteArray) (k : Nat) (hk : k < s.size) (h : 128 ≤ (s[k]).toNat) : 128 ≤ (Utf8.decode s k).1 := by
  have e : s.get! (k + 0) = s[k]'hk := by
    show s.get! k = _
    simp [ByteArray.get!, getElem!_pos, hk]
    rfl
  unfold Utf8.decode
  simp only [e]
  rw [if_neg (by omega)]
  split
  · split
    · assumption
    · simp [Utf8.runeError]
  · split
    · split
      · rename_i hc
        simp at hc
        omega
      · simp [Utf8.runeError]
    · split
      · split
        · rename_i hc
          simp at hc
          omega
        · simp [Utf8.runeError]
      · simp [Utf8.runeError]

theorem run_next_any {P : Program} (w : World) (s : ByteArray) (pos : Nat) (ty : TypeId) (h : pos < s.size) :
    (Instr.next (.pointer (some ⟨w.heap.size, 0, none⟩)) true ty).run P (w.iter s pos) =
      .ok (.tuple #[.bool true, .int .i64 pos, .int .i32 (Utf8.decode s pos).1]) (w.iter s (pos + (Utf8.decode s pos).2)) := by
  simp only [Instr.next, getObj, setObj, Sem.run_bind, Sem.run, World.iter_heap, Result.andThen, h, if_true, World.iter_set]
  simp [goInt]

def iterPos (w : World) (b : Nat) : Nat := match w.heap[b]? with | some (.stringIter _ p) => p | _ => 0
theorem iterPos_iter (w : World) (s : ByteArray) (k : Nat) : iterPos (w.iter s k) w.heap.size = k := by simp [iterPos, World.iter_heap]

theorem bd (s : ByteArray) (k : Nat) (h : k < s.size) : s.data.toList[k]'(by rw [Array.length_toList]; exact h) = s[k] := rfl

set_option maxRecDepth 100000 in
set_option maxHeartbeats 2000000 in
theorem indexOdd_any (s : ByteArray) (_hs : s.size ≤ maxLen) (w : World) :
    Calls Tryz.prog 225 #[.string s, .func (.func 185) #[] #[], .bool true] w fun e w' => Below w.heap.size w w' ∧
      ∃ r : Int, e = .returned (.int .i64 r) ∧ (s.data.toList.all okByte = true → r = -1) ∧ (s.data.toList.all okByte = false → 0 ≤ r) := by
  unfold maxLen at _hs
  go_enter Tryz.func225, Tryz.ntmps225
  go_wp2_with fail
  go_loopw [] (fun wr => ∃ k : Nat, wr = w.iter s k ∧ k ≤ s.size ∧ Hid (∀ i (_ : i < k) (h' : i < s.size), okByte s[i] = true)) (fun wr => s.size - iterPos wr w.heap.size)
  case atStart => exact ⟨0, rfl, Nat.zero_le _, fun i h => absurd h (by omega)⟩
  case round =>
    obtain ⟨k, rfl, hk, Hok⟩ := hrel
    by_cases hlt : k < s.size
    · have hn := run_next_any (P := Tryz.prog) w s k 0 hlt
      by_cases hok : okByte s[k] = true
      · have hok2 := hok
        simp only [okByte, Bool.and_eq_true, decide_eq_true_eq, bne_iff_ne] at hok2
        obtain ⟨⟨h33, h126⟩, h47⟩ := hok2
        rw [decode_ascii s k hlt (by omega)] at hn
        have ho := fun w => odd_no (s[k].toNat : Int) w (by omega) (by omega) (by omega)
        have Hok' := Lib.hid hok
        clear hok
        go_wp2_with (go_at_call 185; refine (ho _).mono ?_; rintro e w' ⟨rfl, rfl⟩)
        refine ⟨⟨k + 1, rfl, by omega, ?_⟩, by rw [iterPos_iter, iterPos_iter]; omega⟩
        intro i hi h'
        by_cases e : i = k
        · subst e; exact Hok'.out
        · exact Hok.out i (by omega) h'
      · have hall : s.data.toList.all okByte = false := by
          rw [List.all_eq_false]
          exact ⟨s[k], List.getElem_mem (by rw [Array.length_toList]; exact hlt), hok⟩
        have Hall := Lib.hid hall
        have hodd : (((Utf8.decode s k).1 : Int) ≤ 32 ∨ 126 < ((Utf8.decode s k).1 : Int) ∨ ((Utf8.decode s k).1 : Int) = 47) := by
          by_cases h128 : (s[k]).toNat < 128
          · rw [decode_ascii s k hlt h128]
            simp only [okByte, Bool.and_eq_true, decide_eq_true_eq, bne_iff_ne] at hok
            simp only
            omega
          · have := decode_big s k hlt (by omega)
            omega
        have ho := fun w => odd_yes ((Utf8.decode s k).1 : Int) w hodd
        generalize (Utf8.decode s k).1 = rr at *
        generalize (Utf8.decode s k).2 = wd at *
        clear hok hall hodd
        go_wp2_with (go_at_call 185; refine (ho _).mono ?_; rintro e w' ⟨rfl, rfl⟩)
        go_ret
        exact ⟨(Below.refl _ _).alloc (Nat.le_refl _) _, _, rfl, (fun h => by rw [Hall.out] at h; cases h), fun _ => by omega⟩
    · have hk' : k = s.size := by omega
      have hall : s.data.toList.all okByte = true := by
        rw [List.all_eq_true]
        intro c hc
        obtain ⟨i, hi, rfl⟩ := List.getElem_of_mem hc
        rw [Array.length_toList] at hi
        exact Hok.out i (by rw [hk']; exact hi) hi
      have Hall := Lib.hid hall
      have hn := run_next_end (P := Tryz.prog) w s k 0 hlt
      clear hall hk'
      go_wp2_with fail
      go_ret
      exact ⟨(Below.refl _ _).alloc (Nat.le_refl _) _, _, rfl, fun _ => rfl, (fun h => by rw [Hall.out] at h; cases h)⟩

set_option maxRecDepth 100000 in
theorem indexFunc_any (s : ByteArray) (hs : s.size ≤ maxLen) (w : World) :
    Calls Tryz.prog 213 #[.string s, .func (.func 185) #[] #[]] w fun e w' => Below w.heap.size w w' ∧
      ∃ r : Int, e = .returned (.int .i64 r) ∧ (s.data.toList.all okByte = true → r = -1) ∧ (s.data.toList.all okByte = false → 0 ≤ r) := by
  have h := indexOdd_any s hs w
  go_enter Tryz.func213, Tryz.ntmps213
  go_wp2_with (go_at_call 225; refine h.mono ?_; rintro e w' ⟨hB, r, rfl, h1, h2⟩)
  go_ret
  exact ⟨hB, r, rfl, h1, h2⟩

set_option maxRecDepth 100000 in
theorem containsOdd_any (s : ByteArray) (hs : s.size ≤ maxLen) (w : World) :
    Calls Tryz.prog 186 #[.string s, .func (.func 185) #[] #[]] w fun e w' => Below w.heap.size w w' ∧ e = .returned (.bool (!s.data.toList.all okByte)) := by
  have h := indexFunc_any s hs w
  cases hall : s.data.toList.all okByte with
  | true =>
    have h' : Calls Tryz.prog 213 #[.string s, .func (.func 185) #[] #[]] w fun e w' => e = .returned (.int .i64 (-1)) ∧ Below w.heap.size w w' :=
      h.mono fun e w' ⟨hB, r, he, h1, _⟩ => ⟨by rw [he, h1 hall], hB⟩
    clear h hall
    go_enter Tryz.func186, Tryz.ntmps186
    go_wp2_with (go_at_call 213; refine h'.mono ?_; rintro e w' ⟨rfl, hB⟩)
    go_ret
    exact ⟨hB, rfl⟩
  | false =>
    have h' : Calls Tryz.prog 213 #[.string s, .func (.func 185) #[] #[]] w fun e w' => ∃ r : Int, e = .returned (.int .i64 r) ∧ 0 ≤ r ∧ Below w.heap.size w w' :=
      h.mono fun e w' ⟨hB, r, he, _, h2⟩ => ⟨r, he, h2 hall, hB⟩
    clear h hall
    go_enter Tryz.func186, Tryz.ntmps186
    go_wp2_with (go_at_call 213; refine h'.mono ?_; rintro e w' ⟨r, rfl, hr, hB⟩)
    go_ret
    exact ⟨hB, by simp⟩

set_option maxRecDepth 100000 in
theorem word_any (s : ByteArray) (hs : s.size ≤ maxLen) (w : World) :
    Calls Tryz.prog 150 #[.string s] w fun e w' => Below w.heap.size w w' ∧ e = .returned (.bool (word s.data.toList)) := by
  have h := containsOdd_any s hs w
  unfold word
  by_cases h0 : s.data.toList = []
  · have e1 : s.toList = [] := by rw [ByteArray.toList_eq]; exact h0
    have e2 : (!s.data.toList.isEmpty && decide (s.data.toList.length ≤ 32) && s.data.toList.all okByte) = false := by rw [h0]; rfl
    rw [e2]
    clear h h0 e2
    go_enter Tryz.func150, Tryz.ntmps150
    go_wp2_with fail
    go_ret
    exact ⟨Below.refl _ _, rfl⟩
  · have e1 : ¬ s.toList = [] := by rw [ByteArray.toList_eq]; exact h0
    have e2 : (!s.data.toList.isEmpty) = true := by simpa using h0
    have e3 : s.data.toList.length = s.size := Array.length_toList
    have e4 : (s.toList == []) = false := by simpa using e1
    rw [e2, e3]
    by_cases h32 : s.size ≤ 32
    · rw [decide_eq_true h32]
      have Hgoal := Lib.hid e2
      clear h0 e2 e3
      go_enter Tryz.func150, Tryz.ntmps150
      go_wp2_with (go_at_call 186; refine h.mono ?_; rintro e w' ⟨hB, rfl⟩)
      go_ret
      exact ⟨hB, by simp⟩
    · rw [decide_eq_false h32]
      clear h h0 e2 e3
      go_enter Tryz.func150, Tryz.ntmps150
      go_wp2_with fail
      go_ret
      exact ⟨Below.refl _ _, rfl⟩

end Go.Proofs.YtdjjfjnkkgmadaaGreatDoor
