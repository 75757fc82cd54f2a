/-
  codec.groups and codec.Parse: what they return is 'Cd.dec'.
-/
import Derived.Test.YtdjjfjnkkgmadaaGreatDoorBase
import Derived.Test.YtdjjfjnkkgmadaaGreatDoorCodec
import Derived.Lib.Hide
namespace Go.Proofs.YtdjjfjnkkgmadaaGreatDoor
open Go Go.RowKit

/-- What parsing returns, as Go's three results. -/
def Cd.PR.ret : Cd.PR → Value
  | .ok n s => .tuple #[.int .u64 n, .int .i64 s, .int .i64 0]
  | .err e => .tuple #[.int .u64 0, .int .i64 0, .int .i64 e]

/-- The rest's parse, behind k groups that made u. -/
def Cd.PR.shift (u k : Nat) : Cd.PR → Cd.PR
  | .ok n s => .ok (u + 128 ^ k * n) (k + s)
  | .err e => .err e

theorem shift_zero (p : Cd.PR) : p.shift 0 0 = p := by cases p <;> simp [Cd.PR.shift]

theorem shift_arith (u p d n : Nat) : u + p * (d + 128 * n) = u + p * d + p * 128 * n := by
  rw [Nat.mul_add, Nat.mul_assoc, Nat.add_assoc]

theorem shift_more (q : Cd.PR) (d u j : Nat) : (q.more d).shift u j = q.shift (u + 128 ^ j * d) (j + 1) := by
  cases q with
  | err e => rfl
  | ok n s =>
    have e1 := shift_arith u (128 ^ j) d n
    have e2 : j + (s + 1) = j + 1 + s := by omega
    simp only [Cd.PR.shift, Cd.PR.more]
    rw [e1, e2, Nat.pow_succ]

theorem dec_more (k : Nat) (first : Bool) (c : UInt8) (r : List UInt8) (u j : Nat) (hc : ¬ c.toNat < 128) :
    (Cd.dec (k + 1) first (c :: r)).shift u j = (Cd.dec k false r).shift (u + 128 ^ j * (c.toNat - 128)) (j + 1) := by
  rw [Cd.dec, if_neg hc, shift_more]

theorem or_shl (u k c : Nat) (hu : u < 128 ^ k) (hk : k ≤ 8) (hc : c < 256) :
    bits BinOp.or IntKind.u64 (u : Int) (IntKind.u64.wrap (IntKind.u64.wrap (bits BinOp.and IntKind.u8 (c : Int) 127) * 2 ^ (7 * k))) = ((u + 128 ^ k * (c % 128) : Nat) : Int) := by
  have e1 : bits BinOp.and IntKind.u8 (c : Int) 127 = ((c % 128 : Nat) : Int) := by
    have := bits_mask .u8 8 (by decide) wraps_u8 7 (by decide) (c : Int) (by omega) (by omega)
    simpa using this
  have e0 : (2 : Nat) ^ (7 * k) = 128 ^ k := by rw [Nat.pow_mul]
  have e0' : (2 : Int) ^ (7 * k) = ((128 ^ k : Nat) : Int) := by rw [← e0]; simp
  have hp : 128 ^ k ≤ 128 ^ 8 := Nat.pow_le_pow_right (by omega) hk
  have hp8 : (128 : Nat) ^ 8 = 72057594037927936 := by decide
  have e2 : IntKind.u64.wrap ((c % 128 : Nat) : Int) = ((c % 128 : Nat) : Int) := by rw [IntKind.wrap_u64]; omega
  have hm : 128 ^ k * (c % 128) < 9223372036854775808 := by
    have : 128 ^ k * (c % 128) ≤ 72057594037927936 * 127 := Nat.mul_le_mul (by omega) (by omega)
    omega
  have e3 : IntKind.u64.wrap (((c % 128 : Nat) : Int) * ((128 ^ k : Nat) : Int)) = ((128 ^ k * (c % 128) : Nat) : Int) := by
    rw [← Int.natCast_mul, Nat.mul_comm, IntKind.wrap_u64]; omega
  rw [e1, e2, e0', e3]
  rw [bits_or_u64_nat _ _ (by omega) (by omega)]
  congr 1
  rw [← e0] at hu ⊢
  rw [Nat.or_comm, Nat.mul_comm, ← Nat.shiftLeft_eq, ← Nat.shiftLeft_add_eq_or_of_lt hu, Nat.shiftLeft_eq, Nat.mul_comm, Nat.add_comm]


section
variable {l : List UInt8} {k n : Nat}

theorem gr_nine (H : Hid (Cd.dec 9 true l = (Cd.dec (9 - k) (k == 0) (l.drop k)).shift n k)) (h : ((k : Int) == 9) = true) : Cd.dec 9 true l = .err 3 := by
  have : k = 9 := by have := beq_iff_eq.1 h; omega
  subst this
  rw [H.out]
  rfl

theorem drop_cons (hk : k < l.length) : l.drop k = l[k] :: l.drop (k + 1) := List.drop_eq_getElem_cons hk

theorem gr_zero (H : Hid (Cd.dec 9 true l = (Cd.dec (9 - k) (k == 0) (l.drop k)).shift n k)) (hk : k < l.length) (h9 : k ≤ 8) (h0 : l[k].toNat = 0) (hp : 0 < k) : Cd.dec 9 true l = .err 3 := by
  rw [H.out, drop_cons hk]
  obtain ⟨m, hm⟩ : ∃ m, 9 - k = m + 1 := ⟨8 - k, by omega⟩
  have hb : (k == 0) = false := by simp; omega
  rw [hm, hb, Cd.dec, if_pos (by omega), if_pos ⟨h0, rfl⟩]
  rfl

theorem gr_ok (x : Int) (H : Hid (Cd.dec 9 true l = (Cd.dec (9 - k) (k == 0) (l.drop k)).shift n k)) (hk : k < l.length) (h9 : k ≤ 8) (hn : n < 128 ^ k) (hx : x = l[k].toNat) (h1 : l[k].toNat < 128) (hz : ¬ (l[k].toNat = 0 ∧ 0 < k)) :
    Ending.returned (.tuple #[.int .u64 (bits BinOp.or IntKind.u64 (n : Int) (IntKind.u64.wrap (IntKind.u64.wrap (bits BinOp.and IntKind.u8 x 127) * 2 ^ (7 * k)))), .int .i64 ((k : Int) + 1), .int .i64 0]) = .returned (Cd.dec 9 true l).ret := by
  subst hx
  rw [or_shl n k _ hn h9 (UInt8.toNat_lt _), H.out, drop_cons hk]
  obtain ⟨m, hm⟩ : ∃ m, 9 - k = m + 1 := ⟨8 - k, by omega⟩
  have hz' : ¬ (l[k].toNat = 0 ∧ (k == 0) = false) := by
    rintro ⟨h, h'⟩
    exact hz ⟨h, by simp at h'; omega⟩
  rw [hm, Cd.dec, if_pos h1, if_neg hz', Nat.mod_eq_of_lt h1]
  rfl

theorem gr_more (H : Hid (Cd.dec 9 true l = (Cd.dec (9 - k) (k == 0) (l.drop k)).shift n k)) (hk : k < l.length) (h9 : k ≤ 8) (hn : n < 128 ^ k) (h1 : 128 ≤ l[k].toNat) :
    n + 128 ^ k * (l[k].toNat % 128) < 128 ^ (k + 1) ∧ Hid (Cd.dec 9 true l = (Cd.dec (9 - (k + 1)) (k + 1 == 0) (l.drop (k + 1))).shift (n + 128 ^ k * (l[k].toNat % 128)) (k + 1)) := by
  have hlt := l[k].toNat_lt
  have e : l[k].toNat % 128 = l[k].toNat - 128 := by omega
  constructor
  · have : 128 ^ k * (l[k].toNat % 128) ≤ 128 ^ k * 127 := Nat.mul_le_mul (Nat.le_refl _) (by omega)
    rw [Nat.pow_succ]; omega
  · show _ = _
    obtain ⟨m, hm⟩ : ∃ m, 9 - k = m + 1 := ⟨8 - k, by omega⟩
    rw [H.out, drop_cons hk, hm, dec_more _ _ _ _ _ _ (by omega), e, show 9 - (k + 1) = m by omega]
    rfl

theorem gr_end (H : Hid (Cd.dec 9 true l = (Cd.dec (9 - k) (k == 0) (l.drop k)).shift n k)) (hk : k ≤ l.length) (hk' : l.length ≤ k) (h9 : k ≤ 9) : Cd.dec 9 true l = .err (if 9 ≤ l.length then 3 else 28) := by
  rw [H.out, List.drop_of_length_le hk']
  by_cases h : 9 ≤ l.length
  · rw [if_pos h, show 9 - k = 0 by omega]; rfl
  · obtain ⟨m, hm⟩ : ∃ m, 9 - k = m + 1 := ⟨8 - k, by omega⟩
    rw [if_neg h, hm]; rfl
end

theorem dec_nil : Cd.dec 9 true [] = .err 28 := rfl

set_option maxRecDepth 100000 in
set_option maxHeartbeats 1000000 in
theorem groups_any (v : Value) (l : List UInt8) (w : World) (hl : l.length ≤ maxLen) (hv : Bytes w v l) :
    Calls Tryz.prog 200 #[v, .int .i64 9] w fun e w' => e = .returned (Cd.dec 9 true l).ret ∧ w' = w := by
  unfold maxLen at hl
  rcases hv with ⟨rfl, rfl⟩ | ⟨b, off, cap, cs, t, f, rfl, hcap, hm, hh, _, hc⟩
  · go_enter Tryz.func200, Tryz.ntmps200
    go_wp2
    refine (wp_loop_rounds 1 ?_)
    rw [rounds_succ]
    go_wp2
    go_ret3
    exact ⟨rfl, rfl⟩
  · have hcell : ∀ i, i < l.length → w.cell? ⟨b, off + i, none⟩ = some (.int .u8 (l.getD i 0).toNat) := fun i hi => by
      rw [← hc i hi]; simp [World.cell?, hh]
    have Hc := Lib.hid hcell
    clear hcell hc hh
    go_enter Tryz.func200, Tryz.ntmps200
    go_wp2
    go_loop [7, 12] (fun u i => ∃ (k : Nat) (n : Nat), k ≤ l.length ∧ k ≤ 9 ∧ n < 128 ^ k ∧ i = .int .i64 k ∧ u = .int .u64 n ∧ Hid (Cd.dec 9 true l = (Cd.dec (9 - k) (k == 0) (l.drop k)).shift n k)) (fun _ i => l.length - (intOf i).toNat)
    case atStart => exact ⟨0, 0, Nat.zero_le _, Nat.zero_le _, by omega, rfl, rfl, by show _ = _; simp [shift_zero]⟩
    case round =>
      obtain ⟨k, n, hk, hk9, hn, rfl, rfl, Hd⟩ := hrel
      have hcell : k < l.length → w.cell? ⟨b, off + k, none⟩ = some (.int .u8 (l.getD k 0).toNat) := fun h => Hc.out k h
      go_wp2
      · go_ret3
        rw [gr_nine Hd ‹_›]
        exact ⟨rfl, rfl⟩
      · go_ret3
        rw [gr_zero Hd ‹_› (by have := beq_eq_false_iff_ne.1 ‹((k : Int) == 9) = false›; omega) ‹_› ‹_›]
        exact ⟨rfl, rfl⟩
      · go_ret3
        refine ⟨gr_ok _ Hd ‹_› (by have := beq_eq_false_iff_ne.1 ‹((k : Int) == 9) = false›; omega) hn (by simp [*]) (by omega) (fun h => ‹¬ 0 < k› h.2), rfl⟩
      · go_ret3
        refine ⟨gr_ok _ Hd ‹_› (by have := beq_eq_false_iff_ne.1 ‹((k : Int) == 9) = false›; omega) hn rfl (by omega) (fun h => ‹¬ _› h.1), rfl⟩
      · have h9 : k ≤ 8 := by have := beq_eq_false_iff_ne.1 ‹((k : Int) == 9) = false›; omega
        obtain ⟨g1, g2⟩ := gr_more Hd ‹_› h9 hn (by omega)
        refine ⟨⟨k + 1, _, by omega, by omega, g1, by go_num, ?_, g2⟩, by simp [intOf]; omega⟩
        rw [or_shl n k _ hn h9 (UInt8.toNat_lt _)]
      · go_ret3
        rw [gr_end Hd hk (by omega) hk9, if_pos (by omega)]
        exact ⟨rfl, rfl⟩
      · go_ret3
        rw [gr_end Hd hk (by omega) hk9, if_neg (by omega)]
        exact ⟨rfl, rfl⟩

/-- Parse's results. -/
def Cd.PR.retP : Cd.PR → Value
  | .ok n s => .tuple #[.int .i64 n, .int .i64 s, .int .i64 0]
  | .err e => .tuple #[.int .i64 0, .int .i64 0, .int .i64 e]

set_option maxRecDepth 100000 in
theorem parse_any (v : Value) (l : List UInt8) (w : World) (hl : l.length ≤ maxLen) (hv : Bytes w v l) :
    Calls Tryz.prog 168 #[v] w fun e w' => e = .returned (Cd.dec 9 true l).retP ∧ w = w' := by
  have hg := groups_any v l w hl hv
  have hd : ∀ n s, Cd.dec 9 true l = .ok n s → n < 9223372036854775808 := fun n s h => (Cd.dec_ok 9 true l n s h).1
  generalize Cd.dec 9 true l = q at *
  cases q with
  | err e =>
    simp only [Cd.PR.ret, Cd.PR.retP] at *
    clear hv
    go_enter Tryz.func168, Tryz.ntmps168
    go_wp2_with (go_at_call 200; refine hg.mono ?_; rintro e w' ⟨rfl, rfl⟩)
    go_ret3
    exact ⟨rfl, rfl⟩
  | ok n s =>
    have hn := hd n s rfl
    simp only [Cd.PR.ret, Cd.PR.retP] at *
    clear hd hv
    go_enter Tryz.func168, Tryz.ntmps168
    go_wp2_with (go_at_call 200; refine hg.mono ?_; rintro e w' ⟨rfl, rfl⟩)
    go_ret3
    exact ⟨rfl, rfl⟩

end Go.Proofs.YtdjjfjnkkgmadaaGreatDoor
