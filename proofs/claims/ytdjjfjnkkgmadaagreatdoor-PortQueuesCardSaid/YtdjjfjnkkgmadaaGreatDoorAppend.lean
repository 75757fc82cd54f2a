/-
  Appends of bytes to a slice of the call's own; codec.natural; codec.NewReader.
-/
import Derived.Test.YtdjjfjnkkgmadaaGreatDoorReaderM
import Derived.Laws.AppendOwnNone
namespace Go.Proofs.YtdjjfjnkkgmadaaGreatDoor
open Go Go.RowKit

theorem info5 : (Tryz.prog.info? 5).map (fun i => (i.zero, i.size, i.bytes)) = some (some (.int .u8 0), 1, 1) := by kernel_rfl

theorem owns_slice {w : World} {base e size : Nat} {v : Value} {n : Nat} {xs : List Value} (h : w.ownsRow base e size v n xs) : ∃ (a : Option Addr) (cap : Nat), v = .slice a n cap := by
  rcases h.2 with ⟨rfl, rfl⟩ | ⟨g, cap, cur, rfl, _⟩
  · exact ⟨none, 0, rfl⟩
  · exact ⟨_, cap, rfl⟩

/-- Where the slice lies behind an append: in its own block still, or in a new one. -/
theorem run_append_own2 {P : Program} (w : World) (base : Nat) (t ty e : TypeId) (i : TypeInfo) (z : Value) (size bytes : Nat) (ht : P.underlying t = some (.slice e)) (hi : P.info? e = some i) (hz : i.zero = some z)
    (hsize : i.size = size) (hby : i.bytes = bytes) (hzs : z.cells.size = size) (hsz : 0 < size)
    (v : Value) (n : Nat) (xs : List Value) (hown : w.ownsRow base e size v n xs)
    (a : Addr) (m c : Nat) (news : List Value) (hl : news.length = m * size) (hnews : ∀ j u, news[j]? = some u → w.cell? (a.add j) = some u) (h1 : ∀ u ∈ news, u.oneCell' = true)
    (h63 : n + m ≤ maxLen) (hbytes : (n + m) * bytes ≤ 140737488355328) (hbase : base ≤ w.heap.size) :
    ∃ (a' : Option Addr) (c' : Nat) (w' : World), (Builtin.append_ #[t, t] ty #[v, .slice (some a) m c]).run P w = .ok (.slice a' (n + m) c') w' ∧ w'.ownsRow base e size (.slice a' (n + m) c') (n + m) (xs ++ news) ∧ w.grownBy w' v.ownBlock ∧
      ((Value.slice a' (n + m) c').ownBlock = v.ownBlock ∨ (Value.slice a' (n + m) c').ownBlock = some w.heap.size) := by
  obtain ⟨v', w', hr, ho, hg, _⟩ := run_append_own (P := P) w base t ty e i z size bytes ht hi hz hsize hby hzs hsz v n xs hown a m c news hl hnews h1 h63 hbytes hbase
  obtain ⟨a', c', rfl⟩ := owns_slice ho
  refine ⟨a', c', w', hr, ho, hg, ?_⟩
  have hsmall : n + m ≤ 9223372036854775807 := by simp only [maxLen] at h63; omega
  subst hsize
  subst hby
  rcases hown.2 with ⟨rfl, rfl⟩ | ⟨g, cap, cur, rfl, hbg, hgg, hnc, hcm, hcs, htake⟩
  · have hx : xs = [] := List.eq_nil_of_length_eq_zero (by simpa using hown.1)
    subst hx
    by_cases hm : m = 0
    · subst hm
      rcases ho.2 with ⟨hv, _⟩ | ⟨g', cap', cur', hv, _, _, _, _, _, _⟩
      · left; rw [hv]
      · have hn : news = [] := List.eq_nil_of_length_eq_zero (by simpa using hl)
        subst hn
        have hr' : (Builtin.append_ #[t, t] ty #[.slice none 0 0, .slice (some a) 0 c]).run P w = .ok (.slice none 0 0) w := by
          simp [Builtin.append_, run_underlying ht, sizeOf, typeInfo, hi, Builtin.lenOf, Builtin.firstCells, loadCells, loadCellsFrom]
        rw [hr'] at hr
        injection hr with hr _
        left; rw [← hr]
    · have hr' := run_append_nil (P := P) w t ty e i z ht hi hz a m c news hl hnews (by omega) (by omega) (by have hb := hbytes; simp only [Nat.zero_add] at hb; omega)
      simp only [Nat.zero_add] at hr ⊢
      rw [hr'] at hr
      injection hr with hr _
      right; rw [← hr]; rfl
  · by_cases hroom : n + m ≤ cap
    · have hfit : n * i.size + news.length ≤ cur.size := by rw [hl, hcs, ← Nat.add_mul]; exact Nat.mul_le_mul_right _ hroom
      have hr' := run_append_room (P := P) w t ty e i ht hi g n cap cur hgg a m c news hl hnews h1 hroom hfit
      rw [hr'] at hr
      injection hr with hr _
      left; rw [← hr]; rfl
    · have holds : ∀ j u, xs[j]? = some u → w.cell? ((⟨g, 0, none⟩ : Addr).add j) = some u := hown.cells (g := g) rfl
      have hr' := run_append_grow (P := P) w t ty e i z ht hi hz ⟨g, 0, none⟩ n cap xs hown.1 holds a m c news hl hnews (by omega) (by omega) (growslice_fits (by omega) hbytes)
      rw [hr'] at hr
      injection hr with hr _
      right; rw [← hr]; rfl

theorem wpList_append_own2 {P : Program} {w : World} {ops : Array Oper} {rest : List Oper} {o : Oper} {a : Act} {Q : Exit → Act → World → Prop} (hgd : o.guard = none) (s x : Operand) (t : TypeId)
    (ho : o.op = .call { callee := .builtin .append, args := #[s, x], argTypes := #[t, t] })
    (base : Nat) (e : TypeId) (i : TypeInfo) (z : Value) (size bytes : Nat) (ht : P.underlying t = some (.slice e)) (hi : P.info? e = some i) (hz : i.zero = some z)
    (hsize : i.size = size) (hby : i.bytes = bytes) (hzs : z.cells.size = size) (hsz : 0 < size)
    (v : Value) (n : Nat) (xs : List Value) (hs : a.eval s = v) (hown : w.ownsRow base e size v n xs)
    (ad : Addr) (m c : Nat) (news : List Value) (hx : a.eval x = .slice (some ad) m c) (hl : news.length = m * size) (hnews : ∀ j u, news[j]? = some u → w.cell? (ad.add j) = some u) (h1 : ∀ u ∈ news, u.oneCell' = true)
    (h63 : n + m ≤ maxLen) (hbytes : (n + m) * bytes ≤ 140737488355328) (hbase : base ≤ w.heap.size)
    (h : ∀ (a' : Option Addr) (c' : Nat) (w' : World), w'.ownsRow base e size (.slice a' (n + m) c') (n + m) (xs ++ news) → w.grownBy w' v.ownBlock →
      ((Value.slice a' (n + m) c').ownBlock = v.ownBlock ∨ (Value.slice a' (n + m) c').ownBlock = some w.heap.size) → wpList P ops Q rest (a.put o.dst (.slice a' (n + m) c')) w') : wpList P ops Q (o :: rest) a w := by
  refine wpList_plain hgd fun K hK => ?_
  obtain ⟨a', c', w', hr, h2, h3, h4⟩ := run_append_own2 (P := P) w base t o.type e i z size bytes ht hi hz hsize hby hzs hsz v n xs hown ad m c news hl hnews h1 h63 hbytes hbase
  unfold Oper.wp execOp
  simp only [ho, resolve, invoke, builtin, Sem.run_bind, Sem.run_pure, Result.andThen_ok, List.map_toArray, List.map_cons, List.map_nil, hs, hx, hr]
  exact hK _ _ (h a' c' w' h2 h3 h4)

/-- 'append(s, x...)' of bytes, s the call's own. -/
theorem app_bytes {ops : Array Oper} {rest : List Oper} {o : Oper} {a : Act} {w : World} {Q : Exit → Act → World → Prop} (hgd : o.guard = none) (s x : Operand)
    (ho : o.op = .call { callee := .builtin .append, args := #[s, x], argTypes := #[165, 165] }) (base : Nat) (v vx : Value) (l0 l1 : List UInt8)
    (hs : a.eval s = v) (hown : w.ownsRow base 5 1 v l0.length (bv l0)) (hx : a.eval x = vx) (hv : Bytes w vx l1) (hb : l0.length + l1.length ≤ 140737488355328) (hbase : base ≤ w.heap.size)
    (h : ∀ (a' : Option Addr) (c' : Nat) (w' : World), w'.ownsRow base 5 1 (.slice a' (l0 ++ l1).length c') (l0 ++ l1).length (bv (l0 ++ l1)) → w.grownBy w' v.ownBlock →
      ((Value.slice a' (l0 ++ l1).length c').ownBlock = v.ownBlock ∨ (Value.slice a' (l0 ++ l1).length c').ownBlock = some w.heap.size) → wpList Tryz.prog ops Q rest (a.put o.dst (.slice a' (l0 ++ l1).length c')) w') : wpList Tryz.prog ops Q (o :: rest) a w := by
  obtain ⟨i, hi, hz0, hz1, hz2⟩ := info_parts info5
  rcases hv with ⟨rfl, rfl⟩ | ⟨b, off, cap, cs, t, f, rfl, h2, h3, h4, h5, h6⟩
  · obtain ⟨a', c', rfl⟩ := owns_slice hown
    rw [List.append_nil] at h
    exact wpList_append_own_none hgd s x 165 ho base 5 i 1 Tryz.underlying165 hi _ l0.length (bv l0) hs hown hx (h a' c' w hown ⟨rfl, rfl, rfl, Nat.le_refl _, fun _ _ _ => rfl⟩ (.inl rfl))
  · refine wpList_append_own2 hgd s x 165 ho base 5 i (.int .u8 0) 1 1 Tryz.underlying165 hi hz0 hz1 hz2 rfl (by decide) v l0.length (bv l0) hs hown ⟨b, off, none⟩ l1.length cap (bv l1) hx (by simp [bv]) ?_ ?_
      (by unfold maxLen; omega) (by omega) hbase ?_
    · intro j u hj
      have hj' : j < l1.length := by
        rcases Nat.lt_or_ge j l1.length with h | h
        · exact h
        · simp [bv, List.getElem?_eq_none h] at hj
      rw [addr_add, show w.cell? ⟨b, off + j, none⟩ = cs[off + j]? by simp [World.cell?, h4], h6 j hj']
      simp [bv, List.getElem?_eq_getElem hj'] at hj
      subst hj
      simp [List.getD, List.getElem?_eq_getElem hj']
    · intro u hu
      simp only [bv, List.mem_map] at hu
      obtain ⟨c, _, rfl⟩ := hu
      rfl
    · intro a' c' w' h1 hg hw
      have e1 : l0.length + l1.length = (l0 ++ l1).length := by simp
      rw [e1] at h1 hw ⊢
      exact h a' c' w' (by simpa [bv] using h1) hg hw

set_option maxRecDepth 100000 in
theorem newReader_any (v : Value) (l : List UInt8) (w : World) (hv : Bytes w v l) (hl : l.length ≤ 140737488355328) :
    Calls Tryz.prog 108 #[v] w fun e w' => ∃ r, e = .returned (.pointer (some ⟨r, 0, none⟩)) ∧ w.heap.size ≤ r ∧ IsReader w' r l 0 ∧ Below w.heap.size w w' := by
  have hown := World.ownsRow_made (w := w) (base := w.heap.size) (e := 5) (size := 1) #[] 0 (Nat.le_refl _) (Nat.zero_le _) rfl
  have hv' := hv.below ((Below.refl w.heap.size w).alloc (Nat.le_refl _) (.cells #[] 5))
  clear hv
  go_enter Tryz.func108, Tryz.ntmps108
  go_wp2_with (at_builtin; refine app_bytes rfl _ _ rfl w.heap.size (.slice (some ⟨w.heap.size, 0, none⟩) 0 0) v [] l rfl hown rfl hv' (by simpa using hl) (by simp) ?_; intro a' c' w' hown' hgrow _; clear hown hv')
  go_ret
  have hB := ((Below.refl w.heap.size w).alloc (Nat.le_refl _) (.cells #[] 5)).grown hgrow (by simp) (fun k e => by cases e; exact Nat.le_refl _)
  have hsz := hB.size
  refine ⟨w'.heap.size, rfl, hsz, ⟨_, l, 0, blk_new w' _, ?_, Nat.zero_le _, by unfold maxLen; omega, rfl⟩, hB.alloc hsz _⟩
  exact (bytes_of_owns hown').below ((Below.refl w'.heap.size w').alloc (Nat.le_refl _) _)

theorem bytes_new1 (w : World) (c : UInt8) : Bytes (w.alloc (.cells #[.int .u8 c.toNat] 5)) (.slice (some ⟨w.heap.size, 0, none⟩) 1 1) [c] := by
  refine .inr ⟨w.heap.size, 0, 1, _, 5, (0, 0), rfl, Nat.le_refl _, by unfold maxLen; omega, blk_new w _, rfl, ?_⟩
  intro i hi
  have : i = 0 := by simpa using hi
  subst this
  rfl

theorem bytes_new1' (w : World) (x : Int) (c : UInt8) (hx : x = c.toNat) : Bytes (w.alloc (.cells #[.int .u8 x] 5)) (.slice (some ⟨w.heap.size, 0, none⟩) 1 1) [c] := by
  subst hx; exact bytes_new1 w c

theorem nat_len10 (u : Nat) (hu : u < 18446744073709551616) : (Cd.nat u).length ≤ 10 := by
  have e : (128 : Nat) ^ 10 = 1180591620717411303424 := by decide +kernel
  exact Cd.nat_len_le 10 u (by rw [e]; omega) (by omega)

theorem or_128 (m : Nat) : bits BinOp.or IntKind.u8 ((m : Int) % 256) 128 = ((UInt8.ofNat (m % 128 + 128)).toNat : Int) := by
  have h := u8_or_nat (m % 256) 128 (by omega) (by omega)
  have e : (m % 256 ||| 128) = m % 128 + 128 := by
    have : ∀ k < 256, (k ||| 128) = k % 128 + 128 := by decide +kernel
    rw [this _ (by omega)]; omega
  rw [e] at h
  rw [Cd.toNat_ofNat (by omega)]
  rw [← h]
  congr 1

set_option maxRecDepth 100000 in
set_option maxHeartbeats 1000000 in
theorem natural_any (u : Nat) (w : World) (hu : u < 18446744073709551616) :
    Calls Tryz.prog 165 #[.int .u64 u] w fun e w' => ∃ v, e = .returned v ∧ w'.ownsRow w.heap.size 5 1 v (Cd.nat u).length (bv (Cd.nat u)) ∧ Below w.heap.size w w' := by
  have Hu := Lib.hid hu
  have hul := nat_len10 u hu
  clear hu
  go_enter Tryz.func165, Tryz.ntmps165
  go_wp2_with fail
  go_loopw [0, 3] (fun t0 t3 wr => ∃ (m : Nat) (l0 : List UInt8) (a3 : Option Addr) (c3 : Nat), t0 = .int .u64 m ∧ m ≤ u ∧ l0.length + (Cd.nat m).length ≤ (Cd.nat u).length ∧ Hid (Cd.nat u = l0 ++ Cd.nat m) ∧ t3 = .slice a3 l0.length c3 ∧ wr.ownsRow w.heap.size 5 1 (.slice a3 l0.length c3) l0.length (bv l0) ∧ Below w.heap.size w wr) (fun t0 _ _ => (intOf t0).toNat)
  case atStart => exact ⟨u, [], none, 0, rfl, Nat.le_refl _, by simp, rfl, rfl, World.ownsRow_nil .., Below.refl _ _⟩
  case round =>
    obtain ⟨m, l0, a3, c3, rfl, hm, hlen, Hl, rfl, hown, hB⟩ := hrel
    have hsz := hB.size
    have hnl := Cd.nat_len_pos m
    have hbit := or_128 m
    by_cases h128 : 128 ≤ m
    · go_wp2_with (at_builtin; refine app_bytes rfl _ _ rfl w.heap.size (.slice a3 l0.length c3) _ l0 [UInt8.ofNat (m % 128 + 128)] rfl (hown.alloc _) rfl (bytes_new1 _ _) (by simp; omega) (by simp; omega) ?_; intro a' c' w' hown' hgrow _)
      have hB' := (hB.alloc hsz _).grown hgrow (by simp; omega) (fun k e => (hown.lt k e.symm.symm).1)
      have hm' := Cd.nat_big (u := m) (by omega)
      refine ⟨⟨m / 128, l0 ++ [UInt8.ofNat (m % 128 + 128)], a', c', rfl, by omega, ?_, ?_, by simp, hown', hB'⟩, by simp [intOf]; omega⟩
      · rw [hm'] at hlen
        simp at hlen ⊢
        omega
      · show _ = _
        rw [Hl.out, hm']
        simp
    · go_wp2_with (at_builtin; refine app_bytes rfl _ _ rfl w.heap.size (.slice a3 l0.length c3) _ l0 [UInt8.ofNat m] rfl (hown.alloc _) rfl (bytes_new1' _ _ _ (by rw [Cd.toNat_ofNat (by omega)])) (by simp; omega) (by simp; omega) ?_; intro a' c' w' hown' hgrow _)
      go_ret
      have hB' := (hB.alloc hsz _).grown hgrow (by simp; omega) (fun k e => (hown.lt k e.symm.symm).1)
      have hm' := Cd.nat_small (u := m) (by omega)
      rw [← hm', ← Hl.out] at hown'
      refine ⟨_, rfl, ?_, hB'⟩
      have hlen2 : l0.length + 1 = (Cd.nat u).length := by rw [Hl.out, hm']; simp
      show w'.ownsRow w.heap.size 5 1 (.slice a' (l0.length + 1) c') _ _
      rw [hlen2]
      exact hown'

end Go.Proofs.YtdjjfjnkkgmadaaGreatDoor
