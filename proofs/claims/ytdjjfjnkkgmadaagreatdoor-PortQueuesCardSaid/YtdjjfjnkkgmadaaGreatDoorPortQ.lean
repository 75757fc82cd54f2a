/-
  PortQueues: a queue of packets that a call owns, cut at its front and appended to; the walk; its arguments of type 117.
-/
import Derived.Test.YtdjjfjnkkgmadaaGreatDoorPortO
import Derived.Laws.AppendOwn
import Derived.Test.YtdjjfjnkkgmadaaGreatDoorPortE
import Derived.Deep.CutRange
import Derived.Deep.CutBlock
import Derived.Test.YtdjjfjnkkgmadaaGreatDoorPortIn
import Derived.Deep.Slices
namespace Go.Proofs.YtdjjfjnkkgmadaaGreatDoor
section
open Go Go.RowKit

/-- A slice of packets that lies in a block of the call's own. -/
def OwnQ (w : World) (base : Nat) (v : Value) (L : List Pk) : Prop :=
  (v = .slice none 0 0 ∧ L = []) ∨ ∃ (g off cap : Nat) (cur : Array Value), v = .slice (some ⟨g, off, none⟩) L.length cap ∧ base ≤ g ∧ w.heap[g]? = some (.cells cur 123 (0, 0)) ∧ L.length ≤ cap ∧ cap ≤ maxLen ∧ off + cap * 2 ≤ cur.size ∧ (cur.toList.drop off).take (L.length * 2) = pvs L

theorem OwnQ.form {w : World} {base : Nat} {v : Value} {L : List Pk} (h : OwnQ w base v L) : ∃ a c, v = .slice a L.length c := by
  rcases h with ⟨rfl, rfl⟩ | ⟨g, off, cap, cur, rfl, _⟩
  · exact ⟨_, _, rfl⟩
  · exact ⟨_, _, rfl⟩

theorem OwnQ.fr {S : Nat → Prop} {w w' : World} {base : Nat} {v : Value} {L : List Pk} (h : OwnQ w base v L) (hF : Fr S w w') (hS : ∀ k (c : Array Value) (f : Nat × Nat), S k → base ≤ k → w.heap[k]? = some (.cells c 123 f) → False) : OwnQ w' base v L := by
  refine h.imp id ?_
  rintro ⟨g, off, cap, cur, rfl, h1, h2, h3⟩
  exact ⟨g, off, cap, cur, rfl, h1, hF.heap (fun hs => hS g _ _ hs h1 h2) h2, h3⟩
theorem OwnQ.below {w w' : World} {base : Nat} {v : Value} {L : List Pk} (h : OwnQ w base v L) (hB : Below w.heap.size w w') : OwnQ w' base v L := h.fr (S := fun _ => False) (Fr.of_below hB) (fun _ _ _ h => h.elim)

theorem OwnQ.pks {w : World} {base : Nat} {v : Value} {L : List Pk} (h : OwnQ w base v L) (hs : ∀ p ∈ L, p.f.size ≤ maxLen ∧ p.b.size ≤ maxLen) : PksIn w v L := by
  rcases h with ⟨rfl, rfl⟩ | ⟨g, off, cap, cur, rfl, h1, h2, h3, h4, h5, h6⟩
  · exact pks_zero w
  · refine ⟨_, cap, rfl, by omega, fun i p hi => ?_⟩
    have hp := hs p (List.mem_of_getElem? hi)
    obtain ⟨e0, e1⟩ := pvs_get L i p hi
    have hil : i < L.length := by
      rcases Nat.lt_or_ge i L.length with h' | h'
      · exact h'
      · rw [List.getElem?_eq_none h'] at hi; cases hi
    rw [← h6, List.getElem?_take, if_pos (by omega), List.getElem?_drop] at e0 e1
    refine ⟨hp.1, hp.2, g, off, rfl, lt_of_block h2, ?_, ?_⟩
    · rw [blk_cell h2]; simpa using e0
    · rw [blk_cell h2]; simpa [Nat.add_assoc] using e1

theorem run_append_off {P : Program} (w : World) (t ty e : TypeId) (i : TypeInfo) (ht : P.underlying t = some (.slice e)) (hi : P.info? e = some i)
    (g off sLen sCap : Nat) (cur : Array Value) (hg : w.heap[g]? = some (.cells cur e (0, 0)))
    (a : Addr) (m c : Nat) (news : List Value) (hl : news.length = m * i.size) (hnews : ∀ j u, news[j]? = some u → w.cell? (a.add j) = some u) (h1 : ∀ u ∈ news, u.oneCell' = true)
    (hroom : sLen + m ≤ sCap) (hfit : off + sLen * i.size + news.length ≤ cur.size) :
    (Builtin.append_ #[t, t] ty #[.slice (some ⟨g, off, none⟩) sLen sCap, .slice (some a) m c]).run P w =
      .ok (.slice (some ⟨g, off, none⟩) (sLen + m) sCap) (w.setRow g (cur.toList.take (off + sLen * i.size) ++ news ++ cur.toList.drop (off + sLen * i.size + news.length)).toArray) := by
  have hf := run_firstCells_some (P := P) w i.size m a m c news hl hnews
  have hst := run_storeCells_at P g (off + sLen * i.size) e news 0 cur w hg (by simpa using hfit) h1
  simp only [Nat.add_zero] at hst
  simp [Builtin.append_, run_underlying ht, sizeOf, typeInfo, hi, Builtin.lenOf, hroom, hf, Addr.add_lit, hst]

theorem i123 : ∃ i, Tryz.prog.info? 123 = some i ∧ i.zero = some (.agg #[.string ⟨#[]⟩, .string ⟨#[]⟩]) ∧ i.size = 2 ∧ i.bytes = 32 := by
  obtain ⟨i, h1, h2, h3, h4⟩ := info_parts info123
  exact ⟨i, h1, h2, h3, h4⟩

theorem ownq_of_owns {w : World} {base : Nat} {v : Value} {L : List Pk} (h : w.ownsRow base 123 2 v L.length (pvs L)) : OwnQ w base v L := by
  rcases h.2 with ⟨hv, hn⟩ | ⟨g, cap, cur, hv, h1, h2, h3, h4, h5, h6⟩
  · exact .inl ⟨hv, List.eq_nil_of_length_eq_zero hn⟩
  · exact .inr ⟨g, 0, cap, cur, hv, h1, h2, h3, h4, by omega, by rw [List.drop_zero]; exact h6⟩

set_option maxRecDepth 100000 in
theorem run_append_q {w : World} {base : Nat} {v : Value} {L : List Pk} (h : OwnQ w base v L) (a : Addr) (c : Nat) (p : Pk) (hnews : ∀ j u, [Value.string p.f, .string p.b][j]? = some u → w.cell? (a.add j) = some u) (hL : L.length ≤ 1000) (hbase : base ≤ w.heap.size) :
    ∃ (a' : Option Addr) (c' : Nat) (w' : World), (Builtin.append_ #[54, 54] 54 #[v, .slice (some a) 1 c]).run Tryz.prog w = .ok (.slice a' (L.length + 1) c') w' ∧ OwnQ w' base (.slice a' (L.length + 1) c') (L ++ [p]) ∧ Fr (fun k => base ≤ k) w w' ∧ KeepT VT w w' := by
  obtain ⟨i, hi, hz, hs, hb⟩ := i123
  have h1 : ∀ u ∈ [Value.string p.f, .string p.b], u.oneCell' = true := by simp [Value.oneCell']
  have hgrown : ∀ old, old < L.length + 1 → ∀ (olds : List Value), olds = pvs L →
      OwnQ (w.drew.alloc (.cells (olds.toArray ++ [Value.string p.f, .string p.b].toArray ++ Builtin.zeroCells (Value.agg #[.string ⟨#[]⟩, .string ⟨#[]⟩]).cells (grownCap w (L.length + 1) old 123 - (L.length + 1))) 123)) base (.slice (some ⟨w.heap.size, 0, none⟩) (L.length + 1) (grownCap w (L.length + 1) old 123)) (L ++ [p]) := by
    intro old ho olds he
    subst he
    have hge := grownCap_ge w (L.length + 1) old 123
    have hcm : grownCap w (L.length + 1) old 123 ≤ maxLen := grownCap_le_maxLen w _ old 123 (by unfold maxLen; omega)
    refine .inr ⟨w.heap.size, 0, _, _, by simp, hbase, heap_alloc_new w.drew _, by simpa using hge, hcm, ?_, ?_⟩
    · simp only [Array.size_append, List.size_toArray, size_zeroCells, pvs_length, List.length_cons, List.length_nil, Value.cells]
      simp
      omega
    · rw [List.drop_zero, Array.toList_append, Array.toList_append]
      have e : pvs (L ++ [p]) = pvs L ++ [Value.string p.f, .string p.b] := pvs_append L [p]
      rw [e]
      have hl : (pvs L ++ [Value.string p.f, .string p.b]).length = (L ++ [p]).length * 2 := by simp [pvs_length]; omega
      rw [← hl]
      exact List.take_left
  rcases h with ⟨rfl, rfl⟩ | ⟨g, off, cap, cur, rfl, g1, g2, g3, g4, g5, g6⟩
  · obtain ⟨a', c', w', h2, h3, h4, _⟩ := run_append_own2 (P := Tryz.prog) w base 54 54 123 i _ 2 32 Tryz.underlying54 hi hz hs hb rfl (by decide) (.slice none 0 0) 0 [] (World.ownsRow_nil _ _ _ _) a 1 c [Value.string p.f, .string p.b] rfl hnews h1 (by unfold maxLen; omega) (by omega) hbase
    refine ⟨a', c', w', h2, ownq_of_owns (L := [p]) h3, ?_, ?_⟩
    · exact (Fr.refl _ w).grown h4 (fun k hk => by simp [Value.ownBlock] at hk)
    · exact KeepT.grown h4 (fun k hk => by simp [Value.ownBlock] at hk)
  · by_cases hroom : L.length + 1 ≤ cap
    · have := run_append_off (P := Tryz.prog) w 54 54 123 i Tryz.underlying54 hi g off L.length cap cur g2 a 1 c [Value.string p.f, .string p.b] (by rw [hs]; rfl) hnews h1 hroom (by rw [hs]; simp; omega)
      refine ⟨_, _, _, this, .inr ⟨g, off, cap, _, by simp, g1, setRow_heap w g cur _ 123 (0, 0) g2, by simpa using hroom, g4, ?_, ?_⟩, (Fr.setRow1 w g _).mono (fun k hk => by subst hk; exact g1), KeepT.of_fr (Fr.setRow1 w g _) (fun k c t f hk hc => by subst hk; rw [g2] at hc; cases hc; simp [VT, StT])⟩
      · rw [hs]
        simp
        omega
      · rw [hs]
        simp only [List.length_append, List.length_singleton, pvs_append]
        have hlen : (cur.toList.take (off + L.length * 2)).length = off + L.length * 2 := by simp; omega
        rw [List.append_assoc, List.drop_append_of_le_length (by omega), List.drop_take, Nat.add_sub_cancel_left, g6]
        rw [← List.append_assoc, List.take_append_of_le_length (by simp [pvs_length]; omega)]
        rw [List.take_of_length_le (by simp [pvs_length]; omega)]
        rfl
    · have := run_append_grow (P := Tryz.prog) w 54 54 123 i _ Tryz.underlying54 hi hz ⟨g, off, none⟩ L.length cap (pvs L) (by rw [hs, pvs_length]) (fun j u hu => by
          rw [addr_add, blk_cell g2]
          rw [← g6, List.getElem?_take] at hu
          split at hu
          · rw [List.getElem?_drop] at hu; simpa using hu
          · cases hu) a 1 c [Value.string p.f, .string p.b] (by rw [hs]; rfl) hnews (by omega) (by omega) (growslice_fits (by omega) (by rw [hb]; omega))
      exact ⟨_, _, _, this, hgrown cap (by omega) (pvs L) rfl, ((Fr.refl _ w).drew).alloc _, KeepT.alloc (show KeepT VT w w.drew from KeepT.refl VT w) _⟩

set_option maxRecDepth 100000 in
/-- A queue without its first. -/
theorem slice_q {w : World} {base : Nat} {v : Value} {L : List Pk} (h : OwnQ w base v L) (m : Nat) (hm : m ≤ L.length) (hm1 : m ≤ 1) :
    ∃ v', OwnQ w base v' (L.drop m) ∧ ∀ wx, (Instr.slice 54 v (some (.int .i64 m)) none none).run Tryz.prog wx = .ok v' wx := by
  have u54 : Tryz.prog.underlying 54 = some (.slice (Tryz.prog.elem 54)) := by rw [show Tryz.prog.elem 54 = 123 by kernel_rfl]; exact Tryz.underlying54
  have s123 : ∀ wx, (sizeOf 123).run Tryz.prog wx = .ok 2 wx := fun wx => by kernel_rfl
  rcases h with ⟨rfl, rfl⟩ | ⟨g, off, cap, cur, rfl, g1, g2, g3, g4, g5, g6⟩
  · obtain rfl : m = 0 := by simpa using hm
    refine ⟨.slice none 0 0, .inl ⟨rfl, rfl⟩, fun wx => ?_⟩
    rw [run_slice_l wx 54 none 0 0 u54 .i64 _ (by omega) (by omega), show Tryz.prog.elem 54 = 123 by kernel_rfl, s123]
    rfl
  · refine ⟨.slice (some ⟨g, if cap = m then off else off + m * 2, none⟩) (L.length - m) (cap - m), .inr ⟨g, _, cap - m, cur, by rw [List.length_drop], g1, g2, by rw [List.length_drop]; omega, by omega, ?_, ?_⟩, fun wx => ?_⟩
    · split <;> omega
    · rw [List.length_drop]
      by_cases e : cap = m
      · have : L.length - m = 0 := by omega
        rw [this]
        have hd : L.drop m = [] := List.drop_of_length_le (by omega)
        rw [hd]
        simp [pvs]
      · rw [if_neg e]
        have hd : pvs (L.drop m) = (pvs L).drop (m * 2) := by
          obtain rfl | rfl : m = 0 ∨ m = 1 := by omega
          · simp
          · cases L with
            | nil => rfl
            | cons x r => simp [pvs]
        rw [hd, ← g6, List.drop_take, List.drop_drop]
        congr 1
        omega
    · rw [run_slice_l wx 54 _ _ cap u54 .i64 _ (by omega) (by omega), show Tryz.prog.elem 54 = 123 by kernel_rfl, s123]
      simp only [Result.andThen, sliced, Int.toNat_natCast, Option.map_some, addr_add]
      by_cases e : cap = m
      · rw [if_pos e, if_pos e]
      · rw [if_neg e, if_neg e]

/-- The append as an operation of a plain region. -/
theorem app_q {ops : Array Oper} {rest : List Oper} {o : Oper} {a : Act} {w : World} {Q : Exit → Act → World → Prop} (hgd : o.guard = none) (s x : Operand)
    (ho : o.op = .call { callee := .builtin .append, args := #[s, x], argTypes := #[54, 54] }) (hty : o.type = 54) (base : Nat) (v : Value) (L : List Pk) (hs : a.eval s = v) (hown : OwnQ w base v L) (ad : Addr) (c : Nat) (p : Pk) (hx : a.eval x = .slice (some ad) 1 c)
    (hnews : ∀ j u, [Value.string p.f, .string p.b][j]? = some u → w.cell? (ad.add j) = some u) (hL : L.length ≤ 1000) (hbase : base ≤ w.heap.size)
    (h : ∀ (a' : Option Addr) (c' : Nat) (w' : World), OwnQ w' base (.slice a' (L.length + 1) c') (L ++ [p]) → Fr (fun k => base ≤ k) w w' → KeepT VT w w' → wpList Tryz.prog ops Q rest (a.put o.dst (.slice a' (L.length + 1) c')) w') : wpList Tryz.prog ops Q (o :: rest) a w := by
  refine wpList_plain hgd fun K hK => ?_
  obtain ⟨a', c', w', hr, h2, h3, h4⟩ := run_append_q hown ad c p hnews hL hbase
  unfold Oper.wp execOp
  simp only [ho, hty, resolve, invoke, builtin, Sem.run_bind, Sem.run_pure, Result.andThen_ok, List.map_toArray, List.map_cons, List.map_nil, hs, hx, hr]
  exact hK _ _ (h a' c' w' h2 h3 h4)


/-- A slice of truth values. -/
def BoolsIn (w : World) (v : Value) (B : List Bool) : Prop :=
  ∃ (a : Option Addr) (cap : Nat), v = .slice a B.length cap ∧ B.length ≤ maxLen ∧ ∀ i x, B[i]? = some x → ∃ b off, a = some ⟨b, off, none⟩ ∧ b < w.heap.size ∧ w.cell? ⟨b, off + i, none⟩ = some (.bool x)

namespace PqK
def who : ByteArray := ⟨#[49, 46, 50]⟩
def st (lost : Nat) (Q : List Pk) : Po := ⟨who, 3, lost, Q⟩
theorem bw : begErr who 100 3 = 0 := by decide
theorem be : begErr ⟨#[]⟩ 100 3 = 0 := by decide
theorem op : opE who 5 100 3 (so none) = 0 := by rw [opE, rdP_so_none]; decide

theorem arr {lost : Nat} {Q : List Pk} (hq : (st lost Q).err = 0) (p : Pk) : arO 100 3 p (so (some (st lost Q))) = if p.err ≠ 0 then (false, p.err, Po.zero) else arF (st lost Q) p := by
  rw [arO, be, if_neg (by simp), rdP_so_some hq, if_pos (show (st lost Q).e = 3 from rfl)]
  by_cases h : p.err ≠ 0
  · rw [if_pos h, if_pos h]
  · rw [if_neg h, if_neg h, if_neg (by simp)]
theorem rcv {lost : Nat} {Q : List Pk} (hq : (st lost Q).err = 0) : rcO who 100 3 (so (some (st lost Q))) = rcF (st lost Q) who := by
  rw [rcO, bw, if_neg (by simp), rdP_so_some hq, if_pos (show (st lost Q).e = 3 from rfl), if_neg (by simp)]
theorem gt {lost : Nat} {Q : List Pk} (hq : (st lost Q).err = 0) : gtD 100 3 (so (some (st lost Q))) = (st lost Q, 0) := by
  rw [gtD, be, if_neg (by simp), rdP_so_some hq, if_pos (show (st lost Q).e = 3 from rfl)]

theorem ok {w : World} {v : VW} {k : Nat} {lost : Nat} {Q : List Pk} (h : HPo w v k 100 (some (st lost Q))) : (st lost Q).err = 0 := by
  obtain ⟨g, R, N, h1, h2, h3⟩ := h
  exact h2 _ rfl

/-- What has come of an arrival. -/
def Came (p : Pk) (lost : Nat) (Q : List Pk) (er : Int) (lost' : Nat) (Q' : List Pk) : Prop :=
  (p.err ≠ 0 ∧ er = p.err ∧ lost' = lost ∧ Q' = Q) ∨ (p.err = 0 ∧ Q.length = 16 ∧ er = 9 ∧ lost' = lost + 1 ∧ Q' = Q) ∨ (p.err = 0 ∧ Q.length < 16 ∧ er = 0 ∧ lost' = lost ∧ Q' = Q ++ [p])

theorem arrive_q (W : World) (v : VW) (k lost : Nat) (Q : List Pk) (p : Pk) (h : HPo W v k 100 (some (st lost Q))) (hk : k < 1000000) (hl : lost ≤ 1000) (hp : p.f.size ≤ maxLen) :
    Calls Tryz.prog 77 #[v.p, .int .i64 100, .int .i64 3, p.v] W fun e w' => ∃ er lost' Q' k', e = .returned (.int .i64 er) ∧ HPo w' v k' 100 (some (st lost' Q')) ∧ k' ≤ k + 1 ∧ Came p lost Q er lost' Q' ∧ Fr v.S W w' := by
  have hq := ok h
  have := arrive_po W v k 100 _ h hk 3 p hp
  rw [arr hq] at this
  refine this.mono ?_
  rintro e w' ⟨rfl, h1, h2⟩
  obtain ⟨_, _, _, _, h16, _⟩ := Po.err_zero hq
  change Q.length ≤ 16 at h16
  by_cases hpe : p.err ≠ 0
  · rw [if_pos hpe] at h1 ⊢
    exact ⟨_, lost, Q, k, rfl, by simpa [ckp] using h1, by omega, .inl ⟨hpe, rfl, rfl, rfl⟩, h2⟩
  · rw [if_neg hpe] at h1 ⊢
    by_cases hQ : Q.length = 16
    · have e1 : arF (st lost Q) p = (true, 9, st (lost + 1) Q) := by
        unfold arF
        rw [if_pos (show (st lost Q).q.length = 16 from hQ), if_pos (show (st lost Q).l < 1073741824 by show (lost : Int) < 1073741824; omega), decide_eq_true (show (st lost Q).l < 1073741824 by show (lost : Int) < 1073741824; omega)]
        simp [st]
      rw [e1] at h1 ⊢
      exact ⟨_, lost + 1, Q, k + 1, rfl, by simpa [ckp] using h1, by omega, .inr (.inl ⟨Decidable.not_not.1 hpe, hQ, rfl, rfl, rfl⟩), h2⟩
    · have e1 : arF (st lost Q) p = (true, 0, st lost (Q ++ [p])) := by
        unfold arF
        rw [if_neg (show ¬ (st lost Q).q.length = 16 from hQ)]
        rfl
      rw [e1] at h1 ⊢
      exact ⟨_, lost, Q ++ [p], k + 1, rfl, by simpa [ckp] using h1, by omega, .inr (.inr ⟨Decidable.not_not.1 hpe, by omega, rfl, rfl, rfl⟩), h2⟩

theorem receive_nil (W : World) (v : VW) (k lost : Nat) (h : HPo W v k 100 (some (st lost []))) (hk : k < 1000000) :
    Calls Tryz.prog 79 #[v.p, .string who, .int .i64 100, .int .i64 3] W fun e w' => e = .returned (.tuple #[.agg #[.string ⟨#[]⟩, .string ⟨#[]⟩], .int .i64 19]) ∧ HPo w' v k 100 (some (st lost [])) ∧ Fr v.S W w' := by
  have := receive_po W v k 100 _ h hk who (by decide) 3
  rw [rcv (ok h)] at this
  have e1 : rcF (st lost []) who = (false, 19, st lost [], Pk.zero) := by
    unfold rcF
    rw [if_neg (by show ¬ who ≠ who; simp)]
    rfl
  rw [e1] at this
  exact this
theorem receive_cons (W : World) (v : VW) (k lost : Nat) (p : Pk) (t : List Pk) (h : HPo W v k 100 (some (st lost (p :: t)))) (hk : k < 1000000) :
    Calls Tryz.prog 79 #[v.p, .string who, .int .i64 100, .int .i64 3] W fun e w' => e = .returned (.tuple #[.agg #[.string p.f, .string p.b], .int .i64 0]) ∧ HPo w' v (k + 1) 100 (some (st lost t)) ∧ Fr v.S W w' := by
  have := receive_po W v k 100 _ h hk who (by decide) 3
  rw [rcv (ok h)] at this
  have e1 : rcF (st lost (p :: t)) who = (true, 0, st lost t, p) := by
    unfold rcF
    rw [if_neg (by show ¬ who ≠ who; simp)]
    rfl
  rw [e1] at this
  exact this

theorem small_q {w : World} {v : VW} {k : Nat} {lost : Nat} {Q : List Pk} (h : HPo w v k 100 (some (st lost Q))) : Q.length ≤ 16 ∧ ∀ p ∈ Q, p.f.size ≤ maxLen ∧ p.b.size ≤ maxLen := by
  obtain ⟨_, _, _, _, h16, h0⟩ := Po.err_zero (ok h)
  refine ⟨h16, fun p hp => ?_⟩
  have := Pk.err_zero (perrs_zero h0 p hp)
  unfold maxLen
  omega
theorem hpo_fr2 {S : Nat → Prop} {w w' : World} {v : VW} {k : Nat} {n : Int} {q : Option Po} (h : HPo w v k n q) (hF : Fr S w w') (hk : KeepT VT w w') (hv : ∀ k, v.S k → ¬ S k) : HPo w' v k n q := by
  obtain ⟨g, R, N, h1, h2⟩ := h
  exact ⟨g, R, N, h1.fr2 hF hk hv, h2⟩

theorem get_q (W : World) (v : VW) (k lost : Nat) (Q : List Pk) (h : HPo W v k 100 (some (st lost Q))) :
    Calls Tryz.prog 80 #[v.p, .int .i64 100, .int .i64 3] W fun e w' => ∃ aq cq, e = .returned (.tuple #[.agg #[.string ⟨#[49, 46, 50]⟩, .int .i64 3, .int .i64 lost, .slice aq Q.length cq], .int .i64 0]) ∧ PksIn w' (.slice aq Q.length cq) Q ∧ Fr v.S W w' := by
  have := get_po W v k 100 _ h 3
  rw [gt (ok h)] at this
  refine this.mono ?_
  rintro e w' ⟨qv, rfl, h1, _, h2⟩
  obtain ⟨aq, cq, rfl, h3⟩ := h1
  exact ⟨aq, cq, rfl, ⟨aq, cq, rfl, h3⟩, h2⟩
theorem equal_q (lost : Nat) (Q : List Pk) (qv v6 : Value) (W : World) (h1 : PksIn W qv Q) (h2 : PksIn W v6 Q) :
    Calls Tryz.prog 46 #[.agg #[.string ⟨#[49, 46, 50]⟩, .int .i64 3, .int .i64 lost, qv], .agg #[.string ⟨#[49, 46, 50]⟩, .int .i64 3, .int .i64 lost, v6]] W fun e w' => e = .returned (.bool true) ∧ Below W.heap.size W w' := by
  have := portEqual_any (st lost Q) (st lost Q) qv v6 W h1 h2
  rw [decide_eq_true rfl] at this
  exact this

theorem q_nil {w : World} {base : Nat} {v : Value} (h : OwnQ w base v []) : ∃ a c a' c', v = .slice a 0 c ∧ OwnQ w base (.slice a' 0 c') [] ∧ ∀ wx, (Instr.slice 54 (.slice a 0 c) (some (.int .i64 0)) none none).run Tryz.prog wx = .ok (.slice a' 0 c') wx := by
  obtain ⟨v', h1, h2⟩ := slice_q h 0 (Nat.zero_le _) (by omega)
  obtain ⟨a, c, rfl⟩ := h.form
  obtain ⟨a', c', rfl⟩ := h1.form
  exact ⟨a, c, a', c', rfl, h1, h2⟩

theorem q_head {w : World} {base : Nat} {v : Value} {p : Pk} {t : List Pk} (h : OwnQ w base v (p :: t)) : ∃ g off c a' c' cur n, n = t.length + 1 ∧ v = .slice (some ⟨g, off, none⟩) n c ∧ base ≤ g ∧ w.heap[g]? = some (.cells cur 123 (0, 0)) ∧ cur[off]? = some (.string p.f) ∧ cur[off + 1]? = some (.string p.b) ∧ (∀ wx : World, wx.heap[g]? = some (.cells cur 123 (0, 0)) → OwnQ wx base (.slice a' t.length c') t) ∧ ∀ wx, (Instr.slice 54 (.slice (some ⟨g, off, none⟩) n c) (some (.int .i64 1)) none none).run Tryz.prog wx = .ok (.slice a' t.length c') wx := by
  obtain ⟨v', h1, h2⟩ := slice_q h 1 (by simp) (by omega)
  rcases h with ⟨_, e⟩ | ⟨g, off, cap, cur, rfl, g1, g2, g3, g4, g5, g6⟩
  · cases e
  · have h1' := slice_q (.inr ⟨g, off, cap, cur, rfl, g1, g2, g3, g4, g5, g6⟩ : OwnQ w base _ (p :: t)) 1 (by simp) (by omega)
    obtain ⟨a', c', rfl⟩ := h1.form
    refine ⟨g, off, cap, a', c', cur, _, rfl, rfl, g1, g2, ?_, ?_, fun wx hx => ?_, h2⟩
    · have : (pvs (p :: t))[0]? = some (.string p.f) := rfl
      rw [← g6, List.getElem?_take, if_pos (by simp), List.getElem?_drop] at this
      simpa using this
    · have : (pvs (p :: t))[1]? = some (.string p.b) := rfl
      rw [← g6, List.getElem?_take, if_pos (by simp; omega), List.getElem?_drop] at this
      simpa using this
    · obtain ⟨v2, k1, k2⟩ := slice_q (.inr ⟨g, off, cap, cur, rfl, g1, hx, g3, g4, g5, g6⟩ : OwnQ wx base _ (p :: t)) 1 (by simp) (by omega)
      have e := (h2 wx).symm.trans (k2 wx)
      injection e with e
      subst e
      exact k1
end PqK

open PqK in
set_option maxRecDepth 100000 in
set_option maxHeartbeats 16000000 in
theorem portQueues_any (v0 v1 : Value) (L : List Pk) (B : List Bool) (w : World) (hL : PksIn w v0 L) (hB : BoolsIn w v1 B) :
    Calls Tryz.prog 11 #[v0, v1] w fun e w' => e = .returned (.bool true) ∧ Below w.heap.size w w' := by
  obtain ⟨a0, cap0, rfl, hl0, hc0⟩ := hL
  obtain ⟨a1, cap1, rfl, hl1, hc1⟩ := hB
  have Hc0 := Lib.hid hc0
  have Hc1 := Lib.hid hc1
  clear hc0 hc1
  unfold maxLen at hl0 hl1
  have hkn := known37_any
  go_enter Tryz.func11, Tryz.ntmps11
  go_wp2_with (first | (go_at_call 41; refine (hkn _).mono ?_; rintro e w1 ⟨rfl, hB1⟩) | (go_at_call 33; refine (stateNew_any _).mono ?_; rintro e w2 ⟨rfl, rfl⟩) | (go_at_call 32; refine (viewNew_po _ _ (base_new w1)).mono ?_; rintro e w3 ⟨v, rfl, hPn, hB3, hS⟩))
  have s1 : Calls Tryz.prog 75 #[.pointer (some ⟨v.vb, 0, none⟩), .string ⟨#[49, 46, 50]⟩, .agg #[.int .i64 5, .slice none 0 0], .int .i64 100, .int .i64 3] w3 fun e w' => e = .returned (.int .i64 0) ∧ HPo w' v 1 100 (some (st 0 [])) ∧ Fr v.S w3 w' := by
    have := open_po w3 v 0 100 none (hPn 100) (by decide) who (by decide) 5 3
    rw [op] at this
    exact this
  refine s1.mono ?_
  rintro e w4 ⟨rfl, hP4, hF4⟩
  have hBw3 : Below w.heap.size w w3 := (hB1.trans' (below_new1 w1 (.cells #[.pointer none] 197))).trans' hB3
  have hSw : ∀ k, v.S k → w.heap.size ≤ k := fun k hk => by have h1 := hS k hk; have h2 := hB1.size; rw [World.size_alloc] at h1; omega
  have hBw4 : Below w.heap.size w w4 := hBw3.trans (hF4.below hBw3.size hSw)
  have hS4 : ∀ k, v.S k → k < w4.heap.size := fun k hk => Nat.lt_of_not_le fun hle => hP4.notS hle hk
  clear s1 hPn hS hF4 hB3 hB1 hkn
  go_wp2_with fail
  go_loopw [6, 7, 8] (fun t6 t7 t8 wr => ∃ (i lost k : Nat) (Q : List Pk), t8 = .int .i64 i ∧ t7 = .int .i64 lost ∧ i ≤ 40 ∧ i ≤ L.length ∧ lost ≤ i ∧ k ≤ 2 * i + 1 ∧ OwnQ wr w4.heap.size t6 Q ∧ HPo wr v k 100 (some (st lost Q)) ∧ Below w.heap.size w wr ∧ w4.heap.size ≤ wr.heap.size) (fun _ _ t8 _ => 40 - (intOf t8).toNat)
  case atStart => exact ⟨0, 0, 1, [], rfl, rfl, by omega, by omega, by omega, by omega, .inl ⟨rfl, rfl⟩, hP4, hBw4, Nat.le_refl _⟩
  case round =>
    obtain ⟨i, lost, k, Q, rfl, rfl, hi40, hiL, hlo, hk, hown, hP, hBr, hsr⟩ := hrel
    by_cases hlt : i < L.length
    · by_cases h40 : i < 40
      · obtain ⟨p0, hp0⟩ : ∃ p, L[i]? = some p := ⟨L[i], List.getElem?_eq_getElem hlt⟩
        obtain ⟨_, _, b0, o0, rfl, hb0, hat0⟩ := Hc0.out i p0 hp0
        obtain ⟨x0, x1⟩ := hat0.below hBr hb0
        have hb0r : b0 < wr.heap.size := by have := hBr.size; omega
        clear hp0 hat0
        have hsm := small_any p0
        have hps : p0.small.f.size ≤ maxLen := by simp only [Pk.small, ByteArray.size_extract]; unfold maxLen; omega
        have har := fun W h => arrive_q W v k lost Q p0.small h (by omega) (by omega) hps
        have hck := fun W => lpkCheck_any p0.small hps W
        unfold Pk.v at hsm hck
        generalize p0.small = ps at *
        unfold Pk.v at har
        go_upto_block 2 with (first | (go_at_call 76; refine (hsm _).mono ?_; rintro e wn ⟨rfl, hBn⟩; have hPn := hP.below (hBn.trans' ((Below.refl _ wn).alloc (Nat.le_refl _) (.cells #[.string ps.f, .string ps.b] 123))); have hownn := hown.below (hBn.trans' ((Below.refl _ wn).alloc (Nat.le_refl _) (.cells #[.string ps.f, .string ps.b] 123)))) | (go_at_call 77; refine (har _ hPn).mono ?_; rintro e wz ⟨er, lost', Q', k', rfl, hPz, hkz, hcame, hFz⟩; have hBy : Below w.heap.size w (wn.alloc (.cells #[.string ps.f, .string ps.b] 123)) := (hBr.trans' hBn).alloc (Nat.le_trans hBr.size hBn.size) _; have hBz := hBy.trans (hFz.below hBy.size hSw); have hn4 : w4.heap.size ≤ wn.heap.size := Nat.le_trans hsr hBn.size; have hcz := hFz.heap (fun h => absurd (hS4 _ h) (by omega)) (blk_new wn (.cells #[.string ps.f, .string ps.b] 123)); have hownz := hownn.fr hFz (fun k c f hs hb _ => absurd (hS4 k hs) (by omega)); have hsz := hFz.size; have hltz := lt_of_block hcz; obtain ⟨z0, z1⟩ := blk2 hcz))
        have hsz4 : w4.heap.size ≤ wz.heap.size := by omega
        have hgb : w4.heap.size ≤ wn.heap.size := hn4
        clear hsm har hP hown hPn hownn x0 x1
        have hlo' : lost' ≤ i + 1 := by
          rcases hcame with ⟨_, _, h, _⟩ | ⟨_, _, _, h, _⟩ | ⟨_, _, _, h, _⟩ <;> omega
        go_cut [6, 7] from 41 to 62 (fun s6 s7 wx => s7 = .int .i64 lost' ∧ OwnQ wx w4.heap.size s6 Q' ∧ HPo wx v k' 100 (some (st lost' Q')) ∧ Below w.heap.size w wx ∧ w4.heap.size ≤ wx.heap.size)
        case first =>
          obtain ⟨a6, c6, rfl⟩ := hownz.form
          rcases hcame with ⟨hpe, rfl, rfl, rfl⟩ | ⟨hpe, hQl, rfl, rfl, rfl⟩ | ⟨hpe, hQl, rfl, rfl, rfl⟩
          · have hb : (ps.err != 0) = true := by simpa using hpe
            clear hpe
            go_wp2_with (go_at_call 78; first | (refine (hck wz).mono ?_; rintro e wk ⟨rfl, hBk⟩; have hczk := hBk.heapS hcz; obtain ⟨y0, y1⟩ := blk2 hczk; have hltk := lt_of_block hczk) | (refine (hck _).mono ?_; rintro e wk2 ⟨rfl, hBk2⟩))
            go_meet
            have hB2 := hBk.trans' hBk2
            exact ⟨rfl, hownz.below hB2, hPz.below hB2, hBz.trans' hB2, Nat.le_trans hsz4 hB2.size⟩
          · have hb : ((Q'.length : Int) == 16) = true := by simp; omega
            rw [hpe] at hck
            clear hpe hQl
            generalize Q'.length = n at *
            go_wp2_with (go_at_call 78; refine (hck wz).mono ?_; rintro e wk ⟨rfl, hBk⟩)
            go_meet
            exact ⟨by go_num, hownz.below hBk, hPz.below hBk, hBz.trans' hBk, Nat.le_trans hsz4 hBk.size⟩
          · have hb : ((Q.length : Int) == 16) = false := by simp; omega
            rw [hpe] at hck
            clear hpe
            generalize hn : Q.length = n at *
            go_wp2_with (first | (go_at_call 78; refine (hck wz).mono ?_; rintro e wk ⟨rfl, hBk⟩; have hczk := hBk.heapS hcz; obtain ⟨y0, y1⟩ := blk2 hczk; have hltk := lt_of_block hczk; have hBa := hBk.trans' ((Below.refl _ wk).alloc (Nat.le_refl _) (.cells #[.string ps.f, .string ps.b] 123)); have hsa := hBa.size) | (at_builtin; refine app_q rfl _ _ rfl rfl w4.heap.size (.slice a6 n c6) Q rfl (hownz.below hBa) ⟨_, 0, none⟩ 1 ps rfl (World.news_of_block (blk_new wk _)) (by omega) (by omega) ?_; intro a' c' w' hown' hFr' hKT'))
            go_meet
            exact ⟨rfl, by rw [← hn]; exact hown', hpo_fr2 (hPz.below hBa) hFr' hKT' (fun k hk h => absurd (hS4 k hk) (by omega)), (hBz.trans' hBa).trans (hFr'.below (Nat.le_trans hBz.size hsa) (fun k hk => Nat.le_trans hBw4.size hk)), by have := hFr'.size; omega⟩
        case rest =>
          obtain ⟨rfl, hownc, hPc, hBc, hsc⟩ := hcut
          clear hcame hownz hPz hBz hck hcz z0 z1 hb0r
          have hdone : ∀ (wx : World) (s6 : Value) (lost2 k2 : Nat) (Q2 : List Pk), OwnQ wx w4.heap.size s6 Q2 → HPo wx v k2 100 (some (st lost2 Q2)) → lost2 ≤ i + 1 → k2 ≤ k' + 1 → Below w.heap.size w wx → w4.heap.size ≤ wx.heap.size → ∃ (i' lost k : Nat) (Q : List Pk), Value.int .i64 ((i : Int) + 1) = .int .i64 i' ∧ Value.int .i64 lost2 = .int .i64 lost ∧ i' ≤ 40 ∧ i' ≤ L.length ∧ lost ≤ i' ∧ k ≤ 2 * i' + 1 ∧ OwnQ wx w4.heap.size s6 Q ∧ HPo wx v k 100 (some (st lost Q)) ∧ Below w.heap.size w wx ∧ w4.heap.size ≤ wx.heap.size := fun wx s6 lost2 k2 Q2 h1 h2 h3 h4 h5 h6 => ⟨i + 1, lost2, k2, Q2, by simp, rfl, by omega, by omega, h3, by omega, h1, h2, h5, h6⟩
          by_cases hB : i < B.length
          · obtain ⟨x, hx⟩ : ∃ x, B[i]? = some x := ⟨B[i], List.getElem?_eq_getElem hB⟩
            obtain ⟨b1, o1, rfl, hb1, hat1⟩ := Hc1.out i x hx
            have hat : wc.cell? ⟨b1, o1 + i, none⟩ = some (.bool x) := by rw [← hat1]; simp [World.cell?, hBc.block b1 hb1]
            have hb1c : b1 < wc.heap.size := by have := hBc.size; omega
            clear hx hat1
            cases x with
            | false =>
              go_wp2_with fail
              exact ⟨hdone _ _ _ _ _ hownc hPc hlo' (by omega) hBc hsc, by simp [intOf]; omega⟩
            | true =>
              have hSc : ∀ (wy : World), Fr v.S wc wy → Below w.heap.size w wy := fun wy h => hBc.trans (h.below hBc.size hSw)
              cases Q' with
              | nil =>
                obtain ⟨a6, c6, a', c', rfl, hq', hsl⟩ := q_nil hownc
                have hrc := receive_nil wc v k' lost' hPc (by omega)
                go_wp2_with (go_at_call 79; refine hrc.mono ?_; rintro e wy ⟨rfl, hPy, hFy⟩; have hX := blk_new wy (.cells #[.string ⟨#[]⟩, .string ⟨#[]⟩] 123))
                go_quiet (fail)
                go_wp2_with fail
                have hBw := ((Below.refl _ wy).alloc (Nat.le_refl _) (.cells #[.string ⟨#[]⟩, .string ⟨#[]⟩] 123)).drewN nq
                have hsy := hFy.size
                have hqy := hq'.fr hFy (fun k c f hs hb _ => absurd (hS4 k hs) (by omega))
                exact ⟨hdone _ _ _ _ _ (hqy.below hBw) (hPy.below hBw) hlo' (by omega) ((hSc wy hFy).trans' hBw) (by have := hBw.size; omega), by simp [intOf]; omega⟩
              | cons p t =>
                obtain ⟨g, off, c6, a', c', cur, n, hn, rfl, hbg, hg, hg0, hg1, hq', hsl⟩ := q_head hownc
                have hrc := receive_cons wc v k' lost' p t hPc (by omega)
                have hn0 : ((n : Int) == 0) = false := by simp; omega
                have hn1 : 0 < n := by omega
                have hmin : (if (1 : Int) < (n : Int) then (1 : Int) else (n : Int)) = 1 := by split <;> omega
                have Hn := Lib.hid hn
                clear hn hownc
                go_wp2_with (go_at_call 79; refine hrc.mono ?_; rintro e wy ⟨rfl, hPy, hFy⟩; have hX := blk_new wy (.cells #[.string p.f, .string p.b] 123); have hgy := hFy.heap (fun h => absurd (hS4 _ h) (by omega)) hg; have hga := blk_alloc hgy (.cells #[.string p.f, .string p.b] 123); have y0 := (blk_cell hga off).trans hg0; have y1 := (blk_cell hga (off + 1)).trans hg1; have hltg := lt_of_block hga; obtain ⟨e0, e1⟩ := blk2 hX)
                go_quiet (fail)
                go_wp2_with fail
                have hBw := ((Below.refl _ wy).alloc (Nat.le_refl _) (.cells #[.string p.f, .string p.b] 123)).drewN nq
                have hsy := hFy.size
                exact ⟨hdone _ _ _ _ _ (hq' _ (hBw.heapS hgy)) (hPy.below hBw) hlo' (by omega) ((hSc wy hFy).trans' hBw) (by have := hBw.size; omega), by simp [intOf]; omega⟩
          · go_wp2_with fail
            exact ⟨hdone _ _ _ _ _ hownc hPc hlo' (by omega) hBc hsc, by simp [intOf]; omega⟩
      · obtain ⟨a6, c6, rfl⟩ := hown.form
        have hget := get_q _ v k lost Q hP
        have hpq := hown.pks (small_q hP).2
        have heq := equal_q lost Q
        generalize hn : Q.length = n at *
        go_wp2_with (first | (go_at_call 80; refine hget.mono ?_; rintro e wg ⟨aq, cq, rfl, hpk, hFg⟩; have hpq2 : PksIn wg (.slice a6 n c6) Q := (hown.fr hFg (fun k c f hs hb _ => absurd (hS4 k hs) (by omega))).pks (small_q hP).2; have hB2 := (Below.refl _ wg).alloc (Nat.le_refl _) (.cells #[.string ⟨#[49, 46, 50]⟩, .int .i64 3, .int .i64 lost, .slice aq n cq] 56)) | (go_at_call 46; refine (heq _ _ _ (hpk.below hB2) (hpq2.below hB2)).mono ?_; rintro e we ⟨rfl, hBe⟩))
        go_ret
        have hBg := hBr.trans (hFg.below hBr.size hSw)
        exact ⟨rfl, (hBg.alloc hBg.size _).trans' hBe⟩
    · obtain ⟨a6, c6, rfl⟩ := hown.form
      have hget := get_q _ v k lost Q hP
      have hpq := hown.pks (small_q hP).2
      have heq := equal_q lost Q
      generalize hn : Q.length = n at *
      go_wp2_with (first | (go_at_call 80; refine hget.mono ?_; rintro e wg ⟨aq, cq, rfl, hpk, hFg⟩; have hpq2 : PksIn wg (.slice a6 n c6) Q := (hown.fr hFg (fun k c f hs hb _ => absurd (hS4 k hs) (by omega))).pks (small_q hP).2; have hB2 := (Below.refl _ wg).alloc (Nat.le_refl _) (.cells #[.string ⟨#[49, 46, 50]⟩, .int .i64 3, .int .i64 lost, .slice aq n cq] 56)) | (go_at_call 46; refine (heq _ _ _ (hpk.below hB2) (hpq2.below hB2)).mono ?_; rintro e we ⟨rfl, hBe⟩))
      go_ret
      have hBg := hBr.trans (hFg.below hBr.size hSw)
      exact ⟨rfl, (hBg.alloc hBg.size _).trans' hBe⟩

end

section
open Go Go.ChangeShapes Go.WideShapes Go.ChangeAt Go.RowKit

set_option maxRecDepth 100000 in
theorem bools_in1 {H : Type} {enc : TypeId × Value → H} {W : World} {base fuel : Nat} {spare : Nat → Bool} {held : Bool} {a0 : Option Addr} {len0 cap0 : Nat} {y : DataW H × List MemPlace}
    (hf : DataW.trod enc Tryz.prog W base spare held fuel 117 [.slice a0 len0 cap0] = some y) : ∃ B, BoolsIn W (.slice a0 len0 cap0) B := by
  rcases Go.Deep.open_slice1 Tryz.underlying117 (by kernel_rfl) hf with ⟨hcs, _⟩ | ⟨a, len, cap, m, n, V, D, Pl, hcs, _, hl, hm, hmm, _, hx⟩
  · simp at hcs
    obtain ⟨rfl, rfl, rfl⟩ := hcs
    exact ⟨[], none, 0, rfl, Nat.zero_le _, fun i o h => by simp at h⟩
  · simp at hcs
    obtain ⟨rfl, rfl, rfl⟩ := hcs
    have hlm : len0 ≤ m := by rw [hmm]; split <;> omega
    obtain ⟨b, off, spot⟩ := a
    have hspot : 0 < len0 → spot = none := by
      intro h
      have := World.cell?_spot (hx 0 (by omega)).1
      simpa [Addr.add] using this
    have hex : ∀ i, ∃ o : Bool, i < len0 → spot = none ∧ b < W.heap.size ∧ W.cell? ⟨b, off + i, none⟩ = some (.bool o) := by
      intro i
      by_cases hi : i < len0
      · obtain ⟨hc, ht⟩ := hx i (by omega)
        obtain ⟨x, e, -⟩ := DataW.trod_bool Tryz.underlying4 ht
        simp at e
        rw [e] at hc
        obtain rfl := hspot (by omega)
        rw [addr_add] at hc
        have hb : b < W.heap.size := by
          have a0 := hc
          unfold World.cell? at a0
          cases hb : W.heap[b]? with
          | none => simp [hb] at a0
          | some o => exact lt_of_block hb
        exact ⟨x, fun _ => ⟨rfl, hb, hc⟩⟩
      · exact ⟨false, fun h => absurd h hi⟩
    obtain ⟨f, hf'⟩ := Classical.axiomOfChoice hex
    refine ⟨(List.range len0).map f, some ⟨b, off, spot⟩, cap0, by simp, by simp; omega, ?_⟩
    intro i o hio
    have hi : i < len0 := by
      rcases Nat.lt_or_ge i len0 with h | h
      · exact h
      · simp [List.getElem?_eq_none (show ((List.range len0).map f).length ≤ i by simpa using h)] at hio
    have ho : o = f i := by
      simp [List.getElem?_map, List.getElem?_range hi] at hio
      exact hio.symm
    subst ho
    obtain ⟨g3, g4, g5⟩ := hf' i hi
    exact ⟨b, off, by rw [g3], g4, g5⟩

set_option maxRecDepth 100000 in
theorem bools_in {H : Type} {enc : TypeId × Value → H} {W : World} {r : Reach} {b0 base : Nat} {spare : Nat → Bool} {held : Bool} {v : Value} {d : DataW H} {p : List MemPlace}
    (hv : Value.okWide Tryz.prog W r b0 117 v) (h : DataW.Trod enc Tryz.prog W base spare held 117 v d p) : ∃ B, BoolsIn W v B := by
  obtain ⟨a0, len0, cap0, rfl⟩ := okWide_slice Tryz.underlying117 hv
  obtain ⟨fuel, hf⟩ := h
  exact bools_in1 hf

end

end Go.Proofs.YtdjjfjnkkgmadaaGreatDoor
