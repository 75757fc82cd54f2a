/-
  codec.Writer: what its methods leave.
-/
import Derived.Test.YtdjjfjnkkgmadaaGreatDoorAppend
import Derived.Lib.ConvBytes
namespace Go.Proofs.YtdjjfjnkkgmadaaGreatDoor
open Go Go.RowKit

/-- Bytes whose block meets 'ok'. -/
def BytesIn (ok : Nat → Prop) (w : World) (v : Value) (l : List UInt8) : Prop :=
  (v = .slice none 0 0 ∧ l = []) ∨ ∃ (b off cap : Nat) (cs : Array Value) (t : TypeId) (f : Nat × Nat), v = .slice (some ⟨b, off, none⟩) l.length cap ∧ l.length ≤ cap ∧ cap ≤ maxLen ∧
    w.heap[b]? = some (Obj.cells cs t f) ∧ t = 5 ∧ (∀ i, i < l.length → cs[off + i]? = some (.int .u8 (l.getD i 0).toNat)) ∧ ok b

section
variable {ok : Nat → Prop} {w w' : World} {v : Value} {l : List UInt8}
theorem BytesIn.bytes (h : BytesIn ok w v l) : Bytes w v l := by
  rcases h with h | ⟨b, off, cap, cs, t, f, h1, h2, h3, h4, h5, h6, _⟩
  · exact .inl h
  · exact .inr ⟨b, off, cap, cs, t, f, h1, h2, h3, h4, h5, h6⟩
theorem BytesIn.fr {S : Nat → Prop} (h : BytesIn ok w v l) (hf : Fr S w w') (hS : ∀ b, ok b → b < w.heap.size → ¬ S b) : BytesIn ok w' v l := by
  rcases h with h | ⟨b, off, cap, cs, t, f, h1, h2, h3, h4, h5, h6, h7⟩
  · exact .inl h
  · exact .inr ⟨b, off, cap, cs, t, f, h1, h2, h3, hf.heap (hS b h7 (lt_of_block h4)) h4, h5, h6, h7⟩
theorem BytesIn.below (h : BytesIn ok w v l) (hf : Below w.heap.size w w') : BytesIn ok w' v l :=
  h.fr (S := fun _ => False) (Fr.of_below hf) (fun _ _ _ h => h)
theorem bytesIn_of_owns {base : Nat} {n : Nat} (h : w.ownsRow base 5 1 v n (bv l)) : BytesIn (base ≤ ·) w v l := by
  obtain ⟨h1, h2⟩ := h
  rw [bv_length, Nat.mul_one] at h1
  rcases h2 with ⟨hv, hn⟩ | ⟨g, cap, cur, hv, hb, hg, hle, hm, hsz, htake⟩
  · subst hn
    exact .inl ⟨hv, List.eq_nil_of_length_eq_zero h1⟩
  · subst h1
    refine .inr ⟨g, 0, cap, cur, 5, (0, 0), hv, hle, hm, hg, rfl, ?_, hb⟩
    intro i hi
    have e : (bv l)[i]? = some (.int .u8 (l.getD i 0).toNat) := by
      simp [bv, List.getElem?_eq_getElem hi]
    rw [← htake, List.getElem?_take] at e
    rw [if_pos (by omega)] at e
    simpa using e
end

/-- Block p is a Writer that has written 'out', with the error e. -/
def IsWriter (w : World) (p : Nat) (out : List UInt8) (e : Nat) : Prop :=
  ∃ (a : Option Addr) (c : Nat), w.heap[p]? = some (.cells #[.slice a out.length c, .int .i64 e] 251 (0, 0)) ∧ w.ownsRow (p + 1) 5 1 (.slice a out.length c) out.length (bv out)

/-- What a Writer's method leaves as it was. -/
def WFr (p : Nat) (w w' : World) : Prop := Below p w w' ∧ KeepT (fun t => t ≠ 251 ∧ t ≠ 5) w w'

theorem WFr.refl (p : Nat) (w : World) : WFr p w w := ⟨Below.refl _ _, KeepT.refl _ _⟩
theorem WFr.trans {p : Nat} {a b c : World} (h : WFr p a b) (k : WFr p b c) : WFr p a c := ⟨h.1.trans k.1, h.2.trans k.2⟩
theorem WFr.of_below {p : Nat} {a b : World} (h : Below a.heap.size a b) (hp : p ≤ a.heap.size) : WFr p a b := ⟨h.mono hp, KeepT.of_below h⟩

theorem IsWriter.lt {w : World} {p : Nat} {out : List UInt8} {e : Nat} (h : IsWriter w p out e) : p < w.heap.size := by
  obtain ⟨a, c, h1, _⟩ := h; exact lt_of_block h1

theorem ownsRow_below {w w' : World} {base e size : Nat} {v : Value} {n : Nat} {xs : List Value} (h : w.ownsRow base e size v n xs) (hb : Below w.heap.size w w') : w'.ownsRow base e size v n xs := by
  refine ⟨h.1, ?_⟩
  rcases h.2 with hn | ⟨g, cap, cur, rfl, hbb, hgg, rest⟩
  · exact .inl hn
  · exact .inr ⟨g, cap, cur, rfl, hbb, hb.heapS hgg, rest⟩

theorem IsWriter.below {w w' : World} {p : Nat} {out : List UInt8} {e : Nat} (h : IsWriter w p out e) (hb : Below w.heap.size w w') : IsWriter w' p out e := by
  obtain ⟨a, c, h1, h2⟩ := h
  exact ⟨a, c, hb.heapS h1, ownsRow_below h2 hb⟩

theorem IsWriter.kept {w w' : World} {p : Nat} {out : List UInt8} {e : Nat} (h : IsWriter w p out e) (hb : KeepT (fun t => t = 251 ∨ t = 5) w w') : IsWriter w' p out e := by
  obtain ⟨a, c, h1, h2⟩ := h
  refine ⟨a, c, hb _ _ _ _ h1 (.inl rfl), h2.1, ?_⟩
  rcases h2.2 with hn | ⟨g, cap, cur, hv, hbb, hgg, rest⟩
  · exact .inl hn
  · exact .inr ⟨g, cap, cur, hv, hbb, hb _ _ _ _ hgg (.inr rfl), rest⟩

/-- The Writer while parts are written. -/
def WSt (w0 : World) (own0 : Option Nat) (p : Nat) (out : List UInt8) (wr : World) : Prop :=
  ∃ (a : Option Addr) (c : Nat), wr.heap[p]? = some (.cells #[.slice a out.length c, .int .i64 0] 251 (0, 0)) ∧ wr.ownsRow (p + 1) 5 1 (.slice a out.length c) out.length (bv out) ∧
    ((Value.slice a out.length c).ownBlock = own0 ∨ ∀ g, (Value.slice a out.length c).ownBlock = some g → w0.heap.size ≤ g) ∧ Fr (fun i => i = p ∨ own0 = some i) w0 wr

theorem own_type {w : World} {base e size : Nat} {v : Value} {n : Nat} {xs : List Value} (h : w.ownsRow base e size v n xs) {g : Nat} (hg : v.ownBlock = some g) : ∃ cur, w.heap[g]? = some (.cells cur e (0, 0)) := by
  rcases h.2 with ⟨rfl, _⟩ | ⟨g', cap, cur, rfl, hbb, hgg, rest⟩
  · simp [Value.ownBlock] at hg
  · simp [Value.ownBlock] at hg
    subst hg
    exact ⟨cur, hgg⟩

set_option maxRecDepth 100000 in
set_option maxHeartbeats 1000000 in
theorem write_parts (p bp : Nat) (a : Option Addr) (c : Nat) (out : List UInt8) (ps : List (List UInt8)) (vs : List Value) (N : Nat) (w : World)
    (hp : w.heap[p]? = some (.cells #[.slice a out.length c, .int .i64 0] 251 (0, 0))) (hown : w.ownsRow (p + 1) 5 1 (.slice a out.length c) out.length (bv out))
    (hN : ∀ g, (Value.slice a out.length c).ownBlock = some g → g < N)
    (hbp : w.heap[bp]? = some (.cells vs.toArray 165 (0, 0))) (hlen : vs.length = ps.length) (hps : ps.length ≤ 2) (hpN : p < N)
    (hpart : ∀ i, i < ps.length → BytesIn (N ≤ ·) w (vs.getD i undef) (ps.getD i [])) (hb : (out ++ ps.flatten).length ≤ 140737488355328) :
    Calls Tryz.prog 164 #[.pointer (some ⟨p, 0, none⟩), .int .i64 0, .slice (some ⟨bp, 0, none⟩) ps.length ps.length] w fun e w' =>
      e = .returned (.tuple #[]) ∧ IsWriter w' p (out ++ ps.flatten) 0 ∧ WFr p w w' := by
  have c0 := blk_cell hp 0
  have c1 := blk_cell hp 1
  have f0 := blk_free hp 0
  have f1 := blk_free hp 1
  simp only [List.getElem?_toArray, List.getElem?_cons_zero, List.getElem?_cons_succ] at c0 c1
  have hlt := lt_of_block hp
  have hset : w.setCell ⟨p, 1, none⟩ (.int .i64 0) = w := setCell_self c1
  have hne : bp ≠ p := fun e => by rw [e, hp] at hbp; simp at hbp
  have hneo : ∀ g, (Value.slice a out.length c).ownBlock = some g → g ≠ bp := fun g hg e => by
    obtain ⟨cur, hc⟩ := own_type hown hg
    rw [e, hbp] at hc
    simp at hc
  have Hb := Lib.hid hb
  have Hlen := Lib.hid hlen
  clear hb hlen
  go_enter Tryz.func164, Tryz.ntmps164
  go_wp2_with fail
  go_loopw [25] (fun t25 wr => ∃ (k : Nat), t25 = .int .i64 k ∧ k ≤ ps.length ∧ WSt w (Value.slice a out.length c).ownBlock p (out ++ (ps.take k).flatten) wr) (fun t25 _ => ps.length - (intOf t25).toNat)
  case atStart =>
    refine ⟨0, rfl, Nat.zero_le _, ?_⟩
    simp only [List.take_zero, List.flatten_nil, List.append_nil]
    exact ⟨a, c, hp, hown, .inl rfl, Fr.refl _ _⟩
  case round =>
    obtain ⟨k, rfl, hk, a1, c1', h1, h2, h3, h4⟩ := hrel
    have d0 := blk_cell h1 0
    have g0 := blk_free h1 0
    simp only [List.getElem?_toArray, List.getElem?_cons_zero] at d0
    by_cases hlt2 : k < ps.length
    · have hbp' := h4.heap (k := bp) (by rintro (e | e); exact hne e; exact hneo _ e rfl) hbp
      have hcell : wr.cell? ⟨bp, k, none⟩ = some (vs.getD k undef) := by
        rw [blk_cell hbp']
        simp [List.getD, List.getElem?_eq_getElem (show k < vs.length by rw [Hlen.out]; exact hlt2)]
      have hpk := (hpart k hlt2).fr h4 (fun b hb hb' => by
        rintro (e | e)
        · have hb2 : N ≤ b := hb
          omega
        · have := hN b e
          have hb2 : N ≤ b := hb
          omega)
      have hsum : (out ++ (ps.take k).flatten).length + (ps.getD k []).length ≤ 140737488355328 := by
        have := Hb.out
        have e : ps = ps.take k ++ (ps[k] :: ps.drop (k + 1)) := by rw [← List.drop_eq_getElem_cons hlt2, List.take_append_drop]
        rw [e] at this
        simp only [List.getD, List.getElem?_eq_getElem hlt2, Option.getD_some]
        simp only [List.length_append, List.flatten_append, List.flatten_cons] at this ⊢
        omega
      have hnext : out ++ (ps.take (k + 1)).flatten = (out ++ (ps.take k).flatten) ++ ps.getD k [] := by
        rw [List.take_succ_eq_append_getElem hlt2, List.flatten_append]
        simp [List.getD, List.getElem?_eq_getElem hlt2]
      have Hnext := Lib.hid hnext
      have hpb := hpk.bytes
      clear hnext hbp' hpart hpk
      generalize vs.getD k undef = vk at *
      generalize ps.getD k [] = lk at *
      generalize out ++ (ps.take k).flatten = ok at *
      have hB4 : Below p w wr := h4.below (Nat.le_of_lt hlt) (by rintro i (rfl | e); exact Nat.le_refl _; exact Nat.le_of_lt (by have := (hown.lt i e).1; omega))
      have hsz := h4.size
      go_wp2_with (at_builtin; refine app_bytes rfl _ _ rfl (p + 1) (.slice a1 ok.length c1') vk ok lk rfl h2 rfl hpb hsum (by omega) ?_; intro a' c' w' hown' hgrow hwhere; have d1 := hgrow.cell d0 (fun e => by have := (h2.lt p e.symm).1; omega); have g1 : w'.frozen? ⟨p, 0, none⟩ = false := (World.frozen?_of_block (hgrow.block p (lt_of_block h1) (fun e => by have := (h2.lt p e.symm).1; omega))).trans g0)
      refine ⟨⟨k + 1, by go_num, by omega, a', c', ?_, ?_, ?_, ?_⟩, by simp [intOf]; omega⟩
      · rw [Hnext.out]
        have := blk_set ((hgrow.block p (lt_of_block h1) (fun e => by have := (h2.lt p e.symm).1; omega)).trans h1) 0 (.slice a' (ok ++ lk).length c')
        simpa using this
      · rw [Hnext.out]
        exact ownsRow_setCell_below hown' (by simp) _
      · rw [Hnext.out]
        rcases hwhere with e | e
        · rcases h3 with h3 | h3
          · exact .inl (e.trans h3)
          · exact .inr (fun g hg => h3 g (e.symm.trans hg))
        · exact .inr (fun g hg => by rw [e] at hg; cases hg; exact hsz)
      · have hFg : Fr (fun i => ok.length = ok.length ∧ (Value.slice a1 ok.length c1').ownBlock = some i) wr w' := ⟨hgrow.os, hgrow.tape, hgrow.output, hgrow.size, fun i hi hs => hgrow.block i hi (fun e => hs ⟨rfl, e.symm⟩)⟩
        refine (h4.trans' hFg ?_).setCell (.inl (.inl rfl)) _
        rintro i ⟨_, hi⟩
        rcases h3 with h3 | h3
        · exact .inl (.inr (h3.symm.trans hi))
        · exact .inr (h3 i hi)
    · have hk' : k = ps.length := by omega
      have hfull : ps.take k = ps := by rw [hk', List.take_length]
      rw [hfull] at h1 h2
      clear hfull
      go_wp2_with fail
      go_end0
      refine ⟨rfl, ⟨a1, c1', h1, h2⟩, ?_, ?_⟩
      · exact h4.below (Nat.le_of_lt hlt) (by rintro i (rfl | e); exact Nat.le_refl _; exact Nat.le_of_lt (by have := (hown.lt i e).1; omega))
      · refine KeepT.of_fr h4 ?_
        rintro i c t f (rfl | e) hi
        · rw [hp] at hi; cases hi; simp
        · obtain ⟨cur, hc⟩ := own_type hown e
          rw [hc] at hi; cases hi; simp


set_option maxRecDepth 100000 in
theorem newWriter_any (w : World) :
    Calls Tryz.prog 102 #[] w fun e w' => e = .returned (.pointer (some ⟨w.heap.size, 0, none⟩)) ∧ IsWriter w' w.heap.size [] 0 ∧ Below w.heap.size w w' := by
  go_enter Tryz.func102, Tryz.ntmps102
  go_wp2
  go_ret
  exact ⟨rfl, ⟨none, 0, blk_new w _, World.ownsRow_nil ..⟩, (Below.refl _ _).alloc (Nat.le_refl _) _⟩

theorem write_new (p : Nat) (out : List UInt8) (ps : List (List UInt8)) (vs : List Value) (w w1 : World) (hw : IsWriter w p out 0) (hB : Below w.heap.size w w1) (hlen : vs.length = ps.length) (hps : ps.length ≤ 2)
    (hpart : ∀ i, i < ps.length → BytesIn (w.heap.size ≤ ·) w1 (vs.getD i undef) (ps.getD i [])) (hb : (out ++ ps.flatten).length ≤ 140737488355328) :
    Calls Tryz.prog 164 #[.pointer (some ⟨p, 0, none⟩), .int .i64 0, .slice (some ⟨w1.heap.size, 0, none⟩) ps.length ps.length] (w1.alloc (.cells vs.toArray 165)) fun e w' =>
      e = .returned (.tuple #[]) ∧ IsWriter w' p (out ++ ps.flatten) 0 ∧ WFr p w w' := by
  have hlt := hw.lt
  have hB' : Below w.heap.size w (w1.alloc (.cells vs.toArray 165)) := hB.alloc hB.size _
  obtain ⟨a, c, h1, h2⟩ := hw.below hB'
  have h3 : ∀ g, (Value.slice a out.length c).ownBlock = some g → g < w.heap.size := by
    obtain ⟨a0, c0, g1, g2⟩ := hw
    intro g hg
    have e := (hB'.heapS g1).symm.trans h1
    simp at e
    obtain ⟨rfl, rfl⟩ := e
    exact (g2.lt g hg).2
  refine (write_parts p w1.heap.size a c out ps vs w.heap.size _ h1 h2 h3 (blk_new w1 _) hlen hps hlt (fun i hi => ?_) hb).mono ?_
  · exact (hpart i hi).below ((Below.refl _ _).alloc (Nat.le_refl _) _)
  · rintro e w' ⟨he, hi, hf⟩
    exact ⟨he, hi, (WFr.of_below hB' (Nat.le_of_lt hlt)).trans hf⟩

set_option maxRecDepth 100000 in
set_option maxHeartbeats 1000000 in
theorem wNumber_any (p n : Nat) (out : List UInt8) (w : World) (hw : IsWriter w p out 0) (hn : n < 9223372036854775808) (hb : out.length + 10 ≤ 140737488355328) :
    Calls Tryz.prog 103 #[.pointer (some ⟨p, 0, none⟩), .int .i64 n] w fun e w' =>
      e = .returned (.tuple #[]) ∧ IsWriter w' p (out ++ Cd.nat n) 0 ∧ WFr p w w' := by
  have hnat := natural_any n w (by omega)
  have hnl := nat_len10 n (by omega)
  go_enter Tryz.func103, Tryz.ntmps103
  go_wp2_with (go_at_call 165; refine hnat.mono ?_; rintro e w1 ⟨v, rfl, ho, hB⟩; obtain ⟨a, c, rfl⟩ := owns_slice ho)
  refine (write_new p out [Cd.nat n] [.slice a (Cd.nat n).length c] w w1 hw hB rfl (by simp) ?_ ?_).mono ?_
  · intro i hi
    obtain rfl : i = 0 := by simpa using hi
    exact bytesIn_of_owns ho
  · simp; omega
  · rintro e w' ⟨rfl, hi, hf⟩
    go_wp2_with fail
    go_end0
    exact ⟨rfl, by simpa using hi, hf⟩

theorem dl (s : ByteArray) : s.data.toList.length = s.size := Array.length_toList

/-- '[]byte(s)'. -/
theorem conv_string (w : World) (s : ByteArray) (hs : s.size ≤ maxLen) : ∃ (c : Nat) (w' : World),
    (convert 9 165 (.string s)).run Tryz.prog w = .ok (.slice (some ⟨w.heap.size, 0, none⟩) s.size c) w' ∧ BytesIn (w.heap.size ≤ ·) w' (.slice (some ⟨w.heap.size, 0, none⟩) s.size c) s.data.toList ∧ Below w.heap.size w w' ∧ w'.heap.size = w.heap.size + 1 := by
  refine ⟨grownCap w s.size 0 5, Lib.bytesWorld w 5 s, Lib.run_convert_string_bytes w 9 165 5 s Tryz.underlying9 Tryz.underlying165 Tryz.underlying5, ?_, ?_, Lib.bytesWorld_size w 5 s⟩
  · refine .inr ⟨w.heap.size, 0, grownCap w s.size 0 5, _, 5, _, ?_, ?_, grownCap_le_maxLen w _ _ _ hs, Lib.bytesWorld_at_new w 5 s, rfl, ?_, Nat.le_refl _⟩
    · rw [dl]
    · rw [dl]; exact grownCap_ge w s.size 0 5
    · intro i hi
      have hi' : i < s.size := by rwa [dl] at hi
      have := Lib.bytesWorld_cell w 5 s i hi'
      rw [World.cell?, Lib.bytesWorld_at_new w 5 s] at this
      simpa using this
  · refine ⟨?_, ?_, ?_, ?_, fun k hk => Lib.bytesWorld_at_old w 5 s k hk⟩
    · simp only [Lib.bytesWorld, World.freeze]; split <;> rfl
    · simp only [Lib.bytesWorld, World.freeze]; split <;> rfl
    · simp only [Lib.bytesWorld, World.freeze]; split <;> rfl
    · rw [Lib.bytesWorld_size]; omega

set_option maxRecDepth 100000 in
set_option maxHeartbeats 1000000 in
theorem wText_any (p : Nat) (s : ByteArray) (out : List UInt8) (w : World) (hw : IsWriter w p out 0) (hs : s.size ≤ 16777216) (hb : out.length + s.size + 10 ≤ 140737488355328) :
    Calls Tryz.prog 104 #[.pointer (some ⟨p, 0, none⟩), .string s] w fun e w' =>
      e = .returned (.tuple #[]) ∧ IsWriter w' p (out ++ Cd.nat s.size ++ s.data.toList) 0 ∧ WFr p w w' := by
  have hnat := natural_any s.size w (by omega)
  have hnl := nat_len10 s.size (by omega)
  go_enter Tryz.func104, Tryz.ntmps104
  go_wp2_with (go_at_call 165; refine hnat.mono ?_; rintro e w1 ⟨v, rfl, ho, hB⟩; obtain ⟨a, c, rfl⟩ := owns_slice ho)
  obtain ⟨c2, w2, hcv, hb2, hB2, hsz2⟩ := conv_string w1 s (by unfold maxLen; omega)
  have hl1 := bytesIn_of_owns ho
  have hB1 := hB.size
  have hbb : out.length + ((Cd.nat s.size).length + s.data.toList.length) ≤ 140737488355328 := by
    rw [dl]; omega
  have Hsz2 := Lib.hid hsz2
  have Hbb := Lib.hid hbb
  clear hsz2 ho hnl hbb
  go_simp
  go_wp2_with fail
  refine (write_new p out [Cd.nat s.size, s.data.toList] [.slice a (Cd.nat s.size).length c, .slice (some ⟨w1.heap.size, 0, none⟩) s.size c2] w w2 hw (hB.trans (hB2.mono hB1)) rfl (by simp) ?_ ?_).mono ?_
  · intro i hi
    match i, hi with
    | 0, _ => exact hl1.below hB2
    | 1, _ =>
      rcases hb2 with h | ⟨b, off, cap, cs, t, f, g1, g2, g3, g4, g5, g6, g7⟩
      · exact .inl h
      · have g7' : w1.heap.size ≤ b := g7
        exact .inr ⟨b, off, cap, cs, t, f, g1, g2, g3, g4, g5, g6, by show w.heap.size ≤ b; omega⟩
    | n + 2, h => exact absurd (show n + 2 < 2 from h) (by omega)
  · have := Hbb.out
    rw [List.length_append]
    simp only [List.flatten_cons, List.flatten_nil, List.append_nil, List.length_append]
    exact this
  · rintro e w' ⟨rfl, hi, hf⟩
    go_wp2_with fail
    go_end0
    refine ⟨rfl, ?_, hf⟩
    rw [List.append_assoc]
    simpa using hi

set_option maxRecDepth 100000 in
set_option maxHeartbeats 1000000 in
theorem wBytes_any (p : Nat) (out : List UInt8) (w : World) (hw : IsWriter w p out 0) (hb : out.length ≤ 140737488355328) :
    Calls Tryz.prog 105 #[.pointer (some ⟨p, 0, none⟩)] w fun e w' => ∃ v, e = .returned (.tuple #[v, .int .i64 0]) ∧ Bytes w' v out ∧ Below w.heap.size w w' := by
  obtain ⟨a, c, h1, h2⟩ := hw
  have c0 := blk_cell h1 0
  have c1 := blk_cell h1 1
  simp only [List.getElem?_toArray, List.getElem?_cons_zero, List.getElem?_cons_succ] at c0 c1
  have hown := World.ownsRow_made (w := w) (base := w.heap.size) (e := 5) (size := 1) #[] 0 (Nat.le_refl _) (Nat.zero_le _) rfl
  have hv' := (bytes_of_owns h2).below ((Below.refl w.heap.size w).alloc (Nat.le_refl _) (.cells #[] 5))
  have hlt := lt_of_block h1
  clear h1 h2
  go_enter Tryz.func105, Tryz.ntmps105
  go_wp2_with (at_builtin; refine app_bytes rfl _ _ rfl w.heap.size (.slice (some ⟨w.heap.size, 0, none⟩) 0 0) _ [] out rfl hown rfl hv' (by simpa using hb) (by simp) ?_; intro a' c' w' hown' hgrow _; clear hown hv')
  go_ret2
  exact ⟨_, rfl, bytes_of_owns hown', ((Below.refl w.heap.size w).alloc (Nat.le_refl _) _).grown hgrow (by simp) (fun k e => by cases e; exact Nat.le_refl _)⟩

end Go.Proofs.YtdjjfjnkkgmadaaGreatDoor
