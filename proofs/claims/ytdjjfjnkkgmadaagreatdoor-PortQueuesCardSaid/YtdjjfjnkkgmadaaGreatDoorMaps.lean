/-
  The maps of a view: keys are names, elements are changes.
-/
import Derived.Test.YtdjjfjnkkgmadaaGreatDoorBase
import Derived.DeepKeys4
import Derived.Maps.Keyed
import Derived.Carry
namespace Go.Proofs.YtdjjfjnkkgmadaaGreatDoor
open Go Go.RowKit

/-- A name of an object. -/
structure Nm where
  k : Int
  o : ByteArray
  n : Int
  i : Int
  t : ByteArray
  deriving DecidableEq

/-- A name, as a value. -/
def Nm.v (x : Nm) : Value := .agg #[.int .i64 x.k, .string x.o, .int .i64 x.n, .int .i64 x.i, .string x.t]

theorem Nm.v_inj {x y : Nm} (h : x.v = y.v) : x = y := by
  cases x; cases y
  simp [Nm.v] at h
  simp [h]

/-- A change: its value, and whether the object is absent. -/
structure Ch where
  val : ByteArray
  absent : Bool
  deriving DecidableEq

/-- The change of a name, as a value. -/
def chV (x : Nm) (c : Ch) : Value := .agg #[.int .i64 x.k, .string x.o, .int .i64 x.n, .int .i64 x.i, .string x.t, .string c.val, .bool c.absent]

structure Nm.ok (x : Nm) : Prop where
  k : (Lit.int .i64 x.k).wf = true
  o : x.o.size ≤ maxLen
  n : (Lit.int .i64 x.n).wf = true
  i : (Lit.int .i64 x.i).wf = true
  t : x.t.size ≤ maxLen

theorem laid : laidOutB Tryz.prog = true := by kernel_rfl
theorem law91 : Maps.Keyed Tryz.prog 91 := Maps.Keyed.of_law (deep_law_laid laid (m := 4) (by omega) (of_decide_eq_true (by kernel_rfl)) (by kernel_rfl) (by rw [Tryz.underlying91]))

theorem key_type91 : Tryz.prog.keyType 91 = true := by kernel_rfl
theorem cellsOf91 : Tryz.prog.cellsOf 91 = 5 := by kernel_rfl

theorem keyOf_nm {x : Nm} (h : x.ok) : ∃ l, keyOf Tryz.prog 91 x.v = some l := by
  unfold keyOf
  rw [Tryz.underlying91]
  have hf : x.v.formed Tryz.prog 91 = true := by simp [Nm.v, Value.formed, Tryz.underlying91, cellsOf91]
  simp only [key_type91, hf, Bool.and_self, if_true]
  have c3 : Tryz.prog.cellsOf 3 = 1 := by kernel_rfl
  have c45 : Tryz.prog.cellsOf 45 = 1 := by kernel_rfl
  have c9 : Tryz.prog.cellsOf 9 = 1 := by kernel_rfl
  obtain ⟨d, hd⟩ : ∃ d, Tryz.prog.types.size + 1 = d + 2 := ⟨Tryz.prog.types.size - 1, by have : 0 < Tryz.prog.types.size := of_decide_eq_true (by kernel_rfl); omega⟩
  rw [hd]
  simp [Program.keyLits, Tryz.underlying91, Tryz.underlying3, Tryz.underlying45, Tryz.underlying9, Nm.v, Value.cells, cellsOf91, c3, c45, c9, h.k, h.n, h.i, h.o, h.t]

/-- A map of a view holds these pairs, in this order. -/
def MapIs (w : World) (b : Nat) (L : List (Nm × Ch)) : Prop :=
  ∃ es : Array MapEntry, w.heap[b]? = some (.map es es.size) ∧ es.toList.map (fun e => (e.key, e.val)) = L.map (fun p => (p.1.v, chV p.1 p.2)) ∧ (L.map (·.1)).Nodup ∧ (∀ p ∈ L, p.1.ok) ∧
    es.toList.map (·.born) = List.range es.size

def look (L : List (Nm × Ch)) (x : Nm) : Option Ch := (L.find? (fun p => p.1 = x)).map (·.2)
def upd (L : List (Nm × Ch)) (x : Nm) (c : Ch) : List (Nm × Ch) := if x ∈ L.map (·.1) then L.map (fun p => if p.1 = x then (x, c) else p) else L ++ [(x, c)]

theorem look_upd (L : List (Nm × Ch)) (x y : Nm) (c : Ch) : look (upd L x c) y = if y = x then some c else look L y := by
  unfold look upd
  split
  · rename_i h
    induction L with
    | nil => simp at h
    | cons p L ih =>
      by_cases e : p.1 = x
      · by_cases e2 : y = x
        · subst e2
          simp [e]
        · have : ¬ x = y := fun e' => e2 e'.symm
          simp only [List.map_cons, e, if_true, List.find?_cons, this, decide_false, e2, if_false]
          by_cases hx : x ∈ L.map (·.1)
          · have := ih hx
            simpa [e2] using this
          · have : L.map (fun p => if p.1 = x then (x, c) else p) = L := by
              refine (List.map_congr_left fun q hq => ?_).trans (List.map_id L)
              have : q.1 ≠ x := fun e' => hx (by rw [← e']; exact List.mem_map_of_mem hq)
              simp [this]
            rw [this]
      · have hx : x ∈ L.map (·.1) := by simpa [Ne.symm e, eq_comm, e] using h
        have ih' := ih hx
        by_cases e2 : p.1 = y
        · have e3 : ¬ y = x := fun e' => e (e2.trans e')
          simp [e2, e3]
        · simp only [List.map_cons, e, if_false, List.find?_cons, e2, decide_false]
          exact ih'
  · rename_i h
    by_cases e2 : y = x
    · subst e2
      have : L.find? (fun p => decide (p.1 = y)) = none := by
        rw [List.find?_eq_none]
        intro p hp
        have : p.1 ≠ y := fun e' => h (by rw [← e']; exact List.mem_map_of_mem hp)
        simp [this]
      simp [List.find?_append, this]
    · have : ¬ x = y := fun e' => e2 e'.symm
      simp [List.find?_append, e2, this]

theorem MapIs.keep {w w' : World} {b : Nat} {L : List (Nm × Ch)} (h : MapIs w b L) (hb : w'.heap[b]? = w.heap[b]?) : MapIs w' b L := by
  obtain ⟨es, h1, h2⟩ := h
  exact ⟨es, hb.trans h1, h2⟩
theorem MapIs.lt {w : World} {b : Nat} {L : List (Nm × Ch)} (h : MapIs w b L) : b < w.heap.size := by
  obtain ⟨es, h1, h2⟩ := h
  exact lt_of_block h1
theorem MapIs.new (w : World) : MapIs (w.alloc (.map #[] 0)) w.heap.size [] :=
  ⟨#[], blk_new w _, rfl, by simp, by simp, rfl⟩

theorem map_len {es : Array MapEntry} {L : List (Nm × Ch)} (h : es.toList.map (fun e => (e.key, e.val)) = L.map (fun p => (p.1.v, chV p.1 p.2))) : es.size = L.length := by
  have := congrArg List.length h
  simpa using this

theorem map_at {es : Array MapEntry} {L : List (Nm × Ch)} (h : es.toList.map (fun e => (e.key, e.val)) = L.map (fun p => (p.1.v, chV p.1 p.2))) {j : Nat} {e : MapEntry} (he : es.toList[j]? = some e) :
    ∃ p, L[j]? = some p ∧ e.key = p.1.v ∧ e.val = chV p.1 p.2 := by
  have h1 := congrArg (fun l => l[j]?) h
  simp only [List.getElem?_map, he, Option.map_some] at h1
  cases hp : L[j]? with
  | none => rw [hp] at h1; simp at h1
  | some p =>
    rw [hp] at h1
    simp only [Option.map_some, Option.some.injEq, Prod.mk.injEq] at h1
    exact ⟨p, rfl, h1.1, h1.2⟩

/-- What a search finds. -/
theorem find_map {L : List (Nm × Ch)} {es : Array MapEntry} (h : es.toList.map (fun e => (e.key, e.val)) = L.map (fun p => (p.1.v, chV p.1 p.2))) (hok : ∀ p ∈ L, p.1.ok) {x : Nm} (hx : x.ok) (w : World) :
    ((Instr.findKey 91 x.v es.toList).run Tryz.prog w = .ok none w ∧ x ∉ L.map (·.1)) ∨
    ∃ j c e, (Instr.findKey 91 x.v es.toList).run Tryz.prog w = .ok (some (j, chV x c)) w ∧ L[j]? = some (x, c) ∧ es[j]? = some e ∧ e.key = x.v := by
  obtain ⟨lx, hlx⟩ := keyOf_nm hx
  have hall : ∀ e ∈ es.toList, ∃ l, keyOf Tryz.prog 91 e.key = some l := fun e he => by
    obtain ⟨j, hj, rfl⟩ := List.getElem_of_mem he
    obtain ⟨p, hp, hk, _⟩ := map_at h (List.getElem?_eq_getElem hj)
    rw [hk]
    exact keyOf_nm (hok p (List.mem_of_getElem? hp))
  rcases law91.find w hlx es.toList hall with ⟨h1, h2⟩ | ⟨j, e, h1, h2, h3⟩
  · refine .inl ⟨h1, fun hm => ?_⟩
    obtain ⟨p, hp, rfl⟩ := List.mem_map.1 hm
    obtain ⟨j, hj, rfl⟩ := List.getElem_of_mem hp
    have hl := map_len h
    have hj' : j < es.toList.length := by simpa [hl] using hj
    obtain ⟨p', hp', hk, _⟩ := map_at h (List.getElem?_eq_getElem hj')
    rw [List.getElem?_eq_getElem hj] at hp'
    cases hp'
    exact h2 _ (List.getElem_mem hj') hk
  · obtain ⟨p, hp, hk, hv⟩ := map_at h h2
    have hpx : p.1 = x := Nm.v_inj (hk.symm.trans h3)
    refine .inr ⟨j, p.2, e, ?_, ?_, by simpa using h2, h3⟩
    · rw [h1, hv, hpx]
    · rw [hp, ← hpx]

theorem look_mem {L : List (Nm × Ch)} (hn : (L.map (·.1)).Nodup) {j : Nat} {x : Nm} {c : Ch} (h : L[j]? = some (x, c)) : look L x = some c := by
  induction L generalizing j with
  | nil => simp at h
  | cons p L ih =>
    cases j with
    | zero =>
      simp at h
      subst h
      simp [look]
    | succ j =>
      rw [List.getElem?_cons_succ] at h
      rw [List.map_cons, List.nodup_cons] at hn
      have hne : ¬ p.1 = x := fun e => hn.1 (by rw [e]; exact List.mem_map.2 ⟨_, List.mem_of_getElem? h, rfl⟩)
      have := ih hn.2 h
      unfold look at *
      simp [hne, this]
theorem look_not {L : List (Nm × Ch)} {x : Nm} (h : x ∉ L.map (·.1)) : look L x = none := by
  unfold look
  rw [List.find?_eq_none.2]
  · rfl
  · intro p hp
    have : p.1 ≠ x := fun e' => h (by rw [← e']; exact List.mem_map_of_mem hp)
    simp [this]

/-- A search in a map of a view. -/
theorem run_look {w : World} {b : Nat} {L : List (Nm × Ch)} (h : MapIs w b L) {x : Nm} (hx : x.ok) :
    (Instr.lookup 192 (.map (some b)) x.v true).run Tryz.prog w = .ok (match look L x with | some c => .tuple #[chV x c, .bool true] | none => .tuple #[chV ⟨0, ⟨#[]⟩, 0, 0, ⟨#[]⟩⟩ ⟨⟨#[]⟩, false⟩, .bool false]) w := by
  obtain ⟨es, h1, h2, h3, h4, h5⟩ := h
  obtain ⟨lx, hlx⟩ := keyOf_nm hx
  have hz : ∀ w, (zeroValue 149).run Tryz.prog w = .ok (chV ⟨0, ⟨#[]⟩, 0, 0, ⟨#[]⟩⟩ ⟨⟨#[]⟩, false⟩) w := fun _ => by kernel_rfl
  have hc := law91.check w es.isEmpty hlx
  rcases find_map h2 h4 hx w with ⟨f1, f2⟩ | ⟨j, c, e, f1, f2, _⟩
  · rw [look_not f2]
    simp [Instr.lookup, getObj, Sem.run, Sem.run_bind, h1, hc, f1, hz, Result.andThen]
  · rw [look_mem h3 f2]
    simp [Instr.lookup, getObj, Sem.run, Sem.run_bind, h1, hc, f1, Result.andThen]

/-- A store into a map of a view. -/
theorem run_upd {w : World} {b : Nat} {L : List (Nm × Ch)} (h : MapIs w b L) {x : Nm} (hx : x.ok) (c : Ch) :
    ∃ w', (Instr.mapUpdate 192 (.map (some b)) x.v (chV x c)).run Tryz.prog w = .ok () w' ∧ MapIs w' b (upd L x c) ∧ Fr (fun k => k = b) w w' := by
  obtain ⟨es, h1, h2, h3, h4, h5⟩ := h
  obtain ⟨lx, hlx⟩ := keyOf_nm hx
  have hc := law91.check w false hlx
  have hblt := lt_of_block h1
  rcases find_map h2 h4 hx w with ⟨f1, f2⟩ | ⟨j, c0, e, f1, f2, f3, f4⟩
  · refine ⟨{ w with heap := w.heap.setIfInBounds b (.map (es.push { key := x.v, val := chV x c, born := es.size }) (es.size + 1)) }, ?_, ⟨es.push { key := x.v, val := chV x c, born := es.size }, ?_, ?_, ?_, ?_, ?_⟩, ?_⟩
    · simp [Instr.mapUpdate, getObj, setObj, Sem.run, Sem.run_bind, h1, hc, f1, Result.andThen]
    · simp [hblt]
    · rw [upd, if_neg f2]
      simp [h2]
    · rw [upd, if_neg f2, List.map_append, List.nodup_append]
      refine ⟨h3, by simp, fun a ha b' hb' => ?_⟩
      simp at hb'
      subst hb'
      exact fun e => f2 (by rw [← e]; exact ha)
    · rw [upd, if_neg f2]
      intro p hp
      rcases List.mem_append.1 hp with hp | hp
      · exact h4 p hp
      · simp at hp
        rw [hp]; exact hx
    · simp [h5, List.range_succ]
    · refine ⟨rfl, rfl, rfl, by simp, fun k hk hne => ?_⟩
      simp [Ne.symm hne]
  · have hxm : x ∈ L.map (·.1) := List.mem_map.2 ⟨_, List.mem_of_getElem? f2, rfl⟩
    have hst := law91.stays w hlx
    have hej : es.toList[j]? = some e := by simpa using f3
    refine ⟨{ w with heap := w.heap.setIfInBounds b (.map (es.modify j fun e => { e with key := x.v, val := chV x c }) es.size) }, ?_, ⟨es.modify j fun e => { e with key := x.v, val := chV x c }, ?_, ?_, ?_, ?_, ?_⟩, ?_⟩
    · simp [Instr.mapUpdate, getObj, setObj, Sem.run, Sem.run_bind, h1, hc, f1, f3, f4, hst, Result.andThen]
    · simp [hblt]
    · rw [upd, if_pos hxm]
      apply List.ext_getElem?
      intro m
      have hm := congrArg (fun l => l[m]?) h2
      simp only [List.getElem?_map] at hm
      simp only [Array.toList_modify, List.getElem?_map, List.getElem?_modify]
      by_cases e : j = m
      · subst e
        simp [hej, f2]
      · cases hL : L[m]? with
        | none => simpa [e, hL] using hm
        | some p =>
          have hne : ¬ p.1 = x := fun e' => by
            have hk : ∀ {a b : Nat} {p q : Nm × Ch}, L[a]? = some p → L[b]? = some q → p.1 = q.1 → a = b := fun {a b p q} ha hb hpq => by
              have ha' : (L.map (·.1))[a]? = some p.1 := by simp [ha]
              have hb' : (L.map (·.1))[b]? = some q.1 := by simp [hb]
              have hlt : a < (L.map (·.1)).length := (List.getElem?_eq_some_iff.1 ha').1
              exact (List.getElem?_inj hlt h3).1 (by rw [ha', hb', hpq])
            exact e (hk f2 hL e'.symm)
          rw [hL] at hm
          simpa [e, hne] using hm
    · rw [upd, if_pos hxm, List.map_map]
      rw [show ((fun p : Nm × Ch => p.1) ∘ fun p => if p.1 = x then (x, c) else p) = fun p => p.1 from ?_]
      · exact h3
      · funext p
        simp only [Function.comp]
        split
        · rename_i h; exact h.symm
        · rfl
    · rw [upd, if_pos hxm]
      intro p hp
      obtain ⟨q, hq, rfl⟩ := List.mem_map.1 hp
      split
      · exact hx
      · exact h4 q hq
    · rw [Array.size_modify, ← h5]
      apply List.ext_getElem?
      intro m
      simp only [Array.toList_modify, List.getElem?_map, List.getElem?_modify]
      by_cases e : j = m
      · subst e
        simp [hej]
      · simp [e]
    · refine ⟨rfl, rfl, rfl, by simp, fun k hk hne => ?_⟩
      simp [Ne.symm hne]

end Go.Proofs.YtdjjfjnkkgmadaaGreatDoor
