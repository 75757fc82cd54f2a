/-
  Ports: rows of packets that are a call's own.
-/
import Derived.Test.YtdjjfjnkkgmadaaGreatDoorPortE
import Derived.Test.YtdjjfjnkkgmadaaGreatDoorPortF
namespace Go.Proofs.YtdjjfjnkkgmadaaGreatDoor
open Go Go.RowKit

theorem info123 : (Tryz.prog.info? 123).map (fun i => (i.zero, i.size, i.bytes)) = some (some (.agg #[.string ⟨#[]⟩, .string ⟨#[]⟩]), 2, 32) := by kernel_rfl

/-- The cells of packets. -/
def pvs (L : List Pk) : List Value := L.flatMap fun p => [.string p.f, .string p.b]

theorem pvs_length (L : List Pk) : (pvs L).length = L.length * 2 := by
  induction L with
  | nil => rfl
  | cons a r ih =>
    have e : pvs (a :: r) = [.string a.f, .string a.b] ++ pvs r := rfl
    rw [e, List.length_append, ih]
    simp
    omega

theorem pvs_get (L : List Pk) : ∀ (i : Nat) (p : Pk), L[i]? = some p → (pvs L)[i * 2]? = some (.string p.f) ∧ (pvs L)[i * 2 + 1]? = some (.string p.b) := by
  induction L with
  | nil => intro i p h; simp at h
  | cons a r ih =>
    intro i p h
    have e : pvs (a :: r) = .string a.f :: .string a.b :: pvs r := rfl
    cases i with
    | zero =>
      simp at h
      subst h
      exact ⟨rfl, rfl⟩
    | succ i =>
      have h' : r[i]? = some p := by simpa using h
      have := ih i p h'
      rw [e, show (i + 1) * 2 = i * 2 + 2 by omega, show i * 2 + 2 + 1 = (i * 2 + 1) + 2 by omega]
      simpa using this

theorem pvs_append (L M : List Pk) : pvs (L ++ M) = pvs L ++ pvs M := by simp [pvs]

/-- What the call owns it can read. -/
theorem pks_of_owns {w : World} {base : Nat} {v : Value} {L : List Pk} (h : w.ownsRow base 123 2 v L.length (pvs L)) (hs : ∀ p ∈ L, p.f.size ≤ maxLen ∧ p.b.size ≤ maxLen) : PksIn w v L := by
  obtain ⟨h1, h2⟩ := h
  rcases h2 with ⟨hv, hn⟩ | ⟨g, cap, cur, hv, _, hg, hle, hm, hsz, htake⟩
  · obtain rfl : L = [] := List.eq_nil_of_length_eq_zero hn
    exact ⟨none, 0, hv, Nat.zero_le _, fun i p h => by simp at h⟩
  · refine ⟨some ⟨g, 0, none⟩, cap, hv, by omega, fun i p hi => ?_⟩
    have hp := hs p (List.mem_of_getElem? hi)
    obtain ⟨e0, e1⟩ := pvs_get L i p hi
    have hil : i < L.length := by
      rcases Nat.lt_or_ge i L.length with h' | h'
      · exact h'
      · rw [List.getElem?_eq_none h'] at hi; cases hi
    rw [← htake, List.getElem?_take, if_pos (by omega)] at e0 e1
    refine ⟨hp.1, hp.2, g, 0, rfl, lt_of_block hg, ?_, ?_⟩
    · rw [blk_cell hg]; simpa using e0
    · rw [blk_cell hg]; simpa using e1

end Go.Proofs.YtdjjfjnkkgmadaaGreatDoor
