/-
  replevinlaw32.PipeOrder returns true.
-/
import Derived.Test.YtdjjfjnkkgmadaaGreatDoorDo
import Derived.Deep.CutRange
import Derived.Deep.CutBlock
namespace Go.Proofs.YtdjjfjnkkgmadaaGreatDoor
open Go Go.RowKit

/-- An operation of an argument. -/
structure OpC where
  kd : Nat
  ep : Int
  n : Int
  s : ByteArray
  b : Bool

/-- The cells of an operation at a place. -/
def OpAt (w : World) (b off : Nat) (o : OpC) : Prop :=
  w.cell? ⟨b, off, none⟩ = some (.int .u8 o.kd) ∧ w.cell? ⟨b, off + 1, none⟩ = some (.int .i64 o.ep) ∧ w.cell? ⟨b, off + 2, none⟩ = some (.int .i64 o.n) ∧ w.cell? ⟨b, off + 3, none⟩ = some (.string o.s) ∧ w.cell? ⟨b, off + 4, none⟩ = some (.bool o.b)

/-- Operations that came in. -/
def OpsIn (w : World) (v : Value) (L : List OpC) : Prop :=
  ∃ (a : Option Addr) (cap : Nat), v = .slice a L.length cap ∧ L.length ≤ maxLen ∧ ∀ i o, L[i]? = some o → o.kd < 256 ∧ o.s.size ≤ maxLen ∧ ∃ b off, a = some ⟨b, off, none⟩ ∧ b < w.heap.size ∧ OpAt w b (off + i * 5) o

theorem OpAt.fr {w w' : World} {b off : Nat} {o : OpC} {S : Nat → Prop} (h : OpAt w b off o) (hF : Fr S w w') (hS : ¬ S b) : OpAt w' b off o := by
  obtain ⟨h1, h2, h3, h4, h5⟩ := h
  exact ⟨hF.cell hS h1, hF.cell hS h2, hF.cell hS h3, hF.cell hS h4, hF.cell hS h5⟩

set_option maxRecDepth 100000 in
set_option maxHeartbeats 8000000 in
theorem order_any (v0 : Value) (L : List OpC) (w : World) (hv : OpsIn w v0 L) :
    Calls Tryz.prog 7 #[v0] w fun e w' => e = .returned (.bool true) ∧ Below w.heap.size w w' := by
  have hone := one_any
  have hmk : ∀ W v, HP W v 0 none → Calls Tryz.prog 34 #[v.p, oneV, .int .i64 1] W fun e w' => e = .returned (.int .i64 0) ∧ HP w' v 1 (some (Pp.fresh 1)) ∧ Fr v.S W w' := fun W v h => make_hp W v 0 h (by decide) 1 (by decide)
  have hdo := do_any
  have hget : ∀ W v k q, HP W v k (some q) → OQ q → Calls Tryz.prog 49 #[v.p, oneV, .int .i64 1] W fun e w' => e = .returned (.tuple #[q.v, .int .i64 0]) ∧ HP w' v k (some q) ∧ Fr v.S W w' := fun W v k q h hq => get_hp W v k q h 1 hq.1
  obtain ⟨a, cap, rfl, hlen, hcells⟩ := hv
  have Hc := Lib.hid hcells
  clear hcells
  generalize oneV = ov at *
  unfold VW.p at *
  unfold opV resV at hdo
  unfold Pp.v at hget
  unfold maxLen at hlen
  go_enter Tryz.func7, Tryz.ntmps7
  go_wp2_with (first | (go_at_call 24; refine (known_any _).mono ?_; rintro e w0 ⟨rfl, hB0⟩) | (go_at_call 33; refine (stateNew_any _).mono ?_; rintro e w1 ⟨rfl, rfl⟩) | (go_at_call 32; refine (viewNew_hp _ _ (base_new _)).mono ?_; rintro e w2 ⟨v, rfl, hP, hB, hS⟩; have hF := Fr.refl v.S w2) | (go_at_call 35; refine (hone _).mono ?_; rintro e wx ⟨rfl, hBx⟩; replace hP := hP.below hBx; replace hF := hF.trans (Fr.of_below hBx)))
  refine (hmk _ v hP).mono ?_
  rintro e wn ⟨rfl, hQ, hG⟩
  replace hP := hQ
  replace hF := hF.trans hG
  clear hQ hG hmk
  have hA := hB0.trans' ((below_new1 w0 (.cells #[.pointer none] 197)).trans' hB)
  have hSw : ∀ i, v.S i → w.heap.size ≤ i := fun i hi => by have := hS i hi; have := hB0.size; simp at *; omega
  go_upto_block 0 with fail
  go_cut [4, 5, 6, 7, 8] from 19 to 61 (fun s4 s5 _ _ _ wx => ∃ (inn out : ByteArray) (q : Pp) (k : Nat), s4 = .string inn ∧ s5 = .string out ∧ inn = out ++ q.b ∧ inn.size ≤ 24000 ∧ OQ q ∧ HP wx v k (some q) ∧ Fr v.S w2 wx)
  case first =>
    go_wp2_with fail
    go_loopw [4, 5, 6, 7, 8] (fun t4 t5 t6 _ _ wr => ∃ (i : Nat) (inn out : ByteArray) (q : Pp) (k : Nat), t4 = .string inn ∧ t5 = .string out ∧ t6 = .int .i64 i ∧ i ≤ 40 ∧ i ≤ L.length ∧ Hid (inn = out ++ q.b) ∧ inn.size ≤ 600 * i ∧ OQ q ∧ HP wr v k (some q) ∧ k ≤ 1 + i ∧ Fr v.S w2 wr) (fun _ _ t6 _ _ _ => 40 - (intOf t6).toNat)
    case atStart => exact ⟨0, _, _, _, _, rfl, rfl, rfl, Nat.zero_le _, Nat.zero_le _, Lib.hid rfl, Nat.le_refl _, OQ.fresh, hP, Nat.le_refl _, hF⟩
    case round =>
      obtain ⟨i, inn, out, q, k, rfl, rfl, rfl, hi40, hiL, hio, hsz, hq, hPr, hk, hFr⟩ := hrel
      by_cases hlt : i < L.length
      · by_cases h40 : i < 40
        · obtain ⟨o, ho⟩ : ∃ o, L[i]? = some o := ⟨L[i], List.getElem?_eq_getElem hlt⟩
          obtain ⟨hkd, hos, b, off, rfl, hbl, hat⟩ := Hc.out i o ho
          have hnb : ¬ v.S b := fun h => by have := hSw _ h; omega
          have hat2 := (hat.fr (Fr.of_below (S := v.S) hA) hnb).fr hFr hnb
          obtain ⟨kd, ep, n, s, bb⟩ := o
          obtain ⟨x0, x1, x2, x3, x4⟩ := hat2
          simp only at x0 x1 x2 x3 x4 hkd hos
          clear hat ho
          have hinn := hio.out
          have hqs := hq.size
          have hisz : inn.size = out.size + q.b.size := by rw [hinn, ByteArray.size_append]
          have hou : out.size ≤ 24000 := by omega
          have hin : inn.size ≤ 24000 := by omega
          clear hinn
          have hnw : ¬ v.S wr.heap.size := hPr.notS (Nat.le_refl _)
          have hPa := hPr.below (below_new1 wr (.cells #[.int .u8 kd, .int .i64 1, .int .i64 n, .string s, .bool bb] 68))
          have hba := blk_new wr (.cells #[.int .u8 kd, .int .i64 1, .int .i64 n, .string s, .bool bb] 68)
          have h8 : (kd : Int) % 8 = ((kd % 8 : Nat) : Int) := by omega
          by_cases h6 : kd % 8 = 6
          · have h6b : ((kd : Int) % 8 == 6) = true := by rw [h8, h6]; rfl
            clear h8
            go_wp2_with fail
            exact ⟨⟨i + 1, inn, out, q, k, rfl, rfl, by go_num, by omega, by omega, hio, by omega, hq, hPa, by omega, hFr.alloc _⟩, by simp [intOf]; omega⟩
          · have h6b : ((kd : Int) % 8 == 6) = false := by rw [h8]; simp; omega
            clear h8
            go_wp2_with fail
            refine (hdo _ v k q hPa (by omega) hq kd hkd h6 n s bb).mono ?_
            rintro e wd ⟨er, n', out', p, q', k', rfl, hPd, hqd, hk1, hk2, hG, hdid⟩
            have hb7 := blk_alloc (hG.heap hnw hba) (.cells #[.int .i64 er, .int .i64 n', .string out', .int .i64 p.e, .int .i64 p.r, .int .i64 p.w, .string p.b] 70)
            have hb8 := blk_new wd (.cells #[.int .i64 er, .int .i64 n', .string out', .int .i64 p.e, .int .i64 p.r, .int .i64 p.w, .string p.b] 70)
            obtain ⟨y0, y1, y2, y3, y4⟩ := blk5 hb7
            obtain ⟨r0, r1, r2, r3, r4, r5, r6⟩ := blk7 hb8
            have hltd : wr.heap.size < wd.heap.size := lt_of_block (hG.heap hnw hba)
            have hPe := hPd.below (below_new1 wd (.cells #[.int .i64 er, .int .i64 n', .string out', .int .i64 p.e, .int .i64 p.r, .int .i64 p.w, .string p.b] 70))
            have hFe := ((hFr.alloc (.cells #[.int .u8 kd, .int .i64 1, .int .i64 n, .string s, .bool bb] 68)).trans hG).alloc (.cells #[.int .i64 er, .int .i64 n', .string out', .int .i64 p.e, .int .i64 p.r, .int .i64 p.w, .string p.b] 70)
            rcases hdid with ⟨hn34, hbb⟩ | ⟨h34, rfl, c, rfl, hc, hbb⟩
            · have h3b : ((kd : Int) % 8 == 3) = false := by simp; omega
              have h4b : ((kd : Int) % 8 == 4) = false := by simp; omega
              have hos2 : out'.size ≤ 256 := by have := congrArg ByteArray.size hbb; rw [ByteArray.size_append] at this; omega
              have Hbb := Lib.hid hbb
              clear hbb hn34
              go_wp2_with fail
              exact ⟨⟨i + 1, inn, out ++ out', q', k', rfl, rfl, by go_num, by omega, by omega, Lib.hid (by rw [hio.out, Hbb.out, ByteArray.append_assoc]), by omega, hqd, hPe, by omega, hFe⟩, by simp [intOf]; omega⟩
            · have hqs2 := hqd.size
              have hc2 : c ≤ 256 := by rw [hbb, ByteArray.size_append, ByteArray.size_extract] at hqs2; omega
              have hcs : (c : Int) ≤ (s.size : Int) := by omega
              have Hbb := Lib.hid hbb
              clear hbb hqs2
              have hres : inn ++ s.extract 0 c = out ++ q'.b := by rw [hio.out, Hbb.out, ByteArray.append_assoc]
              have hsz2 : (inn ++ s.extract 0 c).size ≤ 600 * (i + 1) := by rw [ByteArray.size_append, ByteArray.size_extract]; omega
              have Hres := Lib.hid hres
              have Hsz2 := Lib.hid hsz2
              clear hres hsz2
              rcases h34 with h3 | h4
              · have h3b : ((kd : Int) % 8 == 3) = true := by simp; omega
                clear h3
                go_wp2_with fail
                exact ⟨⟨i + 1, inn ++ s.extract 0 c, out, q', k', by simp, by simp [append_none], by go_num, by omega, by omega, Hres, Hsz2.out, hqd, hPe, by omega, hFe⟩, by simp [intOf]; omega⟩
              · have h3b : ((kd : Int) % 8 == 3) = false := by simp; omega
                have h4b : ((kd : Int) % 8 == 4) = true := by simp; omega
                clear h4
                go_wp2_with fail
                exact ⟨⟨i + 1, inn ++ s.extract 0 c, out, q', k', by simp, by simp [append_none], by go_num, by omega, by omega, Hres, Hsz2.out, hqd, hPe, by omega, hFe⟩, by simp [intOf]; omega⟩
        · go_wp2_with fail
          go_meet
          exact ⟨_, _, _, _, rfl, rfl, hio.out, by omega, hq, hPr, hFr⟩
      · go_wp2_with fail
        go_meet
        exact ⟨_, _, _, _, rfl, rfl, hio.out, by omega, hq, hPr, hFr⟩
  case rest =>
    obtain ⟨inn, out, q, k, rfl, rfl, hio, hisz, hq, hP2, hF2⟩ := hcut
    subst hio
    have hqs := hq.size
    have hsum : out.size + q.b.size ≤ 24000 := by rw [← ByteArray.size_append]; exact hisz
    clear hisz
    clear hP hF hdo
    go_wp2_with (go_at_call 35; refine (hone _).mono ?_; rintro e wx ⟨rfl, hBx⟩; replace hP2 := hP2.below hBx; replace hF2 := hF2.trans (Fr.of_below hBx))
    refine (hget _ v _ q hP2 hq).mono ?_
    rintro e w10 ⟨rfl, hQ, hG⟩
    replace hF2 := (hF2.trans hG).alloc (.cells #[.int .i64 q.e, .int .i64 q.r, .int .i64 q.w, .string q.b] 28)
    obtain ⟨g0, g1, g2, g3⟩ := blk4 (blk_new w10 (.cells #[.int .i64 q.e, .int .i64 q.r, .int .i64 q.w, .string q.b] 28))
    have hall := hA.trans (hF2.below (B := w.heap.size) hA.size hSw)
    clear hQ hG
    go_wp2_with fail
    go_ret
    exact ⟨by simp; omega, hall⟩

end Go.Proofs.YtdjjfjnkkgmadaaGreatDoor
