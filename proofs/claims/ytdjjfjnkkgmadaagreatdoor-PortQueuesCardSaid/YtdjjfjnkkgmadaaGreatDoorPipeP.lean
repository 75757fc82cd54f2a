/-
  Pipes, plain: what is encoded is decoded.
-/
import Derived.Test.YtdjjfjnkkgmadaaGreatDoorPipe3
namespace Go.Proofs.YtdjjfjnkkgmadaaGreatDoor
open Go Go.RowKit

theorem rnum_nat {most : Int} {u : Nat} (h1 : (u : Int) ≤ most) (h2 : u ≤ 1073741824) (r : List UInt8) : Cd.rnum most (Cd.nat u ++ r) 0 = (u, r, 0) := by
  have hd := Cd.dec_nat 9 u true r (by omega) (.inl rfl) (by omega)
  simp only [Cd.rnum, if_true, Cd.num, hd]
  rw [if_neg (by omega)]
  simp

theorem rtxt_nat {most : Int} {t : List UInt8} (h1 : (t.length : Int) ≤ most) (h2 : t.length ≤ 1073741824) : Cd.rtxt most (Cd.nat t.length ++ t) 0 = (t, [], 0) := by
  have hd := Cd.dec_nat 9 t.length true t (by omega) (.inl rfl) (by omega)
  simp only [Cd.rtxt, if_true, Cd.txt, hd]
  rw [if_neg (by omega), if_neg (by simp)]
  simp

theorem read_enc {p : Pp} (h : p.err = 0) : Pp.read p.enc = (p, 0) := by
  obtain ⟨⟨h1, h2⟩, ⟨h3, h4⟩, ⟨h5, h6⟩, h7, h8⟩ := Pp.err_zero h
  have hl := dl p.b
  have e : p.enc = Cd.nat p.e.toNat ++ (Cd.nat p.r.toNat ++ (Cd.nat p.w.toNat ++ (Cd.nat p.b.data.toList.length ++ p.b.data.toList))) := by
    rw [hl]; simp [Pp.enc]
  have a := rnum_nat (most := 1073741824) (u := p.e.toNat) (by omega) (by omega)
  have b := rnum_nat (most := 64) (u := p.r.toNat) (by omega) (by omega)
  have c := rnum_nat (most := 64) (u := p.w.toNat) (by omega) (by omega)
  have d := rtxt_nat (most := 256) (t := p.b.data.toList) (by omega) (by omega)
  unfold Pp.read
  rw [e]
  simp only [a, b, c, d]
  simp [Cd.rclose, bs_of, Int.toNat_of_nonneg h1, Int.toNat_of_nonneg h3, Int.toNat_of_nonneg h5]

theorem dec_enc {p : Pp} (h : p.err = 0) : Pp.dec p.enc = (p, 0) := by
  simp only [Pp.dec, read_enc h, h, and_self, if_true]

theorem pget_enc {p : Pp} (h : p.err = 0) : pget (bs p.enc) p.e = (p, 0) := by
  simp [pget, bs_list, dec_enc h]

theorem shV_upd (g : Nm → Option ByteArray) (N : List (Nm × Ch)) (x : Nm) (c : Ch) : shV g (upd N x c) x = (c.val, !c.absent) := by
  simp [shV, look_upd]

end Go.Proofs.YtdjjfjnkkgmadaaGreatDoor
