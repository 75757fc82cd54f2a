/-
  That calls of the given program may be entered: a closed fact of the program, in parts (in one piece the kernel has no room for it).
-/
import Derived.Test.YtdjjfjnkkgmadaaGreatDoorRows
import Derived.JoinedOf
import Derived.KernelRfl
namespace Go.Proofs.YtdjjfjnkkgmadaaGreatDoor
open Go

theorem me_head : (behindMainWord (wordsSigns Tryz.prog.initOrder.toList)).head? = some "cut".toList := by kernel_rfl
theorem me_lays : Tryz.prog.laysLater = false := by kernel_rfl
theorem me_refl : Tryz.prog.bearsReflect = false := by kernel_rfl
theorem me_door : Tryz.prog.doorFits [] = true := by kernel_rfl
theorem strip_cut (r : List (List Char)) : stripLifts liftWords ("cut".toList :: r) = ([], "cut".toList :: r) := by rfl

theorem mayEnter : Tryz.prog.mayEnter = true := by
  have h := me_head
  unfold Program.mayEnter
  generalize behindMainWord (wordsSigns Tryz.prog.initOrder.toList) = L at *
  cases L with
  | nil => cases h
  | cons c rest =>
    obtain rfl : c = "cut".toList := Option.some.inj h
    simp only [strip_cut, me_lays, me_refl, me_door]
    rfl

end Go.Proofs.YtdjjfjnkkgmadaaGreatDoor
