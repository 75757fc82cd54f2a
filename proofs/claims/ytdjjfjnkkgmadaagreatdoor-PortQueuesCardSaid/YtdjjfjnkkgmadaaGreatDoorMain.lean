/-
  The program's main word: a closed fact of the program, alone in its text for the kernel's room.
-/
import Derived.Test.YtdjjfjnkkgmadaaGreatDoorRows
import Derived.KernelRfl
namespace Go.Proofs.YtdjjfjnkkgmadaaGreatDoor
open Go
theorem main_is : Tryz.prog.mainIs = some (true, "01d9390c779121418bffdd38619da0e0589022fe073f05aca4c221008ea5f8e4".toList) := by kernel_rfl
end Go.Proofs.YtdjjfjnkkgmadaaGreatDoor
