/-
  A part of the proof.
-/
import Derived.Test.YtdlcnihacaboiaaGreatDoorRows
set_option linter.all false
namespace Go.Proofs.YtdlcnihacaboiaaGreatDoor.substFree
open Go
open Go.Proofs.YtdlcnihacaboiaaGreatDoor
theorem fnName : Tryz.pinned.checked.prog.funcNamed Rows.substFreeUptoRow.func = some 3 := by kernel_rfl
theorem k1 : (Rows.substFreeUptoRow.inPlace == Program.inPlace Tryz.pinned.checked.prog 3) = true := by kernel_rfl
theorem k2 : (Rows.substFreeUptoRow.unfollowed == Program.unfollowed Tryz.pinned.checked.prog 3) = true := by kernel_rfl
end Go.Proofs.YtdlcnihacaboiaaGreatDoor.substFree
