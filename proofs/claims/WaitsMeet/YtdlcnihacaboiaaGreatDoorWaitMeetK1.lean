/-
  A part of the proof.
-/
import Derived.Test.YtdlcnihacaboiaaGreatDoorRows
set_option linter.all false
namespace Go.Proofs.YtdlcnihacaboiaaGreatDoor.waitsMeet
open Go
open Go.Proofs.YtdlcnihacaboiaaGreatDoor
theorem fnName : Tryz.pinned.checked.prog.funcNamed Rows.waitsMeetRow.func = some 9 := by kernel_rfl
theorem k1 : (Rows.waitsMeetRow.inPlace == Program.inPlace Tryz.pinned.checked.prog 9) = true := by kernel_rfl
theorem k2 : (Rows.waitsMeetRow.unfollowed == Program.unfollowed Tryz.pinned.checked.prog 9) = true := by kernel_rfl
end Go.Proofs.YtdlcnihacaboiaaGreatDoor.waitsMeet
