/-
  A part of the proof.
-/
import Derived.Test.YtdlcnihacaboiaaGreatDoorRows
set_option linter.all false
namespace Go.Proofs.YtdlcnihacaboiaaGreatDoor.waitsThreads
open Go
open Go.Proofs.YtdlcnihacaboiaaGreatDoor
theorem fnName : Tryz.pinned.checked.prog.funcNamed Rows.waitsThreadsRow.func = some 6 := by kernel_rfl
theorem k1 : (Rows.waitsThreadsRow.inPlace == Program.inPlace Tryz.pinned.checked.prog 6) = true := by kernel_rfl
theorem k2 : (Rows.waitsThreadsRow.unfollowed == Program.unfollowed Tryz.pinned.checked.prog 6) = true := by kernel_rfl
end Go.Proofs.YtdlcnihacaboiaaGreatDoor.waitsThreads
