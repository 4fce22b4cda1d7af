/-
  A part of the proof.
-/
import Derived.Test.YtdlcnihacaboiaaGreatDoorRows
set_option linter.all false
namespace Go.Proofs.YtdlcnihacaboiaaGreatDoor.waitsMatchReference
open Go
open Go.Proofs.YtdlcnihacaboiaaGreatDoor
theorem fnName:Tryz.pinned.checked.prog.funcNamed Rows.waitsMatchReferenceRow.func = some 5:=by kernel_rfl
theorem k1:(Rows.waitsMatchReferenceRow.inPlace == Program.inPlace Tryz.pinned.checked.prog 5) = true:=by kernel_rfl
theorem k2:(Rows.waitsMatchReferenceRow.unfollowed == Program.unfollowed Tryz.pinned.checked.prog 5) = true:=by kernel_rfl
end Go.Proofs.YtdlcnihacaboiaaGreatDoor.waitsMatchReference
