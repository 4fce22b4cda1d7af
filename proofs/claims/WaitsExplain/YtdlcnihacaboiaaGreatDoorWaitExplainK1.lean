/-
  A part of the proof.
-/
import Derived.Test.YtdlcnihacaboiaaGreatDoorRows
set_option linter.all false
namespace Go.Proofs.YtdlcnihacaboiaaGreatDoor.waitsExplain
open Go
open Go.Proofs.YtdlcnihacaboiaaGreatDoor
theorem fnName:Tryz.pinned.checked.prog.funcNamed Rows.waitsExplainRow.func = some 7:=by kernel_rfl
theorem k1:(Rows.waitsExplainRow.inPlace == Program.inPlace Tryz.pinned.checked.prog 7) = true:=by kernel_rfl
theorem k2:(Rows.waitsExplainRow.unfollowed == Program.unfollowed Tryz.pinned.checked.prog 7) = true:=by kernel_rfl
end Go.Proofs.YtdlcnihacaboiaaGreatDoor.waitsExplain
