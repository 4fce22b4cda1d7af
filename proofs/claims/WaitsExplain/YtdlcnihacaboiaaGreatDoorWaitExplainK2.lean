/-
  A part of the proof.
-/
import Derived.Test.YtdlcnihacaboiaaGreatDoorRows
set_option linter.all false
namespace Go.Proofs.YtdlcnihacaboiaaGreatDoor.waitsExplain
open Go
open Go.Proofs.YtdlcnihacaboiaaGreatDoor
theorem k3:(Rows.waitsExplainRow.recurses == Program.recurses Tryz.pinned.checked.prog 7) = true:=by kernel_rfl
theorem k4:(Rows.waitsExplainRow.named == Program.varsNamed Tryz.pinned.checked.prog 7) = true:=by kernel_rfl
end Go.Proofs.YtdlcnihacaboiaaGreatDoor.waitsExplain
