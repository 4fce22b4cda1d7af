/-
  A part of the proof.
-/
import Derived.Test.YtdlcnihacaboiaaGreatDoorRows
set_option linter.all false
namespace Go.Proofs.YtdlcnihacaboiaaGreatDoor.waitsMatchReference
open Go
open Go.Proofs.YtdlcnihacaboiaaGreatDoor
theorem k3:(Rows.waitsMatchReferenceRow.recurses == Program.recurses Tryz.pinned.checked.prog 5) = true:=by kernel_rfl
theorem k4:(Rows.waitsMatchReferenceRow.named == Program.varsNamed Tryz.pinned.checked.prog 5) = true:=by kernel_rfl
end Go.Proofs.YtdlcnihacaboiaaGreatDoor.waitsMatchReference
