/-
  A part of the proof.
-/
import Derived.Test.YtdlcnihacaboiaaGreatDoorRows
set_option linter.all false
namespace Go.Proofs.YtdlcnihacaboiaaGreatDoor.waitsMeet
open Go
open Go.Proofs.YtdlcnihacaboiaaGreatDoor
theorem k3 : (Rows.waitsMeetRow.recurses == Program.recurses Tryz.pinned.checked.prog 9) = true := by kernel_rfl
theorem k4 : (Rows.waitsMeetRow.named == Program.varsNamed Tryz.pinned.checked.prog 9) = true := by kernel_rfl
end Go.Proofs.YtdlcnihacaboiaaGreatDoor.waitsMeet
