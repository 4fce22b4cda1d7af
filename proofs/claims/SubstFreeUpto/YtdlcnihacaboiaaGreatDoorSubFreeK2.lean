/-
  A part of the proof.
-/
import Derived.Test.YtdlcnihacaboiaaGreatDoorRows
set_option linter.all false
namespace Go.Proofs.YtdlcnihacaboiaaGreatDoor.substFree
open Go
open Go.Proofs.YtdlcnihacaboiaaGreatDoor
theorem k3 : (Rows.substFreeUptoRow.recurses == Program.recurses Tryz.pinned.checked.prog 3) = true := by kernel_rfl
theorem k4 : (Rows.substFreeUptoRow.named == Program.varsNamed Tryz.pinned.checked.prog 3) = true := by kernel_rfl
end Go.Proofs.YtdlcnihacaboiaaGreatDoor.substFree
