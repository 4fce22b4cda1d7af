/-
  A part of the proof.
-/
import Derived.Test.YtdlcnihacaboiaaGreatDoorRows
set_option linter.all false
namespace Go.Proofs.YtdlcnihacaboiaaGreatDoor.waitsThreads
open Go
open Go.Proofs.YtdlcnihacaboiaaGreatDoor
theorem k3 : (Rows.waitsThreadsRow.recurses == Program.recurses Tryz.pinned.checked.prog 6) = true := by kernel_rfl
theorem k4 : (Rows.waitsThreadsRow.named == Program.varsNamed Tryz.pinned.checked.prog 6) = true := by kernel_rfl
end Go.Proofs.YtdlcnihacaboiaaGreatDoor.waitsThreads
