/-
  A part of the proof.
-/
import Derived.Test.YtmjngcfigfkafaaDoorSFacts
set_option linter.all false
namespace Go.Proofs
open Go Go.Duo
namespace Tryd
@[go_sem] theorem fld31_0 : fld Tryd.prog 31 0 = some (0, 1, false) := by kernel_rfl
@[go_sem] theorem fld31_1 : fld Tryd.prog 31 1 = some (1, 1, false) := by kernel_rfl
@[go_sem] theorem fld31_2 : fld Tryd.prog 31 2 = some (2, 1, false) := by kernel_rfl
@[go_sem] theorem lay60 : lay Tryd.prog 60 = some (1, false) := by kernel_rfl
@[go_sem] theorem elt60 : elt Tryd.prog 60 = some (114, 14, 240) := by kernel_rfl
@[go_sem] theorem lay62 : lay Tryd.prog 62 = some (13, true) := by kernel_rfl
@[go_sem] theorem fld62_0 : fld Tryd.prog 62 0 = some (0, 1, false) := by kernel_rfl
@[go_sem] theorem fld62_1 : fld Tryd.prog 62 1 = some (1, 12, true) := by kernel_rfl
@[go_sem] theorem lay64 : lay Tryd.prog 64 = some (2, true) := by kernel_rfl
@[go_sem] theorem zro64 : zro Tryd.prog 64 = some [V.nil, V.nil] := by kernel_rfl
@[go_sem] theorem fld64_0 : fld Tryd.prog 64 0 = some (0, 1, false) := by kernel_rfl
@[go_sem] theorem fld64_1 : fld Tryd.prog 64 1 = some (1, 1, false) := by kernel_rfl
@[go_sem] theorem plc64 : plc Tryd.prog 64 = some (fun k => ([(0, 1), (1, 1)] : List (Nat × Nat))[k]?) := by kernel_rfl
@[go_sem] theorem lay112 : lay Tryd.prog 112 = some (1, false) := by kernel_rfl
@[go_sem] theorem elt112 : elt Tryd.prog 112 = some (117, 7, 104) := by kernel_rfl
@[go_sem] theorem lay114 : lay Tryd.prog 114 = some (14, true) := by kernel_rfl
@[go_sem] theorem zro114 : zro Tryd.prog 114 = some [V.str [], V.nil, V.int IntKind.i64 0, V.str [], V.str [], V.nil, V.nil, V.int IntKind.i64 0, V.int IntKind.i64 0, V.str [], V.int IntKind.i64 0, V.nil, V.nil, V.nil] := by kernel_rfl
@[go_sem] theorem fld114_0 : fld Tryd.prog 114 0 = some (0, 1, false) := by kernel_rfl
@[go_sem] theorem fld114_1 : fld Tryd.prog 114 1 = some (1, 1, false) := by kernel_rfl
@[go_sem] theorem fld114_2 : fld Tryd.prog 114 2 = some (2, 12, true) := by kernel_rfl
@[go_sem] theorem fld117_0 : fld Tryd.prog 117 0 = some (0, 1, false) := by kernel_rfl
@[go_sem] theorem fld117_1 : fld Tryd.prog 117 1 = some (1, 6, true) := by kernel_rfl
@[go_sem] theorem ent10 : ent Tryd.prog 10 = true := by kernel_rfl
@[go_sem] theorem ent12 : ent Tryd.prog 12 = true := by kernel_rfl
@[go_sem] theorem ent27 : ent Tryd.prog 27 = true := by kernel_rfl
@[go_sem] theorem ent28 : ent Tryd.prog 28 = true := by kernel_rfl
@[go_sem] theorem ent49 : ent Tryd.prog 49 = true := by kernel_rfl
@[go_sem] theorem ent50 : ent Tryd.prog 50 = true := by kernel_rfl
@[go_sem] theorem ent51 : ent Tryd.prog 51 = true := by kernel_rfl
@[go_sem] theorem ent75 : ent Tryd.prog 75 = true := by kernel_rfl
@[go_sem] theorem ent76 : ent Tryd.prog 76 = true := by kernel_rfl
@[go_sem] theorem ent77 : ent Tryd.prog 77 = true := by kernel_rfl
@[go_sem] theorem ent78 : ent Tryd.prog 78 = true := by kernel_rfl
@[go_sem] theorem ent79 : ent Tryd.prog 79 = true := by kernel_rfl
@[go_sem] theorem ent80 : ent Tryd.prog 80 = true := by kernel_rfl
@[go_sem] theorem ent87 : ent Tryd.prog 87 = true := by kernel_rfl
@[go_sem] theorem ent100 : ent Tryd.prog 100 = true := by kernel_rfl
@[go_sem] theorem ent102 : ent Tryd.prog 102 = true := by kernel_rfl
@[go_sem] theorem ent103 : ent Tryd.prog 103 = true := by kernel_rfl
@[go_sem] theorem ent110 : ent Tryd.prog 110 = true := by kernel_rfl
@[go_sem] theorem ent112 : ent Tryd.prog 112 = true := by kernel_rfl
@[go_sem] theorem ent113 : ent Tryd.prog 113 = true := by kernel_rfl
@[go_sem] theorem ent124 : ent Tryd.prog 124 = true := by kernel_rfl
@[go_sem] theorem ent125 : ent Tryd.prog 125 = true := by kernel_rfl
@[go_sem] theorem ent139 : ent Tryd.prog 139 = true := by kernel_rfl
@[go_sem] theorem ent140 : ent Tryd.prog 140 = true := by kernel_rfl
@[go_sem] theorem ent142 : ent Tryd.prog 142 = true := by kernel_rfl
@[go_sem] theorem ent155 : ent Tryd.prog 155 = true := by kernel_rfl
@[go_sem] theorem ent158 : ent Tryd.prog 158 = true := by kernel_rfl
end Tryd
end Go.Proofs
