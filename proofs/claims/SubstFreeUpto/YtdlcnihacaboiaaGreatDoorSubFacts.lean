/-
  A part of the proof.
-/
import Derived.Test.YtdlcnihacaboiaaGreatDoorChecked
import Derived.Test.YtdlcnihacaboiaaGreatDoorGH
import Derived.Attr
set_option linter.all false
namespace Go.Proofs
open Go Go.Duo
namespace Tryz
theorem mix : Tryz.prog.follows .mixedOrders = true := by kernel_rfl
@[go_sem] theorem lay2 : lay Tryz.prog 2 = some (1, false) := by kernel_rfl
@[go_sem] theorem u2 : Tryz.prog.underlying 2 = some (.int .i64) := by kernel_rfl
@[go_sem] theorem lay3 : lay Tryz.prog 3 = some (1, false) := by kernel_rfl
@[go_sem] theorem u5 : Tryz.prog.underlying 5 = some (.int .u8) := by kernel_rfl
@[go_sem] theorem lay9 : lay Tryz.prog 9 = some (1, false) := by kernel_rfl
@[go_sem] theorem u9 : Tryz.prog.underlying 9 = some .string := by kernel_rfl
@[go_sem] theorem lay22 : lay Tryz.prog 22 = some (1, false) := by kernel_rfl
@[go_sem] theorem elt22 : elt Tryz.prog 22 = some (9, 1, 16) := by kernel_rfl
@[go_sem] theorem lay23 : lay Tryz.prog 23 = some (1, false) := by kernel_rfl
@[go_sem] theorem elt23 : elt Tryz.prog 23 = some (36, 3, 32) := by kernel_rfl
@[go_sem] theorem lay24 : lay Tryz.prog 24 = some (1, false) := by kernel_rfl
@[go_sem] theorem elt24 : elt Tryz.prog 24 = some (26, 6, 88) := by kernel_rfl
@[go_sem] theorem lay26 : lay Tryz.prog 26 = some (6, true) := by kernel_rfl
@[go_sem] theorem zro26 : zro Tryz.prog 26 = some [V.int IntKind.i64 0, V.int IntKind.i64 0, V.str [], V.int IntKind.i64 0, V.nil, V.nil] := by kernel_rfl
@[go_sem] theorem fld26_0 : fld Tryz.prog 26 0 = some (0, 1, false) := by kernel_rfl
@[go_sem] theorem fld26_1 : fld Tryz.prog 26 1 = some (1, 1, false) := by kernel_rfl
@[go_sem] theorem fld26_2 : fld Tryz.prog 26 2 = some (2, 1, false) := by kernel_rfl
@[go_sem] theorem fld26_3 : fld Tryz.prog 26 3 = some (3, 1, false) := by kernel_rfl
@[go_sem] theorem fld26_4 : fld Tryz.prog 26 4 = some (4, 1, false) := by kernel_rfl
@[go_sem] theorem fld26_5 : fld Tryz.prog 26 5 = some (5, 1, false) := by kernel_rfl
@[go_sem] theorem plc26 : plc Tryz.prog 26 = some (fun k => ([(0, 1), (1, 1), (2, 1), (3, 1), (4, 1), (5, 1)] : List (Nat × Nat))[k]?) := by kernel_rfl
@[go_sem] theorem lay27 : lay Tryz.prog 27 = some (1, false) := by kernel_rfl
@[go_sem] theorem elt27 : elt Tryz.prog 27 = some (29, 12, 200) := by kernel_rfl
@[go_sem] theorem lay29 : lay Tryz.prog 29 = some (12, true) := by kernel_rfl
@[go_sem] theorem zro29 : zro Tryz.prog 29 = some [V.int IntKind.i64 0, V.str [], V.str [], V.nil, V.nil, V.int IntKind.i64 0, V.int IntKind.i64 0, V.str [], V.int IntKind.i64 0, V.nil, V.nil, V.nil] := by kernel_rfl
@[go_sem] theorem fld29_0 : fld Tryz.prog 29 0 = some (0, 1, false) := by kernel_rfl
@[go_sem] theorem fld29_1 : fld Tryz.prog 29 1 = some (1, 1, false) := by kernel_rfl
@[go_sem] theorem fld29_2 : fld Tryz.prog 29 2 = some (2, 1, false) := by kernel_rfl
@[go_sem] theorem fld29_3 : fld Tryz.prog 29 3 = some (3, 1, false) := by kernel_rfl
@[go_sem] theorem fld29_4 : fld Tryz.prog 29 4 = some (4, 1, false) := by kernel_rfl
@[go_sem] theorem fld29_5 : fld Tryz.prog 29 5 = some (5, 6, true) := by kernel_rfl
@[go_sem] theorem fld29_6 : fld Tryz.prog 29 6 = some (11, 1, false) := by kernel_rfl
@[go_sem] theorem plc29 : plc Tryz.prog 29 = some (fun k => ([(0, 1), (1, 1), (2, 1), (3, 1), (4, 1), (5, 6), (11, 1)] : List (Nat × Nat))[k]?) := by kernel_rfl
@[go_sem] theorem lay36 : lay Tryz.prog 36 = some (3, true) := by kernel_rfl
@[go_sem] theorem zro36 : zro Tryz.prog 36 = some [V.int IntKind.i64 0, V.str [], V.int IntKind.i64 0] := by kernel_rfl
@[go_sem] theorem fld36_0 : fld Tryz.prog 36 0 = some (0, 1, false) := by kernel_rfl
@[go_sem] theorem fld36_1 : fld Tryz.prog 36 1 = some (1, 1, false) := by kernel_rfl
@[go_sem] theorem fld36_2 : fld Tryz.prog 36 2 = some (2, 1, false) := by kernel_rfl
@[go_sem] theorem plc36 : plc Tryz.prog 36 = some (fun k => ([(0, 1), (1, 1), (2, 1)] : List (Nat × Nat))[k]?) := by kernel_rfl
@[go_sem] theorem seq36 : sEq Tryz.prog 36 = some [0, 1, 0] := by kernel_rfl
@[go_sem] theorem elt127 : elt Tryz.prog 127 = some (221, 4, 40) := by kernel_rfl
@[go_sem] theorem lay221 : lay Tryz.prog 221 = some (4, true) := by kernel_rfl
@[go_sem] theorem zro221 : zro Tryz.prog 221 = some [V.int IntKind.i64 0, V.str [], V.int IntKind.i64 0, V.int IntKind.i64 0] := by kernel_rfl
@[go_sem] theorem fld221_0 : fld Tryz.prog 221 0 = some (0, 1, false) := by kernel_rfl
@[go_sem] theorem fld221_1 : fld Tryz.prog 221 1 = some (1, 1, false) := by kernel_rfl
@[go_sem] theorem fld221_2 : fld Tryz.prog 221 2 = some (2, 1, false) := by kernel_rfl
@[go_sem] theorem plc221 : plc Tryz.prog 221 = some (fun k => ([(0, 1), (1, 1), (2, 1), (3, 1)] : List (Nat × Nat))[k]?) := by kernel_rfl
theorem ent13 : ent Tryz.prog 13 = true := by kernel_rfl
theorem ent14 : ent Tryz.prog 14 = true := by kernel_rfl
theorem ent15 : ent Tryz.prog 15 = true := by kernel_rfl
theorem ent16 : ent Tryz.prog 16 = true := by kernel_rfl
theorem ent17 : ent Tryz.prog 17 = true := by kernel_rfl
theorem ent18 : ent Tryz.prog 18 = true := by kernel_rfl
theorem ent19 : ent Tryz.prog 19 = true := by kernel_rfl
theorem ent20 : ent Tryz.prog 20 = true := by kernel_rfl
theorem ent22 : ent Tryz.prog 22 = true := by kernel_rfl
theorem ent53 : ent Tryz.prog 53 = true := by kernel_rfl
theorem ent54 : ent Tryz.prog 54 = true := by kernel_rfl
theorem ent55 : ent Tryz.prog 55 = true := by kernel_rfl
theorem ent56 : ent Tryz.prog 56 = true := by kernel_rfl
theorem ent57 : ent Tryz.prog 57 = true := by kernel_rfl
theorem ent58 : ent Tryz.prog 58 = true := by kernel_rfl
theorem ent59 : ent Tryz.prog 59 = true := by kernel_rfl
theorem ent60 : ent Tryz.prog 60 = true := by kernel_rfl
theorem ent91 : ent Tryz.prog 91 = true := by kernel_rfl
theorem ent92 : ent Tryz.prog 92 = true := by kernel_rfl
theorem ent93 : ent Tryz.prog 93 = true := by kernel_rfl
theorem ent94 : ent Tryz.prog 94 = true := by kernel_rfl
theorem ent95 : ent Tryz.prog 95 = true := by kernel_rfl
theorem ent96 : ent Tryz.prog 96 = true := by kernel_rfl
theorem ent97 : ent Tryz.prog 97 = true := by kernel_rfl
theorem ent98 : ent Tryz.prog 98 = true := by kernel_rfl
theorem ent99 : ent Tryz.prog 99 = true := by kernel_rfl
theorem ent100 : ent Tryz.prog 100 = true := by kernel_rfl
theorem ent101 : ent Tryz.prog 101 = true := by kernel_rfl
theorem ent132 : ent Tryz.prog 132 = true := by kernel_rfl
theorem ent135 : ent Tryz.prog 135 = true := by kernel_rfl
theorem ent136 : ent Tryz.prog 136 = true := by kernel_rfl
theorem ent137 : ent Tryz.prog 137 = true := by kernel_rfl
theorem ent138 : ent Tryz.prog 138 = true := by kernel_rfl
theorem ent139 : ent Tryz.prog 139 = true := by kernel_rfl
theorem ent140 : ent Tryz.prog 140 = true := by kernel_rfl
theorem ent141 : ent Tryz.prog 141 = true := by kernel_rfl
theorem ent142 : ent Tryz.prog 142 = true := by kernel_rfl
theorem ent143 : ent Tryz.prog 143 = true := by kernel_rfl
theorem ent144 : ent Tryz.prog 144 = true := by kernel_rfl
theorem ent145 : ent Tryz.prog 145 = true := by kernel_rfl
theorem ent146 : ent Tryz.prog 146 = true := by kernel_rfl
theorem ent177 : ent Tryz.prog 177 = true := by kernel_rfl
theorem ent178 : ent Tryz.prog 178 = true := by kernel_rfl
theorem ent179 : ent Tryz.prog 179 = true := by kernel_rfl
theorem ent180 : ent Tryz.prog 180 = true := by kernel_rfl
theorem ent184 : ent Tryz.prog 184 = true := by kernel_rfl
theorem ent185 : ent Tryz.prog 185 = true := by kernel_rfl
theorem ent187 : ent Tryz.prog 187 = true := by kernel_rfl
theorem ent188 : ent Tryz.prog 188 = true := by kernel_rfl
theorem ent189 : ent Tryz.prog 189 = true := by kernel_rfl
theorem ent190 : ent Tryz.prog 190 = true := by kernel_rfl
theorem ent192 : ent Tryz.prog 192 = true := by kernel_rfl
theorem ent213 : ent Tryz.prog 213 = true := by kernel_rfl
theorem ent214 : ent Tryz.prog 214 = true := by kernel_rfl
theorem ent219 : ent Tryz.prog 219 = true := by kernel_rfl
theorem ent220 : ent Tryz.prog 220 = true := by kernel_rfl
theorem ent221 : ent Tryz.prog 221 = true := by kernel_rfl
theorem ent247 : ent Tryz.prog 247 = true := by kernel_rfl
theorem ent248 : ent Tryz.prog 248 = true := by kernel_rfl
theorem ent252 : ent Tryz.prog 252 = true := by kernel_rfl
end Tryz
end Go.Proofs
