/-
  The layout of the types of the given program: facts of the kernel, printed by a program.
-/
import Derived.Test.YtmjngcfigfkafaaDoorChecked
import Derived.Test.YtmjngcfigfkafaaDoorDReal
set_option linter.all false
namespace Go.Proofs
open Go Go.Duo
namespace Tryd
theorem mix : Tryd.prog.follows .mixedOrders = true := by kernel_rfl
theorem lay0 : lay Tryd.prog 0 = some (1, false) := by kernel_rfl
theorem zro0 : zro Tryd.prog 0 = some [V.undef] := by kernel_rfl
theorem lay1 : lay Tryd.prog 1 = some (1, false) := by kernel_rfl
theorem zro1 : zro Tryd.prog 1 = some [V.nilfunc] := by kernel_rfl
theorem lay2 : lay Tryd.prog 2 = some (1, false) := by kernel_rfl
theorem zro2 : zro Tryd.prog 2 = some [V.int IntKind.i64 0] := by kernel_rfl
theorem u2 : Tryd.prog.underlying 2 = some (.int .i64) := by kernel_rfl
theorem lay3 : lay Tryd.prog 3 = some (1, false) := by kernel_rfl
theorem zro3 : zro Tryd.prog 3 = some [V.int IntKind.i64 0] := by kernel_rfl
theorem u3 : Tryd.prog.underlying 3 = some (.int .i64) := by kernel_rfl
theorem lay4 : lay Tryd.prog 4 = some (1, false) := by kernel_rfl
theorem zro4 : zro Tryd.prog 4 = some [V.bool false] := by kernel_rfl
theorem u4 : Tryd.prog.underlying 4 = some .bool := by kernel_rfl
theorem lay5 : lay Tryd.prog 5 = some (1, false) := by kernel_rfl
theorem zro5 : zro Tryd.prog 5 = some [V.int IntKind.u8 0] := by kernel_rfl
theorem u5 : Tryd.prog.underlying 5 = some (.int .u8) := by kernel_rfl
theorem lay6 : lay Tryd.prog 6 = some (1, false) := by kernel_rfl
theorem zro6 : zro Tryd.prog 6 = some [V.int IntKind.u8 0] := by kernel_rfl
theorem u6 : Tryd.prog.underlying 6 = some (.int .u8) := by kernel_rfl
theorem lay7 : lay Tryd.prog 7 = some (4, true) := by kernel_rfl
theorem zro7 : zro Tryd.prog 7 = some [V.int IntKind.i64 0, V.int IntKind.i64 0, V.bool false, V.int IntKind.u8 0] := by kernel_rfl
theorem fld7_0 : fld Tryd.prog 7 0 = some (0, 1, false) := by kernel_rfl
theorem fld7_1 : fld Tryd.prog 7 1 = some (1, 1, false) := by kernel_rfl
theorem fld7_2 : fld Tryd.prog 7 2 = some (2, 1, false) := by kernel_rfl
theorem fld7_3 : fld Tryd.prog 7 3 = some (3, 1, false) := by kernel_rfl
theorem plc7 : plc Tryd.prog 7 = some (fun k => ([(0, 1), (1, 1), (2, 1), (3, 1)] : List (Nat × Nat))[k]?) := by kernel_rfl
theorem seq7 : sEq Tryd.prog 7 = some [0, 0, 2, 0] := by kernel_rfl
theorem lay8 : lay Tryd.prog 8 = some (4, true) := by kernel_rfl
theorem zro8 : zro Tryd.prog 8 = some [V.int IntKind.i64 0, V.int IntKind.i64 0, V.bool false, V.int IntKind.u8 0] := by kernel_rfl
theorem fld8_0 : fld Tryd.prog 8 0 = some (0, 1, false) := by kernel_rfl
theorem fld8_1 : fld Tryd.prog 8 1 = some (1, 1, false) := by kernel_rfl
theorem fld8_2 : fld Tryd.prog 8 2 = some (2, 1, false) := by kernel_rfl
theorem fld8_3 : fld Tryd.prog 8 3 = some (3, 1, false) := by kernel_rfl
theorem plc8 : plc Tryd.prog 8 = some (fun k => ([(0, 1), (1, 1), (2, 1), (3, 1)] : List (Nat × Nat))[k]?) := by kernel_rfl
theorem seq8 : sEq Tryd.prog 8 = some [0, 0, 2, 0] := by kernel_rfl
theorem lay9 : lay Tryd.prog 9 = some (1, false) := by kernel_rfl
theorem zro9 : zro Tryd.prog 9 = some [V.str []] := by kernel_rfl
theorem u9 : Tryd.prog.underlying 9 = some .string := by kernel_rfl
theorem lay10 : lay Tryd.prog 10 = some (1, false) := by kernel_rfl
theorem zro10 : zro Tryd.prog 10 = some [V.str []] := by kernel_rfl
theorem u10 : Tryd.prog.underlying 10 = some .string := by kernel_rfl
theorem lay11 : lay Tryd.prog 11 = some (1, false) := by kernel_rfl
theorem zro11 : zro Tryd.prog 11 = some [V.str []] := by kernel_rfl
theorem u11 : Tryd.prog.underlying 11 = some .string := by kernel_rfl
theorem lay12 : lay Tryd.prog 12 = some (1, false) := by kernel_rfl
theorem zro12 : zro Tryd.prog 12 = some [V.int IntKind.u64 0] := by kernel_rfl
theorem u12 : Tryd.prog.underlying 12 = some (.int .u64) := by kernel_rfl
theorem lay13 : lay Tryd.prog 13 = some (2, true) := by kernel_rfl
theorem zro13 : zro Tryd.prog 13 = some [V.str [], V.int IntKind.u64 0] := by kernel_rfl
theorem fld13_0 : fld Tryd.prog 13 0 = some (0, 1, false) := by kernel_rfl
theorem fld13_1 : fld Tryd.prog 13 1 = some (1, 1, false) := by kernel_rfl
theorem plc13 : plc Tryd.prog 13 = some (fun k => ([(0, 1), (1, 1)] : List (Nat × Nat))[k]?) := by kernel_rfl
theorem lay14 : lay Tryd.prog 14 = some (2, true) := by kernel_rfl
theorem zro14 : zro Tryd.prog 14 = some [V.str [], V.int IntKind.u64 0] := by kernel_rfl
theorem fld14_0 : fld Tryd.prog 14 0 = some (0, 1, false) := by kernel_rfl
theorem fld14_1 : fld Tryd.prog 14 1 = some (1, 1, false) := by kernel_rfl
theorem plc14 : plc Tryd.prog 14 = some (fun k => ([(0, 1), (1, 1)] : List (Nat × Nat))[k]?) := by kernel_rfl
theorem lay15 : lay Tryd.prog 15 = some (1, false) := by kernel_rfl
theorem zro15 : zro Tryd.prog 15 = some [V.nilptr] := by kernel_rfl
theorem lay16 : lay Tryd.prog 16 = some (1, false) := by kernel_rfl
theorem zro16 : zro Tryd.prog 16 = some [V.nilptr] := by kernel_rfl
theorem lay17 : lay Tryd.prog 17 = some (1, false) := by kernel_rfl
theorem zro17 : zro Tryd.prog 17 = some [V.nilptr] := by kernel_rfl
theorem lay18 : lay Tryd.prog 18 = some (1, true) := by kernel_rfl
theorem zro18 : zro Tryd.prog 18 = some [V.nilptr] := by kernel_rfl
theorem fld18_0 : fld Tryd.prog 18 0 = some (0, 1, false) := by kernel_rfl
theorem plc18 : plc Tryd.prog 18 = some (fun k => ([(0, 1)] : List (Nat × Nat))[k]?) := by kernel_rfl
theorem lay19 : lay Tryd.prog 19 = some (1, true) := by kernel_rfl
theorem zro19 : zro Tryd.prog 19 = some [V.nilptr] := by kernel_rfl
theorem fld19_0 : fld Tryd.prog 19 0 = some (0, 1, false) := by kernel_rfl
theorem plc19 : plc Tryd.prog 19 = some (fun k => ([(0, 1)] : List (Nat × Nat))[k]?) := by kernel_rfl
theorem lay20 : lay Tryd.prog 20 = some (1, false) := by kernel_rfl
theorem zro20 : zro Tryd.prog 20 = some [V.niliface] := by kernel_rfl
theorem lay21 : lay Tryd.prog 21 = some (1, false) := by kernel_rfl
theorem zro21 : zro Tryd.prog 21 = some [V.int IntKind.i32 0] := by kernel_rfl
theorem u21 : Tryd.prog.underlying 21 = some (.int .i32) := by kernel_rfl
theorem lay22 : lay Tryd.prog 22 = some (1, false) := by kernel_rfl
theorem elt22 : elt Tryd.prog 22 = some (9, 1, 16) := by kernel_rfl
theorem zro22 : zro Tryd.prog 22 = some [V.nil] := by kernel_rfl
theorem lay23 : lay Tryd.prog 23 = some (1, false) := by kernel_rfl
theorem elt23 : elt Tryd.prog 23 = some (31, 3, 32) := by kernel_rfl
theorem zro23 : zro Tryd.prog 23 = some [V.nil] := by kernel_rfl
theorem lay24 : lay Tryd.prog 24 = some (1, false) := by kernel_rfl
theorem elt24 : elt Tryd.prog 24 = some (26, 6, 88) := by kernel_rfl
theorem zro24 : zro Tryd.prog 24 = some [V.nil] := by kernel_rfl
theorem lay25 : lay Tryd.prog 25 = some (6, true) := by kernel_rfl
theorem zro25 : zro Tryd.prog 25 = some [V.int IntKind.i64 0, V.int IntKind.i64 0, V.str [], V.int IntKind.i64 0, V.nil, V.nil] := by kernel_rfl
theorem fld25_0 : fld Tryd.prog 25 0 = some (0, 1, false) := by kernel_rfl
theorem fld25_1 : fld Tryd.prog 25 1 = some (1, 1, false) := by kernel_rfl
theorem fld25_2 : fld Tryd.prog 25 2 = some (2, 1, false) := by kernel_rfl
theorem fld25_3 : fld Tryd.prog 25 3 = some (3, 1, false) := by kernel_rfl
theorem fld25_4 : fld Tryd.prog 25 4 = some (4, 1, false) := by kernel_rfl
theorem fld25_5 : fld Tryd.prog 25 5 = some (5, 1, false) := by kernel_rfl
theorem plc25 : plc Tryd.prog 25 = some (fun k => ([(0, 1), (1, 1), (2, 1), (3, 1), (4, 1), (5, 1)] : List (Nat × Nat))[k]?) := by kernel_rfl
theorem lay26 : lay Tryd.prog 26 = some (6, true) := by kernel_rfl
theorem zro26 : zro Tryd.prog 26 = some [V.int IntKind.i64 0, V.int IntKind.i64 0, V.str [], V.int IntKind.i64 0, V.nil, V.nil] := by kernel_rfl
theorem fld26_0 : fld Tryd.prog 26 0 = some (0, 1, false) := by kernel_rfl
theorem fld26_1 : fld Tryd.prog 26 1 = some (1, 1, false) := by kernel_rfl
theorem fld26_2 : fld Tryd.prog 26 2 = some (2, 1, false) := by kernel_rfl
theorem fld26_3 : fld Tryd.prog 26 3 = some (3, 1, false) := by kernel_rfl
theorem fld26_4 : fld Tryd.prog 26 4 = some (4, 1, false) := by kernel_rfl
theorem fld26_5 : fld Tryd.prog 26 5 = some (5, 1, false) := by kernel_rfl
theorem plc26 : plc Tryd.prog 26 = some (fun k => ([(0, 1), (1, 1), (2, 1), (3, 1), (4, 1), (5, 1)] : List (Nat × Nat))[k]?) := by kernel_rfl
theorem lay27 : lay Tryd.prog 27 = some (1, false) := by kernel_rfl
theorem elt27 : elt Tryd.prog 27 = some (29, 12, 200) := by kernel_rfl
theorem zro27 : zro Tryd.prog 27 = some [V.nil] := by kernel_rfl
theorem lay28 : lay Tryd.prog 28 = some (12, true) := by kernel_rfl
theorem zro28 : zro Tryd.prog 28 = some [V.int IntKind.i64 0, V.str [], V.str [], V.nil, V.nil, V.int IntKind.i64 0, V.int IntKind.i64 0, V.str [], V.int IntKind.i64 0, V.nil, V.nil, V.nil] := by kernel_rfl
theorem fld28_0 : fld Tryd.prog 28 0 = some (0, 1, false) := by kernel_rfl
theorem fld28_1 : fld Tryd.prog 28 1 = some (1, 1, false) := by kernel_rfl
theorem fld28_2 : fld Tryd.prog 28 2 = some (2, 1, false) := by kernel_rfl
theorem fld28_3 : fld Tryd.prog 28 3 = some (3, 1, false) := by kernel_rfl
theorem fld28_4 : fld Tryd.prog 28 4 = some (4, 1, false) := by kernel_rfl
theorem fld28_5 : fld Tryd.prog 28 5 = some (5, 6, true) := by kernel_rfl
theorem fld28_6 : fld Tryd.prog 28 6 = some (11, 1, false) := by kernel_rfl
theorem plc28 : plc Tryd.prog 28 = some (fun k => ([(0, 1), (1, 1), (2, 1), (3, 1), (4, 1), (5, 6), (11, 1)] : List (Nat × Nat))[k]?) := by kernel_rfl
theorem lay29 : lay Tryd.prog 29 = some (12, true) := by kernel_rfl
theorem zro29 : zro Tryd.prog 29 = some [V.int IntKind.i64 0, V.str [], V.str [], V.nil, V.nil, V.int IntKind.i64 0, V.int IntKind.i64 0, V.str [], V.int IntKind.i64 0, V.nil, V.nil, V.nil] := by kernel_rfl
theorem fld29_0 : fld Tryd.prog 29 0 = some (0, 1, false) := by kernel_rfl
theorem fld29_1 : fld Tryd.prog 29 1 = some (1, 1, false) := by kernel_rfl
theorem fld29_2 : fld Tryd.prog 29 2 = some (2, 1, false) := by kernel_rfl
theorem fld29_3 : fld Tryd.prog 29 3 = some (3, 1, false) := by kernel_rfl
theorem fld29_4 : fld Tryd.prog 29 4 = some (4, 1, false) := by kernel_rfl
theorem fld29_5 : fld Tryd.prog 29 5 = some (5, 6, true) := by kernel_rfl
theorem fld29_6 : fld Tryd.prog 29 6 = some (11, 1, false) := by kernel_rfl
theorem plc29 : plc Tryd.prog 29 = some (fun k => ([(0, 1), (1, 1), (2, 1), (3, 1), (4, 1), (5, 6), (11, 1)] : List (Nat × Nat))[k]?) := by kernel_rfl
theorem lay30 : lay Tryd.prog 30 = some (3, true) := by kernel_rfl
theorem zro30 : zro Tryd.prog 30 = some [V.int IntKind.i64 0, V.str [], V.int IntKind.i64 0] := by kernel_rfl
theorem fld30_0 : fld Tryd.prog 30 0 = some (0, 1, false) := by kernel_rfl
theorem fld30_1 : fld Tryd.prog 30 1 = some (1, 1, false) := by kernel_rfl
theorem fld30_2 : fld Tryd.prog 30 2 = some (2, 1, false) := by kernel_rfl
theorem plc30 : plc Tryd.prog 30 = some (fun k => ([(0, 1), (1, 1), (2, 1)] : List (Nat × Nat))[k]?) := by kernel_rfl
theorem seq30 : sEq Tryd.prog 30 = some [0, 1, 0] := by kernel_rfl
theorem lay31 : lay Tryd.prog 31 = some (3, true) := by kernel_rfl
theorem zro31 : zro Tryd.prog 31 = some [V.int IntKind.i64 0, V.str [], V.int IntKind.i64 0] := by kernel_rfl
theorem fld31_0 : fld Tryd.prog 31 0 = some (0, 1, false) := by kernel_rfl
theorem fld31_1 : fld Tryd.prog 31 1 = some (1, 1, false) := by kernel_rfl
theorem fld31_2 : fld Tryd.prog 31 2 = some (2, 1, false) := by kernel_rfl
theorem plc31 : plc Tryd.prog 31 = some (fun k => ([(0, 1), (1, 1), (2, 1)] : List (Nat × Nat))[k]?) := by kernel_rfl
theorem seq31 : sEq Tryd.prog 31 = some [0, 1, 0] := by kernel_rfl
theorem lay32 : lay Tryd.prog 32 = some (1, false) := by kernel_rfl
theorem zro32 : zro Tryd.prog 32 = some [V.nilfunc] := by kernel_rfl
theorem lay33 : lay Tryd.prog 33 = some (1, false) := by kernel_rfl
theorem zro33 : zro Tryd.prog 33 = some [V.nilfunc] := by kernel_rfl
theorem lay34 : lay Tryd.prog 34 = some (1, false) := by kernel_rfl
theorem zro34 : zro Tryd.prog 34 = some [V.nilfunc] := by kernel_rfl
theorem lay35 : lay Tryd.prog 35 = some (1, false) := by kernel_rfl
theorem zro35 : zro Tryd.prog 35 = some [V.nilfunc] := by kernel_rfl
theorem lay36 : lay Tryd.prog 36 = some (1, false) := by kernel_rfl
theorem zro36 : zro Tryd.prog 36 = some [V.int IntKind.i64 0] := by kernel_rfl
theorem u36 : Tryd.prog.underlying 36 = some (.int .i64) := by kernel_rfl
theorem lay37 : lay Tryd.prog 37 = some (1, false) := by kernel_rfl
theorem zro37 : zro Tryd.prog 37 = some [V.undef] := by kernel_rfl
theorem lay38 : lay Tryd.prog 38 = some (1, false) := by kernel_rfl
theorem zro38 : zro Tryd.prog 38 = some [V.nilfunc] := by kernel_rfl
theorem lay39 : lay Tryd.prog 39 = some (1, false) := by kernel_rfl
theorem zro39 : zro Tryd.prog 39 = some [V.nilfunc] := by kernel_rfl
theorem lay40 : lay Tryd.prog 40 = some (1, false) := by kernel_rfl
theorem zro40 : zro Tryd.prog 40 = some [V.nilfunc] := by kernel_rfl
theorem lay41 : lay Tryd.prog 41 = some (1, false) := by kernel_rfl
theorem zro41 : zro Tryd.prog 41 = some [V.nilfunc] := by kernel_rfl
theorem lay42 : lay Tryd.prog 42 = some (1, false) := by kernel_rfl
theorem elt42 : elt Tryd.prog 42 = some (89, 4, 4) := by kernel_rfl
theorem zro42 : zro Tryd.prog 42 = some [V.nil] := by kernel_rfl
theorem lay43 : lay Tryd.prog 43 = some (1, false) := by kernel_rfl
theorem zro43 : zro Tryd.prog 43 = some [V.nilfunc] := by kernel_rfl
theorem lay44 : lay Tryd.prog 44 = some (2, true) := by kernel_rfl
theorem zro44 : zro Tryd.prog 44 = some [V.nil, V.nil] := by kernel_rfl
theorem fld44_0 : fld Tryd.prog 44 0 = some (0, 1, false) := by kernel_rfl
theorem fld44_1 : fld Tryd.prog 44 1 = some (1, 1, false) := by kernel_rfl
theorem plc44 : plc Tryd.prog 44 = some (fun k => ([(0, 1), (1, 1)] : List (Nat × Nat))[k]?) := by kernel_rfl
theorem lay45 : lay Tryd.prog 45 = some (2, true) := by kernel_rfl
theorem zro45 : zro Tryd.prog 45 = some [V.nil, V.nil] := by kernel_rfl
theorem fld45_0 : fld Tryd.prog 45 0 = some (0, 1, false) := by kernel_rfl
theorem fld45_1 : fld Tryd.prog 45 1 = some (1, 1, false) := by kernel_rfl
theorem plc45 : plc Tryd.prog 45 = some (fun k => ([(0, 1), (1, 1)] : List (Nat × Nat))[k]?) := by kernel_rfl
theorem lay46 : lay Tryd.prog 46 = some (1, false) := by kernel_rfl
theorem zro46 : zro Tryd.prog 46 = some [V.nilfunc] := by kernel_rfl
theorem lay47 : lay Tryd.prog 47 = some (1, false) := by kernel_rfl
theorem elt47 : elt Tryd.prog 47 = some (68, 4, 32) := by kernel_rfl
theorem zro47 : zro Tryd.prog 47 = some [V.nil] := by kernel_rfl
theorem lay48 : lay Tryd.prog 48 = some (1, false) := by kernel_rfl
theorem zro48 : zro Tryd.prog 48 = some [V.nilfunc] := by kernel_rfl
theorem lay49 : lay Tryd.prog 49 = some (1, false) := by kernel_rfl
theorem elt49 : elt Tryd.prog 49 = some (91, 4, 32) := by kernel_rfl
theorem zro49 : zro Tryd.prog 49 = some [V.nil] := by kernel_rfl
theorem lay50 : lay Tryd.prog 50 = some (1, false) := by kernel_rfl
theorem zro50 : zro Tryd.prog 50 = some [V.nilfunc] := by kernel_rfl
theorem lay51 : lay Tryd.prog 51 = some (1, false) := by kernel_rfl
theorem zro51 : zro Tryd.prog 51 = some [V.nilfunc] := by kernel_rfl
theorem lay52 : lay Tryd.prog 52 = some (1, false) := by kernel_rfl
theorem elt52 : elt Tryd.prog 52 = some (73, 2, 16) := by kernel_rfl
theorem zro52 : zro Tryd.prog 52 = some [V.nil] := by kernel_rfl
theorem lay53 : lay Tryd.prog 53 = some (1, false) := by kernel_rfl
theorem zro53 : zro Tryd.prog 53 = some [V.nilfunc] := by kernel_rfl
theorem lay54 : lay Tryd.prog 54 = some (1, false) := by kernel_rfl
theorem zro54 : zro Tryd.prog 54 = some [V.nilfunc] := by kernel_rfl
theorem lay55 : lay Tryd.prog 55 = some (1, false) := by kernel_rfl
theorem zro55 : zro Tryd.prog 55 = some [V.nilfunc] := by kernel_rfl
theorem lay56 : lay Tryd.prog 56 = some (1, false) := by kernel_rfl
theorem elt56 : elt Tryd.prog 56 = some (3, 1, 8) := by kernel_rfl
theorem zro56 : zro Tryd.prog 56 = some [V.nil] := by kernel_rfl
theorem lay57 : lay Tryd.prog 57 = some (1, false) := by kernel_rfl
theorem zro57 : zro Tryd.prog 57 = some [V.nilfunc] := by kernel_rfl
theorem lay58 : lay Tryd.prog 58 = some (1, false) := by kernel_rfl
theorem zro58 : zro Tryd.prog 58 = some [V.nilfunc] := by kernel_rfl
theorem lay59 : lay Tryd.prog 59 = some (1, false) := by kernel_rfl
theorem zro59 : zro Tryd.prog 59 = some [V.nilfunc] := by kernel_rfl
theorem lay60 : lay Tryd.prog 60 = some (1, false) := by kernel_rfl
theorem elt60 : elt Tryd.prog 60 = some (114, 14, 240) := by kernel_rfl
theorem zro60 : zro Tryd.prog 60 = some [V.nil] := by kernel_rfl
theorem lay61 : lay Tryd.prog 61 = some (13, true) := by kernel_rfl
theorem zro61 : zro Tryd.prog 61 = some [V.nil, V.int IntKind.i64 0, V.str [], V.str [], V.nil, V.nil, V.int IntKind.i64 0, V.int IntKind.i64 0, V.str [], V.int IntKind.i64 0, V.nil, V.nil, V.nil] := by kernel_rfl
theorem fld61_0 : fld Tryd.prog 61 0 = some (0, 1, false) := by kernel_rfl
theorem fld61_1 : fld Tryd.prog 61 1 = some (1, 12, true) := by kernel_rfl
theorem plc61 : plc Tryd.prog 61 = some (fun k => ([(0, 1), (1, 12)] : List (Nat × Nat))[k]?) := by kernel_rfl
theorem lay62 : lay Tryd.prog 62 = some (13, true) := by kernel_rfl
theorem zro62 : zro Tryd.prog 62 = some [V.nil, V.int IntKind.i64 0, V.str [], V.str [], V.nil, V.nil, V.int IntKind.i64 0, V.int IntKind.i64 0, V.str [], V.int IntKind.i64 0, V.nil, V.nil, V.nil] := by kernel_rfl
theorem fld62_0 : fld Tryd.prog 62 0 = some (0, 1, false) := by kernel_rfl
theorem fld62_1 : fld Tryd.prog 62 1 = some (1, 12, true) := by kernel_rfl
theorem plc62 : plc Tryd.prog 62 = some (fun k => ([(0, 1), (1, 12)] : List (Nat × Nat))[k]?) := by kernel_rfl
theorem lay63 : lay Tryd.prog 63 = some (1, false) := by kernel_rfl
theorem zro63 : zro Tryd.prog 63 = some [V.nilfunc] := by kernel_rfl
theorem lay64 : lay Tryd.prog 64 = some (2, true) := by kernel_rfl
theorem zro64 : zro Tryd.prog 64 = some [V.nil, V.nil] := by kernel_rfl
theorem fld64_0 : fld Tryd.prog 64 0 = some (0, 1, false) := by kernel_rfl
theorem fld64_1 : fld Tryd.prog 64 1 = some (1, 1, false) := by kernel_rfl
theorem plc64 : plc Tryd.prog 64 = some (fun k => ([(0, 1), (1, 1)] : List (Nat × Nat))[k]?) := by kernel_rfl
theorem lay65 : lay Tryd.prog 65 = some (1, false) := by kernel_rfl
theorem zro65 : zro Tryd.prog 65 = some [V.nilfunc] := by kernel_rfl
theorem lay66 : lay Tryd.prog 66 = some (1, false) := by kernel_rfl
theorem zro66 : zro Tryd.prog 66 = some [V.nilfunc] := by kernel_rfl
theorem lay67 : lay Tryd.prog 67 = some (4, true) := by kernel_rfl
theorem zro67 : zro Tryd.prog 67 = some [V.int IntKind.i64 0, V.int IntKind.i64 0, V.int IntKind.i64 0, V.bool false] := by kernel_rfl
theorem fld67_0 : fld Tryd.prog 67 0 = some (0, 1, false) := by kernel_rfl
theorem fld67_1 : fld Tryd.prog 67 1 = some (1, 1, false) := by kernel_rfl
theorem fld67_2 : fld Tryd.prog 67 2 = some (2, 1, false) := by kernel_rfl
theorem fld67_3 : fld Tryd.prog 67 3 = some (3, 1, false) := by kernel_rfl
theorem plc67 : plc Tryd.prog 67 = some (fun k => ([(0, 1), (1, 1), (2, 1), (3, 1)] : List (Nat × Nat))[k]?) := by kernel_rfl
theorem seq67 : sEq Tryd.prog 67 = some [0, 0, 0, 2] := by kernel_rfl
theorem lay68 : lay Tryd.prog 68 = some (4, true) := by kernel_rfl
theorem zro68 : zro Tryd.prog 68 = some [V.int IntKind.i64 0, V.int IntKind.i64 0, V.int IntKind.i64 0, V.bool false] := by kernel_rfl
theorem fld68_0 : fld Tryd.prog 68 0 = some (0, 1, false) := by kernel_rfl
theorem fld68_1 : fld Tryd.prog 68 1 = some (1, 1, false) := by kernel_rfl
theorem fld68_2 : fld Tryd.prog 68 2 = some (2, 1, false) := by kernel_rfl
theorem fld68_3 : fld Tryd.prog 68 3 = some (3, 1, false) := by kernel_rfl
theorem plc68 : plc Tryd.prog 68 = some (fun k => ([(0, 1), (1, 1), (2, 1), (3, 1)] : List (Nat × Nat))[k]?) := by kernel_rfl
theorem seq68 : sEq Tryd.prog 68 = some [0, 0, 0, 2] := by kernel_rfl
theorem lay69 : lay Tryd.prog 69 = some (1, false) := by kernel_rfl
theorem zro69 : zro Tryd.prog 69 = some [V.undef] := by kernel_rfl
theorem lay70 : lay Tryd.prog 70 = some (1, false) := by kernel_rfl
theorem zro70 : zro Tryd.prog 70 = some [V.nilfunc] := by kernel_rfl
theorem lay71 : lay Tryd.prog 71 = some (1, false) := by kernel_rfl
theorem zro71 : zro Tryd.prog 71 = some [V.nilfunc] := by kernel_rfl
theorem lay72 : lay Tryd.prog 72 = some (1, false) := by kernel_rfl
theorem zro72 : zro Tryd.prog 72 = some [V.nilfunc] := by kernel_rfl
theorem lay73 : lay Tryd.prog 73 = some (2, true) := by kernel_rfl
theorem elt73 : elt Tryd.prog 73 = none := by kernel_rfl
theorem arr73 : arr Tryd.prog 73 = some (2, 1, false) := by kernel_rfl
theorem zro73 : zro Tryd.prog 73 = some [V.int IntKind.i64 0, V.int IntKind.i64 0] := by kernel_rfl
theorem plc73 : plc Tryd.prog 73 = some (fun k => some (k * 1, 1)) := by kernel_rfl
theorem seq73 : sEq Tryd.prog 73 = some [0, 0] := by kernel_rfl
theorem lay74 : lay Tryd.prog 74 = some (1, false) := by kernel_rfl
theorem zro74 : zro Tryd.prog 74 = some [V.undef] := by kernel_rfl
theorem lay75 : lay Tryd.prog 75 = some (1, false) := by kernel_rfl
theorem zro75 : zro Tryd.prog 75 = some [V.nilfunc] := by kernel_rfl
theorem lay76 : lay Tryd.prog 76 = some (1, false) := by kernel_rfl
theorem zro76 : zro Tryd.prog 76 = some [V.undef] := by kernel_rfl
theorem lay77 : lay Tryd.prog 77 = some (1, false) := by kernel_rfl
theorem zro77 : zro Tryd.prog 77 = some [V.nilfunc] := by kernel_rfl
theorem lay78 : lay Tryd.prog 78 = some (1, false) := by kernel_rfl
theorem zro78 : zro Tryd.prog 78 = some [V.nilfunc] := by kernel_rfl
theorem lay79 : lay Tryd.prog 79 = some (1, false) := by kernel_rfl
theorem zro79 : zro Tryd.prog 79 = some [V.nilfunc] := by kernel_rfl
theorem lay80 : lay Tryd.prog 80 = some (1, false) := by kernel_rfl
theorem zro80 : zro Tryd.prog 80 = some [V.nilfunc] := by kernel_rfl
theorem lay81 : lay Tryd.prog 81 = some (1, false) := by kernel_rfl
theorem zro81 : zro Tryd.prog 81 = some [V.nilfunc] := by kernel_rfl
theorem lay82 : lay Tryd.prog 82 = some (1, false) := by kernel_rfl
theorem zro82 : zro Tryd.prog 82 = some [V.nilfunc] := by kernel_rfl
theorem lay83 : lay Tryd.prog 83 = some (1, false) := by kernel_rfl
theorem zro83 : zro Tryd.prog 83 = some [V.undef] := by kernel_rfl
theorem lay84 : lay Tryd.prog 84 = some (1, false) := by kernel_rfl
theorem zro84 : zro Tryd.prog 84 = some [V.undef] := by kernel_rfl
theorem lay85 : lay Tryd.prog 85 = some (1, false) := by kernel_rfl
theorem zro85 : zro Tryd.prog 85 = some [V.nilfunc] := by kernel_rfl
theorem lay86 : lay Tryd.prog 86 = some (1, false) := by kernel_rfl
theorem zro86 : zro Tryd.prog 86 = some [V.nilfunc] := by kernel_rfl
theorem lay87 : lay Tryd.prog 87 = some (1, false) := by kernel_rfl
theorem zro87 : zro Tryd.prog 87 = some [V.nilfunc] := by kernel_rfl
theorem lay88 : lay Tryd.prog 88 = some (4, true) := by kernel_rfl
theorem zro88 : zro Tryd.prog 88 = some [V.int IntKind.u8 0, V.bool false, V.int IntKind.u8 0, V.int IntKind.u8 0] := by kernel_rfl
theorem fld88_0 : fld Tryd.prog 88 0 = some (0, 1, false) := by kernel_rfl
theorem fld88_1 : fld Tryd.prog 88 1 = some (1, 1, false) := by kernel_rfl
theorem fld88_2 : fld Tryd.prog 88 2 = some (2, 1, false) := by kernel_rfl
theorem fld88_3 : fld Tryd.prog 88 3 = some (3, 1, false) := by kernel_rfl
theorem plc88 : plc Tryd.prog 88 = some (fun k => ([(0, 1), (1, 1), (2, 1), (3, 1)] : List (Nat × Nat))[k]?) := by kernel_rfl
theorem seq88 : sEq Tryd.prog 88 = some [0, 2, 0, 0] := by kernel_rfl
theorem lay89 : lay Tryd.prog 89 = some (4, true) := by kernel_rfl
theorem zro89 : zro Tryd.prog 89 = some [V.int IntKind.u8 0, V.bool false, V.int IntKind.u8 0, V.int IntKind.u8 0] := by kernel_rfl
theorem fld89_0 : fld Tryd.prog 89 0 = some (0, 1, false) := by kernel_rfl
theorem fld89_1 : fld Tryd.prog 89 1 = some (1, 1, false) := by kernel_rfl
theorem fld89_2 : fld Tryd.prog 89 2 = some (2, 1, false) := by kernel_rfl
theorem fld89_3 : fld Tryd.prog 89 3 = some (3, 1, false) := by kernel_rfl
theorem plc89 : plc Tryd.prog 89 = some (fun k => ([(0, 1), (1, 1), (2, 1), (3, 1)] : List (Nat × Nat))[k]?) := by kernel_rfl
theorem seq89 : sEq Tryd.prog 89 = some [0, 2, 0, 0] := by kernel_rfl
theorem lay90 : lay Tryd.prog 90 = some (1, false) := by kernel_rfl
theorem zro90 : zro Tryd.prog 90 = some [V.nilfunc] := by kernel_rfl
theorem lay91 : lay Tryd.prog 91 = some (4, true) := by kernel_rfl
theorem zro91 : zro Tryd.prog 91 = some [V.int IntKind.i64 0, V.int IntKind.i64 0, V.int IntKind.i64 0, V.bool false] := by kernel_rfl
theorem fld91_0 : fld Tryd.prog 91 0 = some (0, 1, false) := by kernel_rfl
theorem fld91_1 : fld Tryd.prog 91 1 = some (1, 1, false) := by kernel_rfl
theorem fld91_2 : fld Tryd.prog 91 2 = some (2, 1, false) := by kernel_rfl
theorem fld91_3 : fld Tryd.prog 91 3 = some (3, 1, false) := by kernel_rfl
theorem plc91 : plc Tryd.prog 91 = some (fun k => ([(0, 1), (1, 1), (2, 1), (3, 1)] : List (Nat × Nat))[k]?) := by kernel_rfl
theorem seq91 : sEq Tryd.prog 91 = some [0, 0, 0, 2] := by kernel_rfl
theorem lay92 : lay Tryd.prog 92 = some (1, false) := by kernel_rfl
theorem zro92 : zro Tryd.prog 92 = some [V.nilfunc] := by kernel_rfl
theorem lay93 : lay Tryd.prog 93 = some (1, false) := by kernel_rfl
theorem zro93 : zro Tryd.prog 93 = some [V.nilfunc] := by kernel_rfl
theorem lay94 : lay Tryd.prog 94 = some (1, false) := by kernel_rfl
theorem zro94 : zro Tryd.prog 94 = some [V.nilfunc] := by kernel_rfl
theorem lay95 : lay Tryd.prog 95 = some (28, true) := by kernel_rfl
theorem zro95 : zro Tryd.prog 95 = some [V.int IntKind.i64 0, V.int IntKind.i64 0, V.int IntKind.i64 0, V.bool false, V.int IntKind.i64 0, V.str [], V.str [], V.nil, V.nil, V.int IntKind.i64 0, V.int IntKind.i64 0, V.str [], V.int IntKind.i64 0, V.nil, V.nil, V.nil, V.int IntKind.i64 0, V.str [], V.str [], V.nil, V.nil, V.int IntKind.i64 0, V.int IntKind.i64 0, V.str [], V.int IntKind.i64 0, V.nil, V.nil, V.nil] := by kernel_rfl
theorem fld95_0 : fld Tryd.prog 95 0 = some (0, 4, true) := by kernel_rfl
theorem fld95_1 : fld Tryd.prog 95 1 = some (4, 12, true) := by kernel_rfl
theorem fld95_2 : fld Tryd.prog 95 2 = some (16, 12, true) := by kernel_rfl
theorem plc95 : plc Tryd.prog 95 = some (fun k => ([(0, 4), (4, 12), (16, 12)] : List (Nat × Nat))[k]?) := by kernel_rfl
theorem lay96 : lay Tryd.prog 96 = some (28, true) := by kernel_rfl
theorem zro96 : zro Tryd.prog 96 = some [V.int IntKind.i64 0, V.int IntKind.i64 0, V.int IntKind.i64 0, V.bool false, V.int IntKind.i64 0, V.str [], V.str [], V.nil, V.nil, V.int IntKind.i64 0, V.int IntKind.i64 0, V.str [], V.int IntKind.i64 0, V.nil, V.nil, V.nil, V.int IntKind.i64 0, V.str [], V.str [], V.nil, V.nil, V.int IntKind.i64 0, V.int IntKind.i64 0, V.str [], V.int IntKind.i64 0, V.nil, V.nil, V.nil] := by kernel_rfl
theorem fld96_0 : fld Tryd.prog 96 0 = some (0, 4, true) := by kernel_rfl
theorem fld96_1 : fld Tryd.prog 96 1 = some (4, 12, true) := by kernel_rfl
theorem fld96_2 : fld Tryd.prog 96 2 = some (16, 12, true) := by kernel_rfl
theorem plc96 : plc Tryd.prog 96 = some (fun k => ([(0, 4), (4, 12), (16, 12)] : List (Nat × Nat))[k]?) := by kernel_rfl
theorem lay97 : lay Tryd.prog 97 = some (1, false) := by kernel_rfl
theorem zro97 : zro Tryd.prog 97 = some [V.undef] := by kernel_rfl
theorem lay98 : lay Tryd.prog 98 = some (1, false) := by kernel_rfl
theorem zro98 : zro Tryd.prog 98 = some [V.nilfunc] := by kernel_rfl
theorem lay99 : lay Tryd.prog 99 = some (1, false) := by kernel_rfl
theorem elt99 : elt Tryd.prog 99 = some (4, 1, 1) := by kernel_rfl
theorem zro99 : zro Tryd.prog 99 = some [V.nil] := by kernel_rfl
theorem lay100 : lay Tryd.prog 100 = some (1, false) := by kernel_rfl
theorem zro100 : zro Tryd.prog 100 = some [V.undef] := by kernel_rfl
theorem lay101 : lay Tryd.prog 101 = some (1, false) := by kernel_rfl
theorem zro101 : zro Tryd.prog 101 = some [V.nilfunc] := by kernel_rfl
theorem lay102 : lay Tryd.prog 102 = some (1, false) := by kernel_rfl
theorem zro102 : zro Tryd.prog 102 = some [V.nilfunc] := by kernel_rfl
theorem lay103 : lay Tryd.prog 103 = some (1, false) := by kernel_rfl
theorem zro103 : zro Tryd.prog 103 = some [V.nilptr] := by kernel_rfl
theorem lay104 : lay Tryd.prog 104 = some (1, false) := by kernel_rfl
theorem zro104 : zro Tryd.prog 104 = some [V.nilfunc] := by kernel_rfl
theorem lay105 : lay Tryd.prog 105 = some (1, false) := by kernel_rfl
theorem zro105 : zro Tryd.prog 105 = some [V.nilfunc] := by kernel_rfl
theorem lay106 : lay Tryd.prog 106 = some (1, false) := by kernel_rfl
theorem zro106 : zro Tryd.prog 106 = some [V.nilfunc] := by kernel_rfl
theorem lay107 : lay Tryd.prog 107 = some (1, false) := by kernel_rfl
theorem elt107 : elt Tryd.prog 107 = some (163, 4, 40) := by kernel_rfl
theorem zro107 : zro Tryd.prog 107 = some [V.nil] := by kernel_rfl
theorem lay108 : lay Tryd.prog 108 = some (5, true) := by kernel_rfl
theorem zro108 : zro Tryd.prog 108 = some [V.nil, V.int IntKind.i64 0, V.int IntKind.i64 0, V.int IntKind.i64 0, V.int IntKind.i64 0] := by kernel_rfl
theorem fld108_0 : fld Tryd.prog 108 0 = some (0, 1, false) := by kernel_rfl
theorem fld108_1 : fld Tryd.prog 108 1 = some (1, 1, false) := by kernel_rfl
theorem fld108_2 : fld Tryd.prog 108 2 = some (2, 1, false) := by kernel_rfl
theorem fld108_3 : fld Tryd.prog 108 3 = some (3, 1, false) := by kernel_rfl
theorem fld108_4 : fld Tryd.prog 108 4 = some (4, 1, false) := by kernel_rfl
theorem plc108 : plc Tryd.prog 108 = some (fun k => ([(0, 1), (1, 1), (2, 1), (3, 1), (4, 1)] : List (Nat × Nat))[k]?) := by kernel_rfl
theorem lay109 : lay Tryd.prog 109 = some (5, true) := by kernel_rfl
theorem zro109 : zro Tryd.prog 109 = some [V.nil, V.int IntKind.i64 0, V.int IntKind.i64 0, V.int IntKind.i64 0, V.int IntKind.i64 0] := by kernel_rfl
theorem fld109_0 : fld Tryd.prog 109 0 = some (0, 1, false) := by kernel_rfl
theorem fld109_1 : fld Tryd.prog 109 1 = some (1, 1, false) := by kernel_rfl
theorem fld109_2 : fld Tryd.prog 109 2 = some (2, 1, false) := by kernel_rfl
theorem fld109_3 : fld Tryd.prog 109 3 = some (3, 1, false) := by kernel_rfl
theorem fld109_4 : fld Tryd.prog 109 4 = some (4, 1, false) := by kernel_rfl
theorem plc109 : plc Tryd.prog 109 = some (fun k => ([(0, 1), (1, 1), (2, 1), (3, 1), (4, 1)] : List (Nat × Nat))[k]?) := by kernel_rfl
theorem lay110 : lay Tryd.prog 110 = some (1, false) := by kernel_rfl
theorem zro110 : zro Tryd.prog 110 = some [V.nilfunc] := by kernel_rfl
theorem lay111 : lay Tryd.prog 111 = some (1, false) := by kernel_rfl
theorem zro111 : zro Tryd.prog 111 = some [V.nilfunc] := by kernel_rfl
theorem lay112 : lay Tryd.prog 112 = some (1, false) := by kernel_rfl
theorem elt112 : elt Tryd.prog 112 = some (117, 7, 104) := by kernel_rfl
theorem zro112 : zro Tryd.prog 112 = some [V.nil] := by kernel_rfl
theorem lay113 : lay Tryd.prog 113 = some (14, true) := by kernel_rfl
theorem zro113 : zro Tryd.prog 113 = some [V.str [], V.nil, V.int IntKind.i64 0, V.str [], V.str [], V.nil, V.nil, V.int IntKind.i64 0, V.int IntKind.i64 0, V.str [], V.int IntKind.i64 0, V.nil, V.nil, V.nil] := by kernel_rfl
theorem fld113_0 : fld Tryd.prog 113 0 = some (0, 1, false) := by kernel_rfl
theorem fld113_1 : fld Tryd.prog 113 1 = some (1, 1, false) := by kernel_rfl
theorem fld113_2 : fld Tryd.prog 113 2 = some (2, 12, true) := by kernel_rfl
theorem plc113 : plc Tryd.prog 113 = some (fun k => ([(0, 1), (1, 1), (2, 12)] : List (Nat × Nat))[k]?) := by kernel_rfl
theorem lay114 : lay Tryd.prog 114 = some (14, true) := by kernel_rfl
theorem zro114 : zro Tryd.prog 114 = some [V.str [], V.nil, V.int IntKind.i64 0, V.str [], V.str [], V.nil, V.nil, V.int IntKind.i64 0, V.int IntKind.i64 0, V.str [], V.int IntKind.i64 0, V.nil, V.nil, V.nil] := by kernel_rfl
theorem fld114_0 : fld Tryd.prog 114 0 = some (0, 1, false) := by kernel_rfl
theorem fld114_1 : fld Tryd.prog 114 1 = some (1, 1, false) := by kernel_rfl
theorem fld114_2 : fld Tryd.prog 114 2 = some (2, 12, true) := by kernel_rfl
theorem plc114 : plc Tryd.prog 114 = some (fun k => ([(0, 1), (1, 1), (2, 12)] : List (Nat × Nat))[k]?) := by kernel_rfl
theorem lay115 : lay Tryd.prog 115 = some (1, false) := by kernel_rfl
theorem zro115 : zro Tryd.prog 115 = some [V.nilfunc] := by kernel_rfl
theorem lay116 : lay Tryd.prog 116 = some (7, true) := by kernel_rfl
theorem zro116 : zro Tryd.prog 116 = some [V.str [], V.int IntKind.i64 0, V.int IntKind.i64 0, V.str [], V.int IntKind.i64 0, V.nil, V.nil] := by kernel_rfl
theorem fld116_0 : fld Tryd.prog 116 0 = some (0, 1, false) := by kernel_rfl
theorem fld116_1 : fld Tryd.prog 116 1 = some (1, 6, true) := by kernel_rfl
theorem plc116 : plc Tryd.prog 116 = some (fun k => ([(0, 1), (1, 6)] : List (Nat × Nat))[k]?) := by kernel_rfl
theorem lay117 : lay Tryd.prog 117 = some (7, true) := by kernel_rfl
theorem zro117 : zro Tryd.prog 117 = some [V.str [], V.int IntKind.i64 0, V.int IntKind.i64 0, V.str [], V.int IntKind.i64 0, V.nil, V.nil] := by kernel_rfl
theorem fld117_0 : fld Tryd.prog 117 0 = some (0, 1, false) := by kernel_rfl
theorem fld117_1 : fld Tryd.prog 117 1 = some (1, 6, true) := by kernel_rfl
theorem plc117 : plc Tryd.prog 117 = some (fun k => ([(0, 1), (1, 6)] : List (Nat × Nat))[k]?) := by kernel_rfl
theorem lay118 : lay Tryd.prog 118 = some (1, false) := by kernel_rfl
theorem zro118 : zro Tryd.prog 118 = some [V.nilfunc] := by kernel_rfl
theorem lay119 : lay Tryd.prog 119 = some (1, false) := by kernel_rfl
theorem zro119 : zro Tryd.prog 119 = some [V.nilfunc] := by kernel_rfl
theorem lay120 : lay Tryd.prog 120 = some (1, false) := by kernel_rfl
theorem zro120 : zro Tryd.prog 120 = some [V.nilfunc] := by kernel_rfl
theorem lay121 : lay Tryd.prog 121 = some (1, false) := by kernel_rfl
theorem zro121 : zro Tryd.prog 121 = some [V.nilfunc] := by kernel_rfl
theorem lay122 : lay Tryd.prog 122 = some (1, false) := by kernel_rfl
theorem zro122 : zro Tryd.prog 122 = some [V.nilfunc] := by kernel_rfl
theorem lay123 : lay Tryd.prog 123 = some (1, false) := by kernel_rfl
theorem zro123 : zro Tryd.prog 123 = some [V.nilfunc] := by kernel_rfl
theorem lay124 : lay Tryd.prog 124 = some (1, false) := by kernel_rfl
theorem zro124 : zro Tryd.prog 124 = some [V.nilfunc] := by kernel_rfl
theorem lay125 : lay Tryd.prog 125 = some (1, false) := by kernel_rfl
theorem zro125 : zro Tryd.prog 125 = some [V.nilfunc] := by kernel_rfl
theorem lay126 : lay Tryd.prog 126 = some (1, false) := by kernel_rfl
theorem zro126 : zro Tryd.prog 126 = some [V.nilfunc] := by kernel_rfl
theorem lay127 : lay Tryd.prog 127 = some (1, false) := by kernel_rfl
theorem zro127 : zro Tryd.prog 127 = some [V.nilfunc] := by kernel_rfl
theorem lay128 : lay Tryd.prog 128 = some (1, false) := by kernel_rfl
theorem zro128 : zro Tryd.prog 128 = some [V.undef] := by kernel_rfl
theorem lay129 : lay Tryd.prog 129 = some (1, false) := by kernel_rfl
theorem zro129 : zro Tryd.prog 129 = some [V.nilfunc] := by kernel_rfl
theorem lay130 : lay Tryd.prog 130 = some (1, false) := by kernel_rfl
theorem zro130 : zro Tryd.prog 130 = some [V.nilfunc] := by kernel_rfl
theorem lay131 : lay Tryd.prog 131 = some (1, false) := by kernel_rfl
theorem zro131 : zro Tryd.prog 131 = some [V.nilfunc] := by kernel_rfl
theorem lay132 : lay Tryd.prog 132 = some (1, false) := by kernel_rfl
theorem zro132 : zro Tryd.prog 132 = some [V.nilfunc] := by kernel_rfl
theorem lay133 : lay Tryd.prog 133 = some (1, false) := by kernel_rfl
theorem zro133 : zro Tryd.prog 133 = some [V.nilfunc] := by kernel_rfl
theorem lay134 : lay Tryd.prog 134 = some (1, false) := by kernel_rfl
theorem zro134 : zro Tryd.prog 134 = some [V.undef] := by kernel_rfl
theorem lay135 : lay Tryd.prog 135 = some (1, false) := by kernel_rfl
theorem zro135 : zro Tryd.prog 135 = some [V.nilfunc] := by kernel_rfl
theorem lay136 : lay Tryd.prog 136 = some (1, false) := by kernel_rfl
theorem zro136 : zro Tryd.prog 136 = some [V.nilfunc] := by kernel_rfl
theorem lay137 : lay Tryd.prog 137 = some (1, false) := by kernel_rfl
theorem zro137 : zro Tryd.prog 137 = some [V.nilfunc] := by kernel_rfl
theorem lay138 : lay Tryd.prog 138 = some (1, false) := by kernel_rfl
theorem zro138 : zro Tryd.prog 138 = some [V.undef] := by kernel_rfl
theorem lay139 : lay Tryd.prog 139 = some (1, false) := by kernel_rfl
theorem zro139 : zro Tryd.prog 139 = some [V.nilfunc] := by kernel_rfl
theorem lay140 : lay Tryd.prog 140 = some (1, false) := by kernel_rfl
theorem zro140 : zro Tryd.prog 140 = some [V.nilfunc] := by kernel_rfl
theorem lay141 : lay Tryd.prog 141 = some (1, false) := by kernel_rfl
theorem zro141 : zro Tryd.prog 141 = some [V.nilfunc] := by kernel_rfl
theorem lay142 : lay Tryd.prog 142 = some (1, false) := by kernel_rfl
theorem zro142 : zro Tryd.prog 142 = some [V.nilfunc] := by kernel_rfl
theorem lay143 : lay Tryd.prog 143 = some (1, false) := by kernel_rfl
theorem zro143 : zro Tryd.prog 143 = some [V.nilfunc] := by kernel_rfl
theorem lay144 : lay Tryd.prog 144 = some (1, false) := by kernel_rfl
theorem zro144 : zro Tryd.prog 144 = some [V.nilfunc] := by kernel_rfl
theorem lay145 : lay Tryd.prog 145 = some (1, false) := by kernel_rfl
theorem zro145 : zro Tryd.prog 145 = some [V.nilfunc] := by kernel_rfl
theorem lay146 : lay Tryd.prog 146 = some (1, false) := by kernel_rfl
theorem zro146 : zro Tryd.prog 146 = some [V.undef] := by kernel_rfl
theorem lay147 : lay Tryd.prog 147 = some (1, false) := by kernel_rfl
theorem zro147 : zro Tryd.prog 147 = some [V.nilfunc] := by kernel_rfl
theorem lay148 : lay Tryd.prog 148 = some (1, false) := by kernel_rfl
theorem zro148 : zro Tryd.prog 148 = some [V.nilfunc] := by kernel_rfl
theorem lay149 : lay Tryd.prog 149 = some (1, false) := by kernel_rfl
theorem zro149 : zro Tryd.prog 149 = some [V.nilfunc] := by kernel_rfl
theorem lay150 : lay Tryd.prog 150 = some (1, false) := by kernel_rfl
theorem zro150 : zro Tryd.prog 150 = some [V.nilfunc] := by kernel_rfl
theorem lay151 : lay Tryd.prog 151 = some (1, false) := by kernel_rfl
theorem zro151 : zro Tryd.prog 151 = some [V.nilfunc] := by kernel_rfl
theorem lay152 : lay Tryd.prog 152 = some (1, false) := by kernel_rfl
theorem zro152 : zro Tryd.prog 152 = some [V.niliface] := by kernel_rfl
theorem lay153 : lay Tryd.prog 153 = some (1, false) := by kernel_rfl
theorem zro153 : zro Tryd.prog 153 = some [V.niliface] := by kernel_rfl
theorem lay154 : lay Tryd.prog 154 = some (1, false) := by kernel_rfl
theorem zro154 : zro Tryd.prog 154 = some [V.undef] := by kernel_rfl
theorem lay155 : lay Tryd.prog 155 = some (1, false) := by kernel_rfl
theorem zro155 : zro Tryd.prog 155 = some [V.nilfunc] := by kernel_rfl
theorem lay156 : lay Tryd.prog 156 = some (1, false) := by kernel_rfl
theorem zro156 : zro Tryd.prog 156 = some [V.nilfunc] := by kernel_rfl
theorem lay157 : lay Tryd.prog 157 = some (1, false) := by kernel_rfl
theorem zro157 : zro Tryd.prog 157 = some [V.nilfunc] := by kernel_rfl
theorem lay158 : lay Tryd.prog 158 = some (1, false) := by kernel_rfl
theorem zro158 : zro Tryd.prog 158 = some [V.nilfunc] := by kernel_rfl
theorem lay159 : lay Tryd.prog 159 = some (1, false) := by kernel_rfl
theorem zro159 : zro Tryd.prog 159 = some [V.nilfunc] := by kernel_rfl
theorem lay160 : lay Tryd.prog 160 = some (1, false) := by kernel_rfl
theorem zro160 : zro Tryd.prog 160 = some [V.nilfunc] := by kernel_rfl
theorem lay161 : lay Tryd.prog 161 = some (1, false) := by kernel_rfl
theorem zro161 : zro Tryd.prog 161 = some [V.nilfunc] := by kernel_rfl
theorem lay162 : lay Tryd.prog 162 = some (4, true) := by kernel_rfl
theorem zro162 : zro Tryd.prog 162 = some [V.int IntKind.i64 0, V.str [], V.int IntKind.i64 0, V.int IntKind.i64 0] := by kernel_rfl
theorem fld162_0 : fld Tryd.prog 162 0 = some (0, 1, false) := by kernel_rfl
theorem fld162_1 : fld Tryd.prog 162 1 = some (1, 1, false) := by kernel_rfl
theorem fld162_2 : fld Tryd.prog 162 2 = some (2, 1, false) := by kernel_rfl
theorem fld162_3 : fld Tryd.prog 162 3 = some (3, 1, false) := by kernel_rfl
theorem plc162 : plc Tryd.prog 162 = some (fun k => ([(0, 1), (1, 1), (2, 1), (3, 1)] : List (Nat × Nat))[k]?) := by kernel_rfl
theorem seq162 : sEq Tryd.prog 162 = some [0, 1, 0, 0] := by kernel_rfl
theorem lay163 : lay Tryd.prog 163 = some (4, true) := by kernel_rfl
theorem zro163 : zro Tryd.prog 163 = some [V.int IntKind.i64 0, V.str [], V.int IntKind.i64 0, V.int IntKind.i64 0] := by kernel_rfl
theorem fld163_0 : fld Tryd.prog 163 0 = some (0, 1, false) := by kernel_rfl
theorem fld163_1 : fld Tryd.prog 163 1 = some (1, 1, false) := by kernel_rfl
theorem fld163_2 : fld Tryd.prog 163 2 = some (2, 1, false) := by kernel_rfl
theorem fld163_3 : fld Tryd.prog 163 3 = some (3, 1, false) := by kernel_rfl
theorem plc163 : plc Tryd.prog 163 = some (fun k => ([(0, 1), (1, 1), (2, 1), (3, 1)] : List (Nat × Nat))[k]?) := by kernel_rfl
theorem seq163 : sEq Tryd.prog 163 = some [0, 1, 0, 0] := by kernel_rfl
theorem lay164 : lay Tryd.prog 164 = some (1, false) := by kernel_rfl
theorem zro164 : zro Tryd.prog 164 = some [V.undef] := by kernel_rfl
theorem lay165 : lay Tryd.prog 165 = some (1, false) := by kernel_rfl
theorem zro165 : zro Tryd.prog 165 = some [V.nilfunc] := by kernel_rfl
theorem lay166 : lay Tryd.prog 166 = some (1, false) := by kernel_rfl
theorem zro166 : zro Tryd.prog 166 = some [V.nilfunc] := by kernel_rfl
theorem lay167 : lay Tryd.prog 167 = some (1, false) := by kernel_rfl
theorem zro167 : zro Tryd.prog 167 = some [V.nilfunc] := by kernel_rfl
theorem lay168 : lay Tryd.prog 168 = some (1, false) := by kernel_rfl
theorem zro168 : zro Tryd.prog 168 = some [V.nilfunc] := by kernel_rfl
theorem lay169 : lay Tryd.prog 169 = some (1, false) := by kernel_rfl
theorem zro169 : zro Tryd.prog 169 = some [V.nilfunc] := by kernel_rfl
theorem lay170 : lay Tryd.prog 170 = some (1, false) := by kernel_rfl
theorem zro170 : zro Tryd.prog 170 = some [V.nilfunc] := by kernel_rfl
theorem lay171 : lay Tryd.prog 171 = some (1, false) := by kernel_rfl
theorem zro171 : zro Tryd.prog 171 = some [V.nilfunc] := by kernel_rfl
theorem lay172 : lay Tryd.prog 172 = some (1, false) := by kernel_rfl
theorem zro172 : zro Tryd.prog 172 = some [V.nilfunc] := by kernel_rfl
theorem lay173 : lay Tryd.prog 173 = some (1, false) := by kernel_rfl
theorem zro173 : zro Tryd.prog 173 = some [V.nilfunc] := by kernel_rfl
theorem lay174 : lay Tryd.prog 174 = some (1, false) := by kernel_rfl
theorem zro174 : zro Tryd.prog 174 = some [V.nilfunc] := by kernel_rfl
theorem lay175 : lay Tryd.prog 175 = some (1, false) := by kernel_rfl
theorem zro175 : zro Tryd.prog 175 = some [V.int IntKind.i64 0] := by kernel_rfl
theorem u175 : Tryd.prog.underlying 175 = some (.int .i64) := by kernel_rfl
theorem lay176 : lay Tryd.prog 176 = some (1, false) := by kernel_rfl
theorem zro176 : zro Tryd.prog 176 = some [V.int IntKind.u64 0] := by kernel_rfl
theorem u176 : Tryd.prog.underlying 176 = some (.int .u64) := by kernel_rfl
theorem lay177 : lay Tryd.prog 177 = some (1, false) := by kernel_rfl
theorem zro177 : zro Tryd.prog 177 = some [V.undef] := by kernel_rfl
theorem lay178 : lay Tryd.prog 178 = some (1, false) := by kernel_rfl
theorem zro178 : zro Tryd.prog 178 = some [V.nilfunc] := by kernel_rfl
theorem lay179 : lay Tryd.prog 179 = some (1, false) := by kernel_rfl
theorem zro179 : zro Tryd.prog 179 = some [V.int IntKind.u64 0] := by kernel_rfl
theorem u179 : Tryd.prog.underlying 179 = some (.int .u64) := by kernel_rfl
theorem lay180 : lay Tryd.prog 180 = some (1, false) := by kernel_rfl
theorem zro180 : zro Tryd.prog 180 = some [V.nilptr] := by kernel_rfl
theorem lay181 : lay Tryd.prog 181 = some (1, false) := by kernel_rfl
theorem zro181 : zro Tryd.prog 181 = some [V.nilfunc] := by kernel_rfl
theorem lay182 : lay Tryd.prog 182 = some (1, false) := by kernel_rfl
theorem zro182 : zro Tryd.prog 182 = some [V.nilfunc] := by kernel_rfl
theorem lay183 : lay Tryd.prog 183 = some (1, false) := by kernel_rfl
theorem zro183 : zro Tryd.prog 183 = some [V.nilfunc] := by kernel_rfl
theorem lay184 : lay Tryd.prog 184 = some (1, false) := by kernel_rfl
theorem zro184 : zro Tryd.prog 184 = some [V.nilfunc] := by kernel_rfl
theorem lay185 : lay Tryd.prog 185 = some (1, false) := by kernel_rfl
theorem zro185 : zro Tryd.prog 185 = some [V.nilfunc] := by kernel_rfl
theorem lay186 : lay Tryd.prog 186 = some (1, false) := by kernel_rfl
theorem zro186 : zro Tryd.prog 186 = some [V.nilfunc] := by kernel_rfl
theorem lay187 : lay Tryd.prog 187 = some (24, true) := by kernel_rfl
theorem elt187 : elt Tryd.prog 187 = none := by kernel_rfl
theorem arr187 : arr Tryd.prog 187 = some (24, 1, false) := by kernel_rfl
theorem zro187 : zro Tryd.prog 187 = some [V.int IntKind.u8 0, V.int IntKind.u8 0, V.int IntKind.u8 0, V.int IntKind.u8 0, V.int IntKind.u8 0, V.int IntKind.u8 0, V.int IntKind.u8 0, V.int IntKind.u8 0, V.int IntKind.u8 0, V.int IntKind.u8 0, V.int IntKind.u8 0, V.int IntKind.u8 0, V.int IntKind.u8 0, V.int IntKind.u8 0, V.int IntKind.u8 0, V.int IntKind.u8 0, V.int IntKind.u8 0, V.int IntKind.u8 0, V.int IntKind.u8 0, V.int IntKind.u8 0, V.int IntKind.u8 0, V.int IntKind.u8 0, V.int IntKind.u8 0, V.int IntKind.u8 0] := by kernel_rfl
theorem plc187 : plc Tryd.prog 187 = some (fun k => some (k * 1, 1)) := by kernel_rfl
theorem seq187 : sEq Tryd.prog 187 = some [0, 0, 0, 0, 0, 0, 0, 0, 0, 0, 0, 0, 0, 0, 0, 0, 0, 0, 0, 0, 0, 0, 0, 0] := by kernel_rfl
theorem lay188 : lay Tryd.prog 188 = some (1, false) := by kernel_rfl
theorem zro188 : zro Tryd.prog 188 = some [V.nilfunc] := by kernel_rfl
theorem lay189 : lay Tryd.prog 189 = some (1, false) := by kernel_rfl
theorem zro189 : zro Tryd.prog 189 = some [V.nilfunc] := by kernel_rfl
theorem lay190 : lay Tryd.prog 190 = some (1, false) := by kernel_rfl
theorem elt190 : elt Tryd.prog 190 = some (5, 1, 1) := by kernel_rfl
theorem zro190 : zro Tryd.prog 190 = some [V.nil] := by kernel_rfl
theorem lay191 : lay Tryd.prog 191 = some (1, false) := by kernel_rfl
theorem zro191 : zro Tryd.prog 191 = some [V.undef] := by kernel_rfl
theorem lay192 : lay Tryd.prog 192 = some (1, false) := by kernel_rfl
theorem zro192 : zro Tryd.prog 192 = some [V.nilfunc] := by kernel_rfl
theorem lay193 : lay Tryd.prog 193 = some (1, false) := by kernel_rfl
theorem zro193 : zro Tryd.prog 193 = some [V.nilfunc] := by kernel_rfl
theorem lay194 : lay Tryd.prog 194 = some (3, true) := by kernel_rfl
theorem zro194 : zro Tryd.prog 194 = some [V.str [], V.str [], V.niliface] := by kernel_rfl
theorem fld194_0 : fld Tryd.prog 194 0 = some (0, 1, false) := by kernel_rfl
theorem fld194_1 : fld Tryd.prog 194 1 = some (1, 1, false) := by kernel_rfl
theorem fld194_2 : fld Tryd.prog 194 2 = some (2, 1, false) := by kernel_rfl
theorem plc194 : plc Tryd.prog 194 = some (fun k => ([(0, 1), (1, 1), (2, 1)] : List (Nat × Nat))[k]?) := by kernel_rfl
theorem lay195 : lay Tryd.prog 195 = some (3, true) := by kernel_rfl
theorem zro195 : zro Tryd.prog 195 = some [V.str [], V.str [], V.niliface] := by kernel_rfl
theorem fld195_0 : fld Tryd.prog 195 0 = some (0, 1, false) := by kernel_rfl
theorem fld195_1 : fld Tryd.prog 195 1 = some (1, 1, false) := by kernel_rfl
theorem fld195_2 : fld Tryd.prog 195 2 = some (2, 1, false) := by kernel_rfl
theorem plc195 : plc Tryd.prog 195 = some (fun k => ([(0, 1), (1, 1), (2, 1)] : List (Nat × Nat))[k]?) := by kernel_rfl
theorem lay196 : lay Tryd.prog 196 = some (1, false) := by kernel_rfl
theorem zro196 : zro Tryd.prog 196 = some [V.nilfunc] := by kernel_rfl
theorem lay197 : lay Tryd.prog 197 = some (1, false) := by kernel_rfl
theorem zro197 : zro Tryd.prog 197 = some [V.nilfunc] := by kernel_rfl
theorem lay198 : lay Tryd.prog 198 = some (1, false) := by kernel_rfl
theorem zro198 : zro Tryd.prog 198 = some [V.nilfunc] := by kernel_rfl
theorem lay199 : lay Tryd.prog 199 = some (1, false) := by kernel_rfl
theorem zro199 : zro Tryd.prog 199 = some [V.nilfunc] := by kernel_rfl
theorem lay200 : lay Tryd.prog 200 = some (1, false) := by kernel_rfl
theorem zro200 : zro Tryd.prog 200 = some [V.nilfunc] := by kernel_rfl
theorem lay201 : lay Tryd.prog 201 = some (1, false) := by kernel_rfl
theorem zro201 : zro Tryd.prog 201 = some [V.nilfunc] := by kernel_rfl
theorem lay202 : lay Tryd.prog 202 = some (20, true) := by kernel_rfl
theorem elt202 : elt Tryd.prog 202 = none := by kernel_rfl
theorem arr202 : arr Tryd.prog 202 = some (20, 1, false) := by kernel_rfl
theorem zro202 : zro Tryd.prog 202 = some [V.int IntKind.u64 0, V.int IntKind.u64 0, V.int IntKind.u64 0, V.int IntKind.u64 0, V.int IntKind.u64 0, V.int IntKind.u64 0, V.int IntKind.u64 0, V.int IntKind.u64 0, V.int IntKind.u64 0, V.int IntKind.u64 0, V.int IntKind.u64 0, V.int IntKind.u64 0, V.int IntKind.u64 0, V.int IntKind.u64 0, V.int IntKind.u64 0, V.int IntKind.u64 0, V.int IntKind.u64 0, V.int IntKind.u64 0, V.int IntKind.u64 0, V.int IntKind.u64 0] := by kernel_rfl
theorem plc202 : plc Tryd.prog 202 = some (fun k => some (k * 1, 1)) := by kernel_rfl
theorem seq202 : sEq Tryd.prog 202 = some [0, 0, 0, 0, 0, 0, 0, 0, 0, 0, 0, 0, 0, 0, 0, 0, 0, 0, 0, 0] := by kernel_rfl
theorem lay203 : lay Tryd.prog 203 = some (1, false) := by kernel_rfl
theorem zro203 : zro Tryd.prog 203 = some [V.int IntKind.u32 0] := by kernel_rfl
theorem u203 : Tryd.prog.underlying 203 = some (.int .u32) := by kernel_rfl
theorem lay204 : lay Tryd.prog 204 = some (65, true) := by kernel_rfl
theorem elt204 : elt Tryd.prog 204 = none := by kernel_rfl
theorem arr204 : arr Tryd.prog 204 = some (65, 1, false) := by kernel_rfl
theorem zro204 : zro Tryd.prog 204 = some [V.int IntKind.u8 0, V.int IntKind.u8 0, V.int IntKind.u8 0, V.int IntKind.u8 0, V.int IntKind.u8 0, V.int IntKind.u8 0, V.int IntKind.u8 0, V.int IntKind.u8 0, V.int IntKind.u8 0, V.int IntKind.u8 0, V.int IntKind.u8 0, V.int IntKind.u8 0, V.int IntKind.u8 0, V.int IntKind.u8 0, V.int IntKind.u8 0, V.int IntKind.u8 0, V.int IntKind.u8 0, V.int IntKind.u8 0, V.int IntKind.u8 0, V.int IntKind.u8 0, V.int IntKind.u8 0, V.int IntKind.u8 0, V.int IntKind.u8 0, V.int IntKind.u8 0, V.int IntKind.u8 0, V.int IntKind.u8 0, V.int IntKind.u8 0, V.int IntKind.u8 0, V.int IntKind.u8 0, V.int IntKind.u8 0, V.int IntKind.u8 0, V.int IntKind.u8 0, V.int IntKind.u8 0, V.int IntKind.u8 0, V.int IntKind.u8 0, V.int IntKind.u8 0, V.int IntKind.u8 0, V.int IntKind.u8 0, V.int IntKind.u8 0, V.int IntKind.u8 0, V.int IntKind.u8 0, V.int IntKind.u8 0, V.int IntKind.u8 0, V.int IntKind.u8 0, V.int IntKind.u8 0, V.int IntKind.u8 0, V.int IntKind.u8 0, V.int IntKind.u8 0, V.int IntKind.u8 0, V.int IntKind.u8 0, V.int IntKind.u8 0, V.int IntKind.u8 0, V.int IntKind.u8 0, V.int IntKind.u8 0, V.int IntKind.u8 0, V.int IntKind.u8 0, V.int IntKind.u8 0, V.int IntKind.u8 0, V.int IntKind.u8 0, V.int IntKind.u8 0, V.int IntKind.u8 0, V.int IntKind.u8 0, V.int IntKind.u8 0, V.int IntKind.u8 0, V.int IntKind.u8 0] := by kernel_rfl
theorem plc204 : plc Tryd.prog 204 = some (fun k => some (k * 1, 1)) := by kernel_rfl
theorem seq204 : sEq Tryd.prog 204 = some [0, 0, 0, 0, 0, 0, 0, 0, 0, 0, 0, 0, 0, 0, 0, 0, 0, 0, 0, 0, 0, 0, 0, 0, 0, 0, 0, 0, 0, 0, 0, 0, 0, 0, 0, 0, 0, 0, 0, 0, 0, 0, 0, 0, 0, 0, 0, 0, 0, 0, 0, 0, 0, 0, 0, 0, 0, 0, 0, 0, 0, 0, 0, 0, 0] := by kernel_rfl
theorem lay205 : lay Tryd.prog 205 = some (1, false) := by kernel_rfl
theorem zro205 : zro Tryd.prog 205 = some [V.nilfunc] := by kernel_rfl
theorem lay206 : lay Tryd.prog 206 = some (1, false) := by kernel_rfl
theorem zro206 : zro Tryd.prog 206 = some [V.nilptr] := by kernel_rfl
theorem lay207 : lay Tryd.prog 207 = some (1, false) := by kernel_rfl
theorem zro207 : zro Tryd.prog 207 = some [V.nilptr] := by kernel_rfl
theorem lay208 : lay Tryd.prog 208 = some (1, true) := by kernel_rfl
theorem zro208 : zro Tryd.prog 208 = some [V.str []] := by kernel_rfl
theorem fld208_0 : fld Tryd.prog 208 0 = some (0, 1, false) := by kernel_rfl
theorem plc208 : plc Tryd.prog 208 = some (fun k => ([(0, 1)] : List (Nat × Nat))[k]?) := by kernel_rfl
theorem seq208 : sEq Tryd.prog 208 = some [1] := by kernel_rfl
theorem lay209 : lay Tryd.prog 209 = some (1, true) := by kernel_rfl
theorem zro209 : zro Tryd.prog 209 = some [V.str []] := by kernel_rfl
theorem fld209_0 : fld Tryd.prog 209 0 = some (0, 1, false) := by kernel_rfl
theorem plc209 : plc Tryd.prog 209 = some (fun k => ([(0, 1)] : List (Nat × Nat))[k]?) := by kernel_rfl
theorem seq209 : sEq Tryd.prog 209 = some [1] := by kernel_rfl
theorem lay210 : lay Tryd.prog 210 = some (1, false) := by kernel_rfl
theorem zro210 : zro Tryd.prog 210 = some [V.nilfunc] := by kernel_rfl
theorem lay211 : lay Tryd.prog 211 = some (32, true) := by kernel_rfl
theorem elt211 : elt Tryd.prog 211 = none := by kernel_rfl
theorem arr211 : arr Tryd.prog 211 = some (32, 1, false) := by kernel_rfl
theorem zro211 : zro Tryd.prog 211 = some [V.int IntKind.u8 0, V.int IntKind.u8 0, V.int IntKind.u8 0, V.int IntKind.u8 0, V.int IntKind.u8 0, V.int IntKind.u8 0, V.int IntKind.u8 0, V.int IntKind.u8 0, V.int IntKind.u8 0, V.int IntKind.u8 0, V.int IntKind.u8 0, V.int IntKind.u8 0, V.int IntKind.u8 0, V.int IntKind.u8 0, V.int IntKind.u8 0, V.int IntKind.u8 0, V.int IntKind.u8 0, V.int IntKind.u8 0, V.int IntKind.u8 0, V.int IntKind.u8 0, V.int IntKind.u8 0, V.int IntKind.u8 0, V.int IntKind.u8 0, V.int IntKind.u8 0, V.int IntKind.u8 0, V.int IntKind.u8 0, V.int IntKind.u8 0, V.int IntKind.u8 0, V.int IntKind.u8 0, V.int IntKind.u8 0, V.int IntKind.u8 0, V.int IntKind.u8 0] := by kernel_rfl
theorem plc211 : plc Tryd.prog 211 = some (fun k => some (k * 1, 1)) := by kernel_rfl
theorem seq211 : sEq Tryd.prog 211 = some [0, 0, 0, 0, 0, 0, 0, 0, 0, 0, 0, 0, 0, 0, 0, 0, 0, 0, 0, 0, 0, 0, 0, 0, 0, 0, 0, 0, 0, 0, 0, 0] := by kernel_rfl
theorem lay212 : lay Tryd.prog 212 = some (64, true) := by kernel_rfl
theorem elt212 : elt Tryd.prog 212 = none := by kernel_rfl
theorem arr212 : arr Tryd.prog 212 = some (64, 1, false) := by kernel_rfl
theorem zro212 : zro Tryd.prog 212 = some [V.int IntKind.u8 0, V.int IntKind.u8 0, V.int IntKind.u8 0, V.int IntKind.u8 0, V.int IntKind.u8 0, V.int IntKind.u8 0, V.int IntKind.u8 0, V.int IntKind.u8 0, V.int IntKind.u8 0, V.int IntKind.u8 0, V.int IntKind.u8 0, V.int IntKind.u8 0, V.int IntKind.u8 0, V.int IntKind.u8 0, V.int IntKind.u8 0, V.int IntKind.u8 0, V.int IntKind.u8 0, V.int IntKind.u8 0, V.int IntKind.u8 0, V.int IntKind.u8 0, V.int IntKind.u8 0, V.int IntKind.u8 0, V.int IntKind.u8 0, V.int IntKind.u8 0, V.int IntKind.u8 0, V.int IntKind.u8 0, V.int IntKind.u8 0, V.int IntKind.u8 0, V.int IntKind.u8 0, V.int IntKind.u8 0, V.int IntKind.u8 0, V.int IntKind.u8 0, V.int IntKind.u8 0, V.int IntKind.u8 0, V.int IntKind.u8 0, V.int IntKind.u8 0, V.int IntKind.u8 0, V.int IntKind.u8 0, V.int IntKind.u8 0, V.int IntKind.u8 0, V.int IntKind.u8 0, V.int IntKind.u8 0, V.int IntKind.u8 0, V.int IntKind.u8 0, V.int IntKind.u8 0, V.int IntKind.u8 0, V.int IntKind.u8 0, V.int IntKind.u8 0, V.int IntKind.u8 0, V.int IntKind.u8 0, V.int IntKind.u8 0, V.int IntKind.u8 0, V.int IntKind.u8 0, V.int IntKind.u8 0, V.int IntKind.u8 0, V.int IntKind.u8 0, V.int IntKind.u8 0, V.int IntKind.u8 0, V.int IntKind.u8 0, V.int IntKind.u8 0, V.int IntKind.u8 0, V.int IntKind.u8 0, V.int IntKind.u8 0, V.int IntKind.u8 0] := by kernel_rfl
theorem plc212 : plc Tryd.prog 212 = some (fun k => some (k * 1, 1)) := by kernel_rfl
theorem seq212 : sEq Tryd.prog 212 = some [0, 0, 0, 0, 0, 0, 0, 0, 0, 0, 0, 0, 0, 0, 0, 0, 0, 0, 0, 0, 0, 0, 0, 0, 0, 0, 0, 0, 0, 0, 0, 0, 0, 0, 0, 0, 0, 0, 0, 0, 0, 0, 0, 0, 0, 0, 0, 0, 0, 0, 0, 0, 0, 0, 0, 0, 0, 0, 0, 0, 0, 0, 0, 0] := by kernel_rfl
theorem lay213 : lay Tryd.prog 213 = some (4, true) := by kernel_rfl
theorem zro213 : zro Tryd.prog 213 = some [V.nilptr, V.nilptr, V.nilptr, V.str []] := by kernel_rfl
theorem fld213_0 : fld Tryd.prog 213 0 = some (0, 1, false) := by kernel_rfl
theorem fld213_1 : fld Tryd.prog 213 1 = some (1, 1, false) := by kernel_rfl
theorem fld213_2 : fld Tryd.prog 213 2 = some (2, 1, false) := by kernel_rfl
theorem fld213_3 : fld Tryd.prog 213 3 = some (3, 1, false) := by kernel_rfl
theorem plc213 : plc Tryd.prog 213 = some (fun k => ([(0, 1), (1, 1), (2, 1), (3, 1)] : List (Nat × Nat))[k]?) := by kernel_rfl
theorem lay214 : lay Tryd.prog 214 = some (4, true) := by kernel_rfl
theorem zro214 : zro Tryd.prog 214 = some [V.nilptr, V.nilptr, V.nilptr, V.str []] := by kernel_rfl
theorem fld214_0 : fld Tryd.prog 214 0 = some (0, 1, false) := by kernel_rfl
theorem fld214_1 : fld Tryd.prog 214 1 = some (1, 1, false) := by kernel_rfl
theorem fld214_2 : fld Tryd.prog 214 2 = some (2, 1, false) := by kernel_rfl
theorem fld214_3 : fld Tryd.prog 214 3 = some (3, 1, false) := by kernel_rfl
theorem plc214 : plc Tryd.prog 214 = some (fun k => ([(0, 1), (1, 1), (2, 1), (3, 1)] : List (Nat × Nat))[k]?) := by kernel_rfl
theorem lay215 : lay Tryd.prog 215 = some (0, true) := by kernel_rfl
theorem elt215 : elt Tryd.prog 215 = none := by kernel_rfl
theorem arr215 : arr Tryd.prog 215 = some (0, 1, false) := by kernel_rfl
theorem zro215 : zro Tryd.prog 215 = some [] := by kernel_rfl
theorem plc215 : plc Tryd.prog 215 = some (fun k => some (k * 1, 1)) := by kernel_rfl
theorem lay216 : lay Tryd.prog 216 = some (0, true) := by kernel_rfl
theorem zro216 : zro Tryd.prog 216 = some [] := by kernel_rfl
theorem fld216_0 : fld Tryd.prog 216 0 = some (0, 0, true) := by kernel_rfl
theorem plc216 : plc Tryd.prog 216 = some (fun k => ([(0, 0)] : List (Nat × Nat))[k]?) := by kernel_rfl
theorem lay217 : lay Tryd.prog 217 = some (0, true) := by kernel_rfl
theorem zro217 : zro Tryd.prog 217 = some [] := by kernel_rfl
theorem fld217_0 : fld Tryd.prog 217 0 = some (0, 0, true) := by kernel_rfl
theorem plc217 : plc Tryd.prog 217 = some (fun k => ([(0, 0)] : List (Nat × Nat))[k]?) := by kernel_rfl
theorem lay218 : lay Tryd.prog 218 = some (1, false) := by kernel_rfl
theorem zro218 : zro Tryd.prog 218 = some [V.nilfunc] := by kernel_rfl
theorem lay219 : lay Tryd.prog 219 = some (1, false) := by kernel_rfl
theorem zro219 : zro Tryd.prog 219 = some [V.int IntKind.u8 0] := by kernel_rfl
theorem u219 : Tryd.prog.underlying 219 = some (.int .u8) := by kernel_rfl
theorem lay220 : lay Tryd.prog 220 = some (1, false) := by kernel_rfl
theorem zro220 : zro Tryd.prog 220 = some [V.int IntKind.u8 0] := by kernel_rfl
theorem u220 : Tryd.prog.underlying 220 = some (.int .u8) := by kernel_rfl
theorem lay221 : lay Tryd.prog 221 = some (1, false) := by kernel_rfl
theorem zro221 : zro Tryd.prog 221 = some [V.nilfunc] := by kernel_rfl
theorem lay222 : lay Tryd.prog 222 = some (1, false) := by kernel_rfl
theorem zro222 : zro Tryd.prog 222 = some [V.int IntKind.i32 0] := by kernel_rfl
theorem u222 : Tryd.prog.underlying 222 = some (.int .i32) := by kernel_rfl
theorem lay223 : lay Tryd.prog 223 = some (1, false) := by kernel_rfl
theorem zro223 : zro Tryd.prog 223 = some [V.int IntKind.i32 0] := by kernel_rfl
theorem u223 : Tryd.prog.underlying 223 = some (.int .i32) := by kernel_rfl
theorem lay224 : lay Tryd.prog 224 = some (11, true) := by kernel_rfl
theorem zro224 : zro Tryd.prog 224 = some [V.int IntKind.u64 0, V.int IntKind.u64 0, V.int IntKind.u32 0, V.int IntKind.u8 0, V.int IntKind.u8 0, V.int IntKind.u8 0, V.int IntKind.u8 0, V.nilfunc, V.nilptr, V.int IntKind.i32 0, V.int IntKind.i32 0] := by kernel_rfl
theorem fld224_0 : fld Tryd.prog 224 0 = some (0, 1, false) := by kernel_rfl
theorem fld224_1 : fld Tryd.prog 224 1 = some (1, 1, false) := by kernel_rfl
theorem fld224_2 : fld Tryd.prog 224 2 = some (2, 1, false) := by kernel_rfl
theorem fld224_3 : fld Tryd.prog 224 3 = some (3, 1, false) := by kernel_rfl
theorem fld224_4 : fld Tryd.prog 224 4 = some (4, 1, false) := by kernel_rfl
theorem fld224_5 : fld Tryd.prog 224 5 = some (5, 1, false) := by kernel_rfl
theorem fld224_6 : fld Tryd.prog 224 6 = some (6, 1, false) := by kernel_rfl
theorem fld224_7 : fld Tryd.prog 224 7 = some (7, 1, false) := by kernel_rfl
theorem fld224_8 : fld Tryd.prog 224 8 = some (8, 1, false) := by kernel_rfl
theorem fld224_9 : fld Tryd.prog 224 9 = some (9, 1, false) := by kernel_rfl
theorem fld224_10 : fld Tryd.prog 224 10 = some (10, 1, false) := by kernel_rfl
theorem plc224 : plc Tryd.prog 224 = some (fun k => ([(0, 1), (1, 1), (2, 1), (3, 1), (4, 1), (5, 1), (6, 1), (7, 1), (8, 1), (9, 1), (10, 1)] : List (Nat × Nat))[k]?) := by kernel_rfl
theorem lay225 : lay Tryd.prog 225 = some (11, true) := by kernel_rfl
theorem zro225 : zro Tryd.prog 225 = some [V.int IntKind.u64 0, V.int IntKind.u64 0, V.int IntKind.u32 0, V.int IntKind.u8 0, V.int IntKind.u8 0, V.int IntKind.u8 0, V.int IntKind.u8 0, V.nilfunc, V.nilptr, V.int IntKind.i32 0, V.int IntKind.i32 0] := by kernel_rfl
theorem fld225_0 : fld Tryd.prog 225 0 = some (0, 1, false) := by kernel_rfl
theorem fld225_1 : fld Tryd.prog 225 1 = some (1, 1, false) := by kernel_rfl
theorem fld225_2 : fld Tryd.prog 225 2 = some (2, 1, false) := by kernel_rfl
theorem fld225_3 : fld Tryd.prog 225 3 = some (3, 1, false) := by kernel_rfl
theorem fld225_4 : fld Tryd.prog 225 4 = some (4, 1, false) := by kernel_rfl
theorem fld225_5 : fld Tryd.prog 225 5 = some (5, 1, false) := by kernel_rfl
theorem fld225_6 : fld Tryd.prog 225 6 = some (6, 1, false) := by kernel_rfl
theorem fld225_7 : fld Tryd.prog 225 7 = some (7, 1, false) := by kernel_rfl
theorem fld225_8 : fld Tryd.prog 225 8 = some (8, 1, false) := by kernel_rfl
theorem fld225_9 : fld Tryd.prog 225 9 = some (9, 1, false) := by kernel_rfl
theorem fld225_10 : fld Tryd.prog 225 10 = some (10, 1, false) := by kernel_rfl
theorem plc225 : plc Tryd.prog 225 = some (fun k => ([(0, 1), (1, 1), (2, 1), (3, 1), (4, 1), (5, 1), (6, 1), (7, 1), (8, 1), (9, 1), (10, 1)] : List (Nat × Nat))[k]?) := by kernel_rfl
theorem lay226 : lay Tryd.prog 226 = some (1, false) := by kernel_rfl
theorem zro226 : zro Tryd.prog 226 = some [V.nilptr] := by kernel_rfl
theorem ent2 : ent Tryd.prog 2 = true := by kernel_rfl
theorem ent3 : ent Tryd.prog 3 = true := by kernel_rfl
theorem ent4 : ent Tryd.prog 4 = true := by kernel_rfl
theorem ent5 : ent Tryd.prog 5 = true := by kernel_rfl
theorem ent6 : ent Tryd.prog 6 = true := by kernel_rfl
theorem ent7 : ent Tryd.prog 7 = true := by kernel_rfl
theorem ent8 : ent Tryd.prog 8 = true := by kernel_rfl
theorem ent9 : ent Tryd.prog 9 = true := by kernel_rfl
theorem ent10 : ent Tryd.prog 10 = true := by kernel_rfl
theorem ent11 : ent Tryd.prog 11 = true := by kernel_rfl
theorem ent12 : ent Tryd.prog 12 = true := by kernel_rfl
theorem ent13 : ent Tryd.prog 13 = true := by kernel_rfl
theorem ent14 : ent Tryd.prog 14 = true := by kernel_rfl
theorem ent15 : ent Tryd.prog 15 = true := by kernel_rfl
theorem ent16 : ent Tryd.prog 16 = true := by kernel_rfl
theorem ent17 : ent Tryd.prog 17 = true := by kernel_rfl
theorem ent18 : ent Tryd.prog 18 = true := by kernel_rfl
theorem ent19 : ent Tryd.prog 19 = true := by kernel_rfl
theorem ent20 : ent Tryd.prog 20 = true := by kernel_rfl
theorem ent21 : ent Tryd.prog 21 = true := by kernel_rfl
theorem ent22 : ent Tryd.prog 22 = true := by kernel_rfl
theorem ent23 : ent Tryd.prog 23 = true := by kernel_rfl
theorem ent24 : ent Tryd.prog 24 = true := by kernel_rfl
theorem ent25 : ent Tryd.prog 25 = true := by kernel_rfl
theorem ent26 : ent Tryd.prog 26 = true := by kernel_rfl
theorem ent27 : ent Tryd.prog 27 = true := by kernel_rfl
theorem ent28 : ent Tryd.prog 28 = true := by kernel_rfl
theorem ent29 : ent Tryd.prog 29 = true := by kernel_rfl
theorem ent30 : ent Tryd.prog 30 = true := by kernel_rfl
theorem ent31 : ent Tryd.prog 31 = true := by kernel_rfl
theorem ent32 : ent Tryd.prog 32 = true := by kernel_rfl
theorem ent33 : ent Tryd.prog 33 = true := by kernel_rfl
theorem ent34 : ent Tryd.prog 34 = true := by kernel_rfl
theorem ent35 : ent Tryd.prog 35 = true := by kernel_rfl
theorem ent36 : ent Tryd.prog 36 = true := by kernel_rfl
theorem ent37 : ent Tryd.prog 37 = true := by kernel_rfl
theorem ent38 : ent Tryd.prog 38 = true := by kernel_rfl
theorem ent39 : ent Tryd.prog 39 = true := by kernel_rfl
theorem ent40 : ent Tryd.prog 40 = true := by kernel_rfl
theorem ent41 : ent Tryd.prog 41 = true := by kernel_rfl
theorem ent42 : ent Tryd.prog 42 = true := by kernel_rfl
theorem ent43 : ent Tryd.prog 43 = true := by kernel_rfl
theorem ent44 : ent Tryd.prog 44 = true := by kernel_rfl
theorem ent45 : ent Tryd.prog 45 = true := by kernel_rfl
theorem ent46 : ent Tryd.prog 46 = true := by kernel_rfl
theorem ent47 : ent Tryd.prog 47 = true := by kernel_rfl
theorem ent48 : ent Tryd.prog 48 = true := by kernel_rfl
theorem ent49 : ent Tryd.prog 49 = true := by kernel_rfl
theorem ent50 : ent Tryd.prog 50 = true := by kernel_rfl
theorem ent51 : ent Tryd.prog 51 = true := by kernel_rfl
theorem ent52 : ent Tryd.prog 52 = true := by kernel_rfl
theorem ent53 : ent Tryd.prog 53 = true := by kernel_rfl
theorem ent54 : ent Tryd.prog 54 = true := by kernel_rfl
theorem ent55 : ent Tryd.prog 55 = true := by kernel_rfl
theorem ent56 : ent Tryd.prog 56 = true := by kernel_rfl
theorem ent57 : ent Tryd.prog 57 = true := by kernel_rfl
theorem ent58 : ent Tryd.prog 58 = true := by kernel_rfl
theorem ent59 : ent Tryd.prog 59 = true := by kernel_rfl
theorem ent60 : ent Tryd.prog 60 = true := by kernel_rfl
theorem ent61 : ent Tryd.prog 61 = true := by kernel_rfl
theorem ent62 : ent Tryd.prog 62 = true := by kernel_rfl
theorem ent63 : ent Tryd.prog 63 = true := by kernel_rfl
theorem ent64 : ent Tryd.prog 64 = true := by kernel_rfl
theorem ent65 : ent Tryd.prog 65 = true := by kernel_rfl
theorem ent66 : ent Tryd.prog 66 = true := by kernel_rfl
theorem ent67 : ent Tryd.prog 67 = true := by kernel_rfl
theorem ent68 : ent Tryd.prog 68 = true := by kernel_rfl
theorem ent69 : ent Tryd.prog 69 = true := by kernel_rfl
theorem ent70 : ent Tryd.prog 70 = true := by kernel_rfl
theorem ent71 : ent Tryd.prog 71 = true := by kernel_rfl
theorem ent72 : ent Tryd.prog 72 = true := by kernel_rfl
theorem ent73 : ent Tryd.prog 73 = true := by kernel_rfl
theorem ent74 : ent Tryd.prog 74 = true := by kernel_rfl
theorem ent75 : ent Tryd.prog 75 = true := by kernel_rfl
theorem ent76 : ent Tryd.prog 76 = true := by kernel_rfl
theorem ent77 : ent Tryd.prog 77 = true := by kernel_rfl
theorem ent78 : ent Tryd.prog 78 = true := by kernel_rfl
theorem ent79 : ent Tryd.prog 79 = true := by kernel_rfl
theorem ent80 : ent Tryd.prog 80 = true := by kernel_rfl
theorem ent81 : ent Tryd.prog 81 = true := by kernel_rfl
theorem ent82 : ent Tryd.prog 82 = true := by kernel_rfl
theorem ent83 : ent Tryd.prog 83 = true := by kernel_rfl
theorem ent84 : ent Tryd.prog 84 = true := by kernel_rfl
theorem ent85 : ent Tryd.prog 85 = true := by kernel_rfl
theorem ent86 : ent Tryd.prog 86 = true := by kernel_rfl
theorem ent87 : ent Tryd.prog 87 = true := by kernel_rfl
theorem ent88 : ent Tryd.prog 88 = true := by kernel_rfl
theorem ent89 : ent Tryd.prog 89 = true := by kernel_rfl
theorem ent90 : ent Tryd.prog 90 = true := by kernel_rfl
theorem ent91 : ent Tryd.prog 91 = true := by kernel_rfl
theorem ent92 : ent Tryd.prog 92 = true := by kernel_rfl
theorem ent93 : ent Tryd.prog 93 = true := by kernel_rfl
theorem ent94 : ent Tryd.prog 94 = true := by kernel_rfl
theorem ent95 : ent Tryd.prog 95 = true := by kernel_rfl
theorem ent96 : ent Tryd.prog 96 = true := by kernel_rfl
theorem ent97 : ent Tryd.prog 97 = true := by kernel_rfl
theorem ent98 : ent Tryd.prog 98 = true := by kernel_rfl
theorem ent99 : ent Tryd.prog 99 = true := by kernel_rfl
theorem ent100 : ent Tryd.prog 100 = true := by kernel_rfl
theorem ent101 : ent Tryd.prog 101 = true := by kernel_rfl
theorem ent102 : ent Tryd.prog 102 = true := by kernel_rfl
theorem ent103 : ent Tryd.prog 103 = true := by kernel_rfl
theorem ent104 : ent Tryd.prog 104 = true := by kernel_rfl
theorem ent105 : ent Tryd.prog 105 = true := by kernel_rfl
theorem ent106 : ent Tryd.prog 106 = true := by kernel_rfl
theorem ent107 : ent Tryd.prog 107 = true := by kernel_rfl
theorem ent108 : ent Tryd.prog 108 = true := by kernel_rfl
theorem ent109 : ent Tryd.prog 109 = true := by kernel_rfl
theorem ent110 : ent Tryd.prog 110 = true := by kernel_rfl
theorem ent111 : ent Tryd.prog 111 = true := by kernel_rfl
theorem ent112 : ent Tryd.prog 112 = true := by kernel_rfl
theorem ent113 : ent Tryd.prog 113 = true := by kernel_rfl
theorem ent114 : ent Tryd.prog 114 = true := by kernel_rfl
theorem ent115 : ent Tryd.prog 115 = true := by kernel_rfl
theorem ent116 : ent Tryd.prog 116 = true := by kernel_rfl
theorem ent118 : ent Tryd.prog 118 = true := by kernel_rfl
theorem ent119 : ent Tryd.prog 119 = true := by kernel_rfl
theorem ent120 : ent Tryd.prog 120 = true := by kernel_rfl
theorem ent121 : ent Tryd.prog 121 = true := by kernel_rfl
theorem ent122 : ent Tryd.prog 122 = true := by kernel_rfl
theorem ent123 : ent Tryd.prog 123 = true := by kernel_rfl
theorem ent124 : ent Tryd.prog 124 = true := by kernel_rfl
theorem ent125 : ent Tryd.prog 125 = true := by kernel_rfl
theorem ent126 : ent Tryd.prog 126 = true := by kernel_rfl
theorem ent127 : ent Tryd.prog 127 = true := by kernel_rfl
theorem ent128 : ent Tryd.prog 128 = true := by kernel_rfl
theorem ent129 : ent Tryd.prog 129 = true := by kernel_rfl
theorem ent130 : ent Tryd.prog 130 = true := by kernel_rfl
theorem ent131 : ent Tryd.prog 131 = true := by kernel_rfl
theorem ent132 : ent Tryd.prog 132 = true := by kernel_rfl
theorem ent133 : ent Tryd.prog 133 = true := by kernel_rfl
theorem ent134 : ent Tryd.prog 134 = true := by kernel_rfl
theorem ent135 : ent Tryd.prog 135 = true := by kernel_rfl
theorem ent136 : ent Tryd.prog 136 = true := by kernel_rfl
theorem ent137 : ent Tryd.prog 137 = true := by kernel_rfl
theorem ent138 : ent Tryd.prog 138 = true := by kernel_rfl
theorem ent139 : ent Tryd.prog 139 = true := by kernel_rfl
theorem ent140 : ent Tryd.prog 140 = true := by kernel_rfl
theorem ent141 : ent Tryd.prog 141 = true := by kernel_rfl
theorem ent142 : ent Tryd.prog 142 = true := by kernel_rfl
theorem ent143 : ent Tryd.prog 143 = true := by kernel_rfl
theorem ent144 : ent Tryd.prog 144 = true := by kernel_rfl
theorem ent145 : ent Tryd.prog 145 = true := by kernel_rfl
theorem ent146 : ent Tryd.prog 146 = true := by kernel_rfl
theorem ent147 : ent Tryd.prog 147 = true := by kernel_rfl
theorem ent148 : ent Tryd.prog 148 = true := by kernel_rfl
theorem ent149 : ent Tryd.prog 149 = true := by kernel_rfl
theorem ent150 : ent Tryd.prog 150 = true := by kernel_rfl
theorem ent151 : ent Tryd.prog 151 = true := by kernel_rfl
theorem ent152 : ent Tryd.prog 152 = true := by kernel_rfl
theorem ent153 : ent Tryd.prog 153 = true := by kernel_rfl
theorem ent154 : ent Tryd.prog 154 = true := by kernel_rfl
theorem ent155 : ent Tryd.prog 155 = true := by kernel_rfl
theorem ent156 : ent Tryd.prog 156 = true := by kernel_rfl
theorem ent157 : ent Tryd.prog 157 = true := by kernel_rfl
theorem ent158 : ent Tryd.prog 158 = true := by kernel_rfl
theorem ent159 : ent Tryd.prog 159 = true := by kernel_rfl
theorem ent160 : ent Tryd.prog 160 = true := by kernel_rfl
theorem ent161 : ent Tryd.prog 161 = true := by kernel_rfl
theorem ent162 : ent Tryd.prog 162 = true := by kernel_rfl
theorem ent163 : ent Tryd.prog 163 = true := by kernel_rfl
theorem ent164 : ent Tryd.prog 164 = true := by kernel_rfl
theorem ent165 : ent Tryd.prog 165 = true := by kernel_rfl
theorem ent166 : ent Tryd.prog 166 = true := by kernel_rfl
theorem ent193 : ent Tryd.prog 193 = true := by kernel_rfl
end Tryd
end Go.Proofs
