/-
  The layout of the types of the given program: facts of the kernel, printed by a program.
-/
import Derived.Test.YtajdahnfnodoeaaDoorChecked
import Derived.Test.YtajdahnfnodoeaaDoorDReal
import Derived.Attr
set_option linter.all false
namespace Go.Proofs
open Go Go.Duo
namespace Tryd
theorem mix : Tryd.prog.follows .mixedOrders = true := by kernel_rfl
@[go_sem] theorem lay0 : lay Tryd.prog 0 = some (1, false) := by kernel_rfl
@[go_sem] theorem zro0 : zro Tryd.prog 0 = some [V.undef] := by kernel_rfl
@[go_sem] theorem lay1 : lay Tryd.prog 1 = some (1, false) := by kernel_rfl
@[go_sem] theorem zro1 : zro Tryd.prog 1 = some [V.nilfunc] := by kernel_rfl
@[go_sem] theorem lay2 : lay Tryd.prog 2 = some (1, false) := by kernel_rfl
@[go_sem] theorem zro2 : zro Tryd.prog 2 = some [V.int IntKind.i64 0] := by kernel_rfl
@[go_sem] theorem u2 : Tryd.prog.underlying 2 = some (.int .i64) := by kernel_rfl
@[go_sem] theorem lay3 : lay Tryd.prog 3 = some (1, false) := by kernel_rfl
@[go_sem] theorem zro3 : zro Tryd.prog 3 = some [V.int IntKind.i64 0] := by kernel_rfl
@[go_sem] theorem u3 : Tryd.prog.underlying 3 = some (.int .i64) := by kernel_rfl
@[go_sem] theorem lay4 : lay Tryd.prog 4 = some (1, false) := by kernel_rfl
@[go_sem] theorem zro4 : zro Tryd.prog 4 = some [V.bool false] := by kernel_rfl
@[go_sem] theorem u4 : Tryd.prog.underlying 4 = some .bool := by kernel_rfl
@[go_sem] theorem lay5 : lay Tryd.prog 5 = some (1, false) := by kernel_rfl
@[go_sem] theorem zro5 : zro Tryd.prog 5 = some [V.int IntKind.u8 0] := by kernel_rfl
@[go_sem] theorem u5 : Tryd.prog.underlying 5 = some (.int .u8) := by kernel_rfl
@[go_sem] theorem lay6 : lay Tryd.prog 6 = some (1, false) := by kernel_rfl
@[go_sem] theorem zro6 : zro Tryd.prog 6 = some [V.int IntKind.u8 0] := by kernel_rfl
@[go_sem] theorem u6 : Tryd.prog.underlying 6 = some (.int .u8) := by kernel_rfl
@[go_sem] theorem lay7 : lay Tryd.prog 7 = some (4, true) := by kernel_rfl
@[go_sem] theorem zro7 : zro Tryd.prog 7 = some [V.int IntKind.i64 0, V.int IntKind.i64 0, V.bool false, V.int IntKind.u8 0] := by kernel_rfl
@[go_sem] theorem fld7_0 : fld Tryd.prog 7 0 = some (0, 1, false) := by kernel_rfl
@[go_sem] theorem fld7_1 : fld Tryd.prog 7 1 = some (1, 1, false) := by kernel_rfl
@[go_sem] theorem fld7_2 : fld Tryd.prog 7 2 = some (2, 1, false) := by kernel_rfl
@[go_sem] theorem fld7_3 : fld Tryd.prog 7 3 = some (3, 1, false) := by kernel_rfl
@[go_sem] theorem plc7 : plc Tryd.prog 7 = some (fun k => ([(0, 1), (1, 1), (2, 1), (3, 1)] : List (Nat × Nat))[k]?) := by kernel_rfl
@[go_sem] theorem seq7 : sEq Tryd.prog 7 = some [0, 0, 2, 0] := by kernel_rfl
@[go_sem] theorem lay8 : lay Tryd.prog 8 = some (4, true) := by kernel_rfl
@[go_sem] theorem zro8 : zro Tryd.prog 8 = some [V.int IntKind.i64 0, V.int IntKind.i64 0, V.bool false, V.int IntKind.u8 0] := by kernel_rfl
@[go_sem] theorem fld8_0 : fld Tryd.prog 8 0 = some (0, 1, false) := by kernel_rfl
@[go_sem] theorem fld8_1 : fld Tryd.prog 8 1 = some (1, 1, false) := by kernel_rfl
@[go_sem] theorem fld8_2 : fld Tryd.prog 8 2 = some (2, 1, false) := by kernel_rfl
@[go_sem] theorem fld8_3 : fld Tryd.prog 8 3 = some (3, 1, false) := by kernel_rfl
@[go_sem] theorem plc8 : plc Tryd.prog 8 = some (fun k => ([(0, 1), (1, 1), (2, 1), (3, 1)] : List (Nat × Nat))[k]?) := by kernel_rfl
@[go_sem] theorem seq8 : sEq Tryd.prog 8 = some [0, 0, 2, 0] := by kernel_rfl
@[go_sem] theorem lay9 : lay Tryd.prog 9 = some (1, false) := by kernel_rfl
@[go_sem] theorem zro9 : zro Tryd.prog 9 = some [V.str []] := by kernel_rfl
@[go_sem] theorem u9 : Tryd.prog.underlying 9 = some .string := by kernel_rfl
@[go_sem] theorem lay10 : lay Tryd.prog 10 = some (1, false) := by kernel_rfl
@[go_sem] theorem zro10 : zro Tryd.prog 10 = some [V.str []] := by kernel_rfl
@[go_sem] theorem u10 : Tryd.prog.underlying 10 = some .string := by kernel_rfl
@[go_sem] theorem lay11 : lay Tryd.prog 11 = some (1, false) := by kernel_rfl
@[go_sem] theorem zro11 : zro Tryd.prog 11 = some [V.str []] := by kernel_rfl
@[go_sem] theorem u11 : Tryd.prog.underlying 11 = some .string := by kernel_rfl
@[go_sem] theorem lay12 : lay Tryd.prog 12 = some (1, false) := by kernel_rfl
@[go_sem] theorem zro12 : zro Tryd.prog 12 = some [V.int IntKind.u64 0] := by kernel_rfl
@[go_sem] theorem u12 : Tryd.prog.underlying 12 = some (.int .u64) := by kernel_rfl
@[go_sem] theorem lay13 : lay Tryd.prog 13 = some (2, true) := by kernel_rfl
@[go_sem] theorem zro13 : zro Tryd.prog 13 = some [V.str [], V.int IntKind.u64 0] := by kernel_rfl
@[go_sem] theorem fld13_0 : fld Tryd.prog 13 0 = some (0, 1, false) := by kernel_rfl
@[go_sem] theorem fld13_1 : fld Tryd.prog 13 1 = some (1, 1, false) := by kernel_rfl
@[go_sem] theorem plc13 : plc Tryd.prog 13 = some (fun k => ([(0, 1), (1, 1)] : List (Nat × Nat))[k]?) := by kernel_rfl
@[go_sem] theorem lay14 : lay Tryd.prog 14 = some (2, true) := by kernel_rfl
@[go_sem] theorem zro14 : zro Tryd.prog 14 = some [V.str [], V.int IntKind.u64 0] := by kernel_rfl
@[go_sem] theorem fld14_0 : fld Tryd.prog 14 0 = some (0, 1, false) := by kernel_rfl
@[go_sem] theorem fld14_1 : fld Tryd.prog 14 1 = some (1, 1, false) := by kernel_rfl
@[go_sem] theorem plc14 : plc Tryd.prog 14 = some (fun k => ([(0, 1), (1, 1)] : List (Nat × Nat))[k]?) := by kernel_rfl
@[go_sem] theorem lay15 : lay Tryd.prog 15 = some (1, false) := by kernel_rfl
@[go_sem] theorem zro15 : zro Tryd.prog 15 = some [V.nilptr] := by kernel_rfl
@[go_sem] theorem lay16 : lay Tryd.prog 16 = some (1, false) := by kernel_rfl
@[go_sem] theorem zro16 : zro Tryd.prog 16 = some [V.nilptr] := by kernel_rfl
@[go_sem] theorem lay17 : lay Tryd.prog 17 = some (1, false) := by kernel_rfl
@[go_sem] theorem zro17 : zro Tryd.prog 17 = some [V.nilptr] := by kernel_rfl
@[go_sem] theorem lay18 : lay Tryd.prog 18 = some (1, true) := by kernel_rfl
@[go_sem] theorem zro18 : zro Tryd.prog 18 = some [V.nilptr] := by kernel_rfl
@[go_sem] theorem fld18_0 : fld Tryd.prog 18 0 = some (0, 1, false) := by kernel_rfl
@[go_sem] theorem plc18 : plc Tryd.prog 18 = some (fun k => ([(0, 1)] : List (Nat × Nat))[k]?) := by kernel_rfl
@[go_sem] theorem lay19 : lay Tryd.prog 19 = some (1, true) := by kernel_rfl
@[go_sem] theorem zro19 : zro Tryd.prog 19 = some [V.nilptr] := by kernel_rfl
@[go_sem] theorem fld19_0 : fld Tryd.prog 19 0 = some (0, 1, false) := by kernel_rfl
@[go_sem] theorem plc19 : plc Tryd.prog 19 = some (fun k => ([(0, 1)] : List (Nat × Nat))[k]?) := by kernel_rfl
@[go_sem] theorem lay20 : lay Tryd.prog 20 = some (1, false) := by kernel_rfl
@[go_sem] theorem zro20 : zro Tryd.prog 20 = some [V.niliface] := by kernel_rfl
@[go_sem] theorem lay21 : lay Tryd.prog 21 = some (1, false) := by kernel_rfl
@[go_sem] theorem zro21 : zro Tryd.prog 21 = some [V.int IntKind.i32 0] := by kernel_rfl
@[go_sem] theorem u21 : Tryd.prog.underlying 21 = some (.int .i32) := by kernel_rfl
@[go_sem] theorem lay22 : lay Tryd.prog 22 = some (1, false) := by kernel_rfl
@[go_sem] theorem zro22 : zro Tryd.prog 22 = some [V.nilfunc] := by kernel_rfl
@[go_sem] theorem lay23 : lay Tryd.prog 23 = some (1, false) := by kernel_rfl
@[go_sem] theorem elt23 : elt Tryd.prog 23 = some (39, 4, 40) := by kernel_rfl
@[go_sem] theorem zro23 : zro Tryd.prog 23 = some [V.nil] := by kernel_rfl
@[go_sem] theorem lay24 : lay Tryd.prog 24 = some (1, false) := by kernel_rfl
@[go_sem] theorem zro24 : zro Tryd.prog 24 = some [V.int IntKind.i64 0] := by kernel_rfl
@[go_sem] theorem u24 : Tryd.prog.underlying 24 = some (.int .i64) := by kernel_rfl
@[go_sem] theorem lay25 : lay Tryd.prog 25 = some (2, true) := by kernel_rfl
@[go_sem] theorem zro25 : zro Tryd.prog 25 = some [V.int IntKind.i64 0, V.int IntKind.i64 0] := by kernel_rfl
@[go_sem] theorem fld25_0 : fld Tryd.prog 25 0 = some (0, 1, false) := by kernel_rfl
@[go_sem] theorem fld25_1 : fld Tryd.prog 25 1 = some (1, 1, false) := by kernel_rfl
@[go_sem] theorem plc25 : plc Tryd.prog 25 = some (fun k => ([(0, 1), (1, 1)] : List (Nat × Nat))[k]?) := by kernel_rfl
@[go_sem] theorem seq25 : sEq Tryd.prog 25 = some [0, 0] := by kernel_rfl
@[go_sem] theorem lay26 : lay Tryd.prog 26 = some (2, true) := by kernel_rfl
@[go_sem] theorem zro26 : zro Tryd.prog 26 = some [V.int IntKind.i64 0, V.int IntKind.i64 0] := by kernel_rfl
@[go_sem] theorem fld26_0 : fld Tryd.prog 26 0 = some (0, 1, false) := by kernel_rfl
@[go_sem] theorem fld26_1 : fld Tryd.prog 26 1 = some (1, 1, false) := by kernel_rfl
@[go_sem] theorem plc26 : plc Tryd.prog 26 = some (fun k => ([(0, 1), (1, 1)] : List (Nat × Nat))[k]?) := by kernel_rfl
@[go_sem] theorem seq26 : sEq Tryd.prog 26 = some [0, 0] := by kernel_rfl
@[go_sem] theorem lay27 : lay Tryd.prog 27 = some (1, false) := by kernel_rfl
@[go_sem] theorem zro27 : zro Tryd.prog 27 = some [V.undef] := by kernel_rfl
@[go_sem] theorem lay28 : lay Tryd.prog 28 = some (1, false) := by kernel_rfl
@[go_sem] theorem zro28 : zro Tryd.prog 28 = some [V.nilfunc] := by kernel_rfl
@[go_sem] theorem lay29 : lay Tryd.prog 29 = some (1, false) := by kernel_rfl
@[go_sem] theorem elt29 : elt Tryd.prog 29 = some (49, 4, 40) := by kernel_rfl
@[go_sem] theorem zro29 : zro Tryd.prog 29 = some [V.nil] := by kernel_rfl
@[go_sem] theorem lay30 : lay Tryd.prog 30 = some (1, false) := by kernel_rfl
@[go_sem] theorem zro30 : zro Tryd.prog 30 = some [V.undef] := by kernel_rfl
@[go_sem] theorem lay31 : lay Tryd.prog 31 = some (1, false) := by kernel_rfl
@[go_sem] theorem zro31 : zro Tryd.prog 31 = some [V.nilfunc] := by kernel_rfl
@[go_sem] theorem lay32 : lay Tryd.prog 32 = some (1, false) := by kernel_rfl
@[go_sem] theorem zro32 : zro Tryd.prog 32 = some [V.nilfunc] := by kernel_rfl
@[go_sem] theorem lay33 : lay Tryd.prog 33 = some (1, false) := by kernel_rfl
@[go_sem] theorem zro33 : zro Tryd.prog 33 = some [V.nilfunc] := by kernel_rfl
@[go_sem] theorem lay34 : lay Tryd.prog 34 = some (1, false) := by kernel_rfl
@[go_sem] theorem zro34 : zro Tryd.prog 34 = some [V.nilfunc] := by kernel_rfl
@[go_sem] theorem lay35 : lay Tryd.prog 35 = some (1, false) := by kernel_rfl
@[go_sem] theorem zro35 : zro Tryd.prog 35 = some [V.nilfunc] := by kernel_rfl
@[go_sem] theorem lay36 : lay Tryd.prog 36 = some (1, false) := by kernel_rfl
@[go_sem] theorem zro36 : zro Tryd.prog 36 = some [V.nilfunc] := by kernel_rfl
@[go_sem] theorem lay37 : lay Tryd.prog 37 = some (1, false) := by kernel_rfl
@[go_sem] theorem zro37 : zro Tryd.prog 37 = some [V.nilfunc] := by kernel_rfl
@[go_sem] theorem lay38 : lay Tryd.prog 38 = some (4, true) := by kernel_rfl
@[go_sem] theorem zro38 : zro Tryd.prog 38 = some [V.int IntKind.i64 0, V.str [], V.int IntKind.i64 0, V.int IntKind.i64 0] := by kernel_rfl
@[go_sem] theorem fld38_0 : fld Tryd.prog 38 0 = some (0, 1, false) := by kernel_rfl
@[go_sem] theorem fld38_1 : fld Tryd.prog 38 1 = some (1, 1, false) := by kernel_rfl
@[go_sem] theorem fld38_2 : fld Tryd.prog 38 2 = some (2, 1, false) := by kernel_rfl
@[go_sem] theorem fld38_3 : fld Tryd.prog 38 3 = some (3, 1, false) := by kernel_rfl
@[go_sem] theorem plc38 : plc Tryd.prog 38 = some (fun k => ([(0, 1), (1, 1), (2, 1), (3, 1)] : List (Nat × Nat))[k]?) := by kernel_rfl
@[go_sem] theorem seq38 : sEq Tryd.prog 38 = some [0, 1, 0, 0] := by kernel_rfl
@[go_sem] theorem lay39 : lay Tryd.prog 39 = some (4, true) := by kernel_rfl
@[go_sem] theorem zro39 : zro Tryd.prog 39 = some [V.int IntKind.i64 0, V.str [], V.int IntKind.i64 0, V.int IntKind.i64 0] := by kernel_rfl
@[go_sem] theorem fld39_0 : fld Tryd.prog 39 0 = some (0, 1, false) := by kernel_rfl
@[go_sem] theorem fld39_1 : fld Tryd.prog 39 1 = some (1, 1, false) := by kernel_rfl
@[go_sem] theorem fld39_2 : fld Tryd.prog 39 2 = some (2, 1, false) := by kernel_rfl
@[go_sem] theorem fld39_3 : fld Tryd.prog 39 3 = some (3, 1, false) := by kernel_rfl
@[go_sem] theorem plc39 : plc Tryd.prog 39 = some (fun k => ([(0, 1), (1, 1), (2, 1), (3, 1)] : List (Nat × Nat))[k]?) := by kernel_rfl
@[go_sem] theorem seq39 : sEq Tryd.prog 39 = some [0, 1, 0, 0] := by kernel_rfl
@[go_sem] theorem lay40 : lay Tryd.prog 40 = some (1, false) := by kernel_rfl
@[go_sem] theorem zro40 : zro Tryd.prog 40 = some [V.nilfunc] := by kernel_rfl
@[go_sem] theorem lay41 : lay Tryd.prog 41 = some (1, false) := by kernel_rfl
@[go_sem] theorem zro41 : zro Tryd.prog 41 = some [V.nilfunc] := by kernel_rfl
@[go_sem] theorem lay42 : lay Tryd.prog 42 = some (1, false) := by kernel_rfl
@[go_sem] theorem zro42 : zro Tryd.prog 42 = some [V.nilfunc] := by kernel_rfl
@[go_sem] theorem lay43 : lay Tryd.prog 43 = some (1, false) := by kernel_rfl
@[go_sem] theorem zro43 : zro Tryd.prog 43 = some [V.nilfunc] := by kernel_rfl
@[go_sem] theorem lay44 : lay Tryd.prog 44 = some (1, false) := by kernel_rfl
@[go_sem] theorem zro44 : zro Tryd.prog 44 = some [V.nilfunc] := by kernel_rfl
@[go_sem] theorem lay45 : lay Tryd.prog 45 = some (1, false) := by kernel_rfl
@[go_sem] theorem zro45 : zro Tryd.prog 45 = some [V.nilfunc] := by kernel_rfl
@[go_sem] theorem lay46 : lay Tryd.prog 46 = some (1, false) := by kernel_rfl
@[go_sem] theorem zro46 : zro Tryd.prog 46 = some [V.nilfunc] := by kernel_rfl
@[go_sem] theorem lay47 : lay Tryd.prog 47 = some (1, false) := by kernel_rfl
@[go_sem] theorem zro47 : zro Tryd.prog 47 = some [V.nilfunc] := by kernel_rfl
@[go_sem] theorem lay48 : lay Tryd.prog 48 = some (1, false) := by kernel_rfl
@[go_sem] theorem zro48 : zro Tryd.prog 48 = some [V.nilfunc] := by kernel_rfl
@[go_sem] theorem lay49 : lay Tryd.prog 49 = some (4, true) := by kernel_rfl
@[go_sem] theorem zro49 : zro Tryd.prog 49 = some [V.int IntKind.i64 0, V.str [], V.int IntKind.i64 0, V.int IntKind.i64 0] := by kernel_rfl
@[go_sem] theorem fld49_0 : fld Tryd.prog 49 0 = some (0, 1, false) := by kernel_rfl
@[go_sem] theorem fld49_1 : fld Tryd.prog 49 1 = some (1, 1, false) := by kernel_rfl
@[go_sem] theorem fld49_2 : fld Tryd.prog 49 2 = some (2, 1, false) := by kernel_rfl
@[go_sem] theorem fld49_3 : fld Tryd.prog 49 3 = some (3, 1, false) := by kernel_rfl
@[go_sem] theorem plc49 : plc Tryd.prog 49 = some (fun k => ([(0, 1), (1, 1), (2, 1), (3, 1)] : List (Nat × Nat))[k]?) := by kernel_rfl
@[go_sem] theorem seq49 : sEq Tryd.prog 49 = some [0, 1, 0, 0] := by kernel_rfl
@[go_sem] theorem lay50 : lay Tryd.prog 50 = some (1, false) := by kernel_rfl
@[go_sem] theorem zro50 : zro Tryd.prog 50 = some [V.undef] := by kernel_rfl
@[go_sem] theorem lay51 : lay Tryd.prog 51 = some (1, false) := by kernel_rfl
@[go_sem] theorem zro51 : zro Tryd.prog 51 = some [V.nilfunc] := by kernel_rfl
@[go_sem] theorem lay52 : lay Tryd.prog 52 = some (1, false) := by kernel_rfl
@[go_sem] theorem zro52 : zro Tryd.prog 52 = some [V.nilfunc] := by kernel_rfl
@[go_sem] theorem lay53 : lay Tryd.prog 53 = some (1, false) := by kernel_rfl
@[go_sem] theorem elt53 : elt Tryd.prog 53 = some (9, 1, 16) := by kernel_rfl
@[go_sem] theorem zro53 : zro Tryd.prog 53 = some [V.nil] := by kernel_rfl
@[go_sem] theorem lay54 : lay Tryd.prog 54 = some (10, true) := by kernel_rfl
@[go_sem] theorem elt54 : elt Tryd.prog 54 = none := by kernel_rfl
@[go_sem] theorem arr54 : arr Tryd.prog 54 = some (10, 1, false) := by kernel_rfl
@[go_sem] theorem zro54 : zro Tryd.prog 54 = some [V.str [], V.str [], V.str [], V.str [], V.str [], V.str [], V.str [], V.str [], V.str [], V.str []] := by kernel_rfl
@[go_sem] theorem plc54 : plc Tryd.prog 54 = some (fun k => some (k * 1, 1)) := by kernel_rfl
@[go_sem] theorem seq54 : sEq Tryd.prog 54 = some [1, 1, 1, 1, 1, 1, 1, 1, 1, 1] := by kernel_rfl
@[go_sem] theorem lay55 : lay Tryd.prog 55 = some (1, false) := by kernel_rfl
@[go_sem] theorem zro55 : zro Tryd.prog 55 = some [V.nilfunc] := by kernel_rfl
@[go_sem] theorem lay56 : lay Tryd.prog 56 = some (1, false) := by kernel_rfl
@[go_sem] theorem zro56 : zro Tryd.prog 56 = some [V.nilfunc] := by kernel_rfl
@[go_sem] theorem lay57 : lay Tryd.prog 57 = some (1, false) := by kernel_rfl
@[go_sem] theorem zro57 : zro Tryd.prog 57 = some [V.nilfunc] := by kernel_rfl
@[go_sem] theorem lay58 : lay Tryd.prog 58 = some (1, false) := by kernel_rfl
@[go_sem] theorem zro58 : zro Tryd.prog 58 = some [V.nilfunc] := by kernel_rfl
@[go_sem] theorem lay59 : lay Tryd.prog 59 = some (1, false) := by kernel_rfl
@[go_sem] theorem zro59 : zro Tryd.prog 59 = some [V.undef] := by kernel_rfl
@[go_sem] theorem lay60 : lay Tryd.prog 60 = some (1, false) := by kernel_rfl
@[go_sem] theorem zro60 : zro Tryd.prog 60 = some [V.nilfunc] := by kernel_rfl
@[go_sem] theorem lay61 : lay Tryd.prog 61 = some (1, false) := by kernel_rfl
@[go_sem] theorem zro61 : zro Tryd.prog 61 = some [V.nilfunc] := by kernel_rfl
@[go_sem] theorem lay62 : lay Tryd.prog 62 = some (1, false) := by kernel_rfl
@[go_sem] theorem zro62 : zro Tryd.prog 62 = some [V.nilfunc] := by kernel_rfl
@[go_sem] theorem lay63 : lay Tryd.prog 63 = some (1, false) := by kernel_rfl
@[go_sem] theorem zro63 : zro Tryd.prog 63 = some [V.nilptr] := by kernel_rfl
@[go_sem] theorem lay64 : lay Tryd.prog 64 = some (1, false) := by kernel_rfl
@[go_sem] theorem elt64 : elt Tryd.prog 64 = some (5, 1, 1) := by kernel_rfl
@[go_sem] theorem zro64 : zro Tryd.prog 64 = some [V.nil] := by kernel_rfl
@[go_sem] theorem lay65 : lay Tryd.prog 65 = some (2, true) := by kernel_rfl
@[go_sem] theorem zro65 : zro Tryd.prog 65 = some [V.nilptr, V.nil] := by kernel_rfl
@[go_sem] theorem fld65_0 : fld Tryd.prog 65 0 = some (0, 1, false) := by kernel_rfl
@[go_sem] theorem fld65_1 : fld Tryd.prog 65 1 = some (1, 1, false) := by kernel_rfl
@[go_sem] theorem plc65 : plc Tryd.prog 65 = some (fun k => ([(0, 1), (1, 1)] : List (Nat × Nat))[k]?) := by kernel_rfl
@[go_sem] theorem lay66 : lay Tryd.prog 66 = some (2, true) := by kernel_rfl
@[go_sem] theorem zro66 : zro Tryd.prog 66 = some [V.nilptr, V.nil] := by kernel_rfl
@[go_sem] theorem fld66_0 : fld Tryd.prog 66 0 = some (0, 1, false) := by kernel_rfl
@[go_sem] theorem fld66_1 : fld Tryd.prog 66 1 = some (1, 1, false) := by kernel_rfl
@[go_sem] theorem plc66 : plc Tryd.prog 66 = some (fun k => ([(0, 1), (1, 1)] : List (Nat × Nat))[k]?) := by kernel_rfl
@[go_sem] theorem lay67 : lay Tryd.prog 67 = some (1, false) := by kernel_rfl
@[go_sem] theorem zro67 : zro Tryd.prog 67 = some [V.nilfunc] := by kernel_rfl
@[go_sem] theorem lay68 : lay Tryd.prog 68 = some (1, false) := by kernel_rfl
@[go_sem] theorem zro68 : zro Tryd.prog 68 = some [V.niliface] := by kernel_rfl
@[go_sem] theorem lay69 : lay Tryd.prog 69 = some (1, false) := by kernel_rfl
@[go_sem] theorem zro69 : zro Tryd.prog 69 = some [V.niliface] := by kernel_rfl
@[go_sem] theorem lay70 : lay Tryd.prog 70 = some (1, false) := by kernel_rfl
@[go_sem] theorem zro70 : zro Tryd.prog 70 = some [V.undef] := by kernel_rfl
@[go_sem] theorem lay71 : lay Tryd.prog 71 = some (1, false) := by kernel_rfl
@[go_sem] theorem zro71 : zro Tryd.prog 71 = some [V.nilfunc] := by kernel_rfl
@[go_sem] theorem lay72 : lay Tryd.prog 72 = some (1, false) := by kernel_rfl
@[go_sem] theorem zro72 : zro Tryd.prog 72 = some [V.undef] := by kernel_rfl
@[go_sem] theorem lay73 : lay Tryd.prog 73 = some (1, false) := by kernel_rfl
@[go_sem] theorem zro73 : zro Tryd.prog 73 = some [V.nilfunc] := by kernel_rfl
@[go_sem] theorem lay74 : lay Tryd.prog 74 = some (1, false) := by kernel_rfl
@[go_sem] theorem zro74 : zro Tryd.prog 74 = some [V.nilfunc] := by kernel_rfl
@[go_sem] theorem lay75 : lay Tryd.prog 75 = some (1, false) := by kernel_rfl
@[go_sem] theorem zro75 : zro Tryd.prog 75 = some [V.nilptr] := by kernel_rfl
@[go_sem] theorem lay76 : lay Tryd.prog 76 = some (1, false) := by kernel_rfl
@[go_sem] theorem zro76 : zro Tryd.prog 76 = some [V.nilfunc] := by kernel_rfl
@[go_sem] theorem lay77 : lay Tryd.prog 77 = some (1, false) := by kernel_rfl
@[go_sem] theorem zro77 : zro Tryd.prog 77 = some [V.nilptr] := by kernel_rfl
@[go_sem] theorem lay78 : lay Tryd.prog 78 = some (1, false) := by kernel_rfl
@[go_sem] theorem zro78 : zro Tryd.prog 78 = some [V.nilfunc] := by kernel_rfl
@[go_sem] theorem lay79 : lay Tryd.prog 79 = some (1, false) := by kernel_rfl
@[go_sem] theorem zro79 : zro Tryd.prog 79 = some [V.nilfunc] := by kernel_rfl
@[go_sem] theorem lay80 : lay Tryd.prog 80 = some (1, false) := by kernel_rfl
@[go_sem] theorem zro80 : zro Tryd.prog 80 = some [V.int IntKind.i64 0] := by kernel_rfl
@[go_sem] theorem u80 : Tryd.prog.underlying 80 = some (.int .i64) := by kernel_rfl
@[go_sem] theorem lay81 : lay Tryd.prog 81 = some (1, false) := by kernel_rfl
@[go_sem] theorem zro81 : zro Tryd.prog 81 = some [V.int IntKind.u64 0] := by kernel_rfl
@[go_sem] theorem u81 : Tryd.prog.underlying 81 = some (.int .u64) := by kernel_rfl
@[go_sem] theorem lay82 : lay Tryd.prog 82 = some (1, false) := by kernel_rfl
@[go_sem] theorem zro82 : zro Tryd.prog 82 = some [V.undef] := by kernel_rfl
@[go_sem] theorem lay83 : lay Tryd.prog 83 = some (1, false) := by kernel_rfl
@[go_sem] theorem zro83 : zro Tryd.prog 83 = some [V.nilfunc] := by kernel_rfl
@[go_sem] theorem lay84 : lay Tryd.prog 84 = some (1, false) := by kernel_rfl
@[go_sem] theorem zro84 : zro Tryd.prog 84 = some [V.int IntKind.u64 0] := by kernel_rfl
@[go_sem] theorem u84 : Tryd.prog.underlying 84 = some (.int .u64) := by kernel_rfl
@[go_sem] theorem lay85 : lay Tryd.prog 85 = some (1, false) := by kernel_rfl
@[go_sem] theorem zro85 : zro Tryd.prog 85 = some [V.nilptr] := by kernel_rfl
@[go_sem] theorem lay86 : lay Tryd.prog 86 = some (1, false) := by kernel_rfl
@[go_sem] theorem zro86 : zro Tryd.prog 86 = some [V.nilfunc] := by kernel_rfl
@[go_sem] theorem lay87 : lay Tryd.prog 87 = some (1, false) := by kernel_rfl
@[go_sem] theorem zro87 : zro Tryd.prog 87 = some [V.nilfunc] := by kernel_rfl
@[go_sem] theorem lay88 : lay Tryd.prog 88 = some (1, false) := by kernel_rfl
@[go_sem] theorem zro88 : zro Tryd.prog 88 = some [V.nilfunc] := by kernel_rfl
@[go_sem] theorem lay89 : lay Tryd.prog 89 = some (1, false) := by kernel_rfl
@[go_sem] theorem zro89 : zro Tryd.prog 89 = some [V.nilfunc] := by kernel_rfl
@[go_sem] theorem lay90 : lay Tryd.prog 90 = some (3, true) := by kernel_rfl
@[go_sem] theorem zro90 : zro Tryd.prog 90 = some [V.str [], V.str [], V.niliface] := by kernel_rfl
@[go_sem] theorem fld90_0 : fld Tryd.prog 90 0 = some (0, 1, false) := by kernel_rfl
@[go_sem] theorem fld90_1 : fld Tryd.prog 90 1 = some (1, 1, false) := by kernel_rfl
@[go_sem] theorem fld90_2 : fld Tryd.prog 90 2 = some (2, 1, false) := by kernel_rfl
@[go_sem] theorem plc90 : plc Tryd.prog 90 = some (fun k => ([(0, 1), (1, 1), (2, 1)] : List (Nat × Nat))[k]?) := by kernel_rfl
@[go_sem] theorem lay91 : lay Tryd.prog 91 = some (3, true) := by kernel_rfl
@[go_sem] theorem zro91 : zro Tryd.prog 91 = some [V.str [], V.str [], V.niliface] := by kernel_rfl
@[go_sem] theorem fld91_0 : fld Tryd.prog 91 0 = some (0, 1, false) := by kernel_rfl
@[go_sem] theorem fld91_1 : fld Tryd.prog 91 1 = some (1, 1, false) := by kernel_rfl
@[go_sem] theorem fld91_2 : fld Tryd.prog 91 2 = some (2, 1, false) := by kernel_rfl
@[go_sem] theorem plc91 : plc Tryd.prog 91 = some (fun k => ([(0, 1), (1, 1), (2, 1)] : List (Nat × Nat))[k]?) := by kernel_rfl
@[go_sem] theorem lay92 : lay Tryd.prog 92 = some (1, false) := by kernel_rfl
@[go_sem] theorem zro92 : zro Tryd.prog 92 = some [V.nilfunc] := by kernel_rfl
@[go_sem] theorem lay93 : lay Tryd.prog 93 = some (1, false) := by kernel_rfl
@[go_sem] theorem zro93 : zro Tryd.prog 93 = some [V.nilfunc] := by kernel_rfl
@[go_sem] theorem lay94 : lay Tryd.prog 94 = some (1, false) := by kernel_rfl
@[go_sem] theorem zro94 : zro Tryd.prog 94 = some [V.nilptr] := by kernel_rfl
@[go_sem] theorem lay95 : lay Tryd.prog 95 = some (1, true) := by kernel_rfl
@[go_sem] theorem zro95 : zro Tryd.prog 95 = some [V.str []] := by kernel_rfl
@[go_sem] theorem fld95_0 : fld Tryd.prog 95 0 = some (0, 1, false) := by kernel_rfl
@[go_sem] theorem plc95 : plc Tryd.prog 95 = some (fun k => ([(0, 1)] : List (Nat × Nat))[k]?) := by kernel_rfl
@[go_sem] theorem seq95 : sEq Tryd.prog 95 = some [1] := by kernel_rfl
@[go_sem] theorem lay96 : lay Tryd.prog 96 = some (1, true) := by kernel_rfl
@[go_sem] theorem zro96 : zro Tryd.prog 96 = some [V.str []] := by kernel_rfl
@[go_sem] theorem fld96_0 : fld Tryd.prog 96 0 = some (0, 1, false) := by kernel_rfl
@[go_sem] theorem plc96 : plc Tryd.prog 96 = some (fun k => ([(0, 1)] : List (Nat × Nat))[k]?) := by kernel_rfl
@[go_sem] theorem seq96 : sEq Tryd.prog 96 = some [1] := by kernel_rfl
@[go_sem] theorem lay97 : lay Tryd.prog 97 = some (1, false) := by kernel_rfl
@[go_sem] theorem zro97 : zro Tryd.prog 97 = some [V.nilfunc] := by kernel_rfl
@[go_sem] theorem lay98 : lay Tryd.prog 98 = some (24, true) := by kernel_rfl
@[go_sem] theorem elt98 : elt Tryd.prog 98 = none := by kernel_rfl
@[go_sem] theorem arr98 : arr Tryd.prog 98 = some (24, 1, false) := by kernel_rfl
@[go_sem] theorem zro98 : zro Tryd.prog 98 = some [V.int IntKind.u8 0, V.int IntKind.u8 0, V.int IntKind.u8 0, V.int IntKind.u8 0, V.int IntKind.u8 0, V.int IntKind.u8 0, V.int IntKind.u8 0, V.int IntKind.u8 0, V.int IntKind.u8 0, V.int IntKind.u8 0, V.int IntKind.u8 0, V.int IntKind.u8 0, V.int IntKind.u8 0, V.int IntKind.u8 0, V.int IntKind.u8 0, V.int IntKind.u8 0, V.int IntKind.u8 0, V.int IntKind.u8 0, V.int IntKind.u8 0, V.int IntKind.u8 0, V.int IntKind.u8 0, V.int IntKind.u8 0, V.int IntKind.u8 0, V.int IntKind.u8 0] := by kernel_rfl
@[go_sem] theorem plc98 : plc Tryd.prog 98 = some (fun k => some (k * 1, 1)) := by kernel_rfl
@[go_sem] theorem seq98 : sEq Tryd.prog 98 = some [0, 0, 0, 0, 0, 0, 0, 0, 0, 0, 0, 0, 0, 0, 0, 0, 0, 0, 0, 0, 0, 0, 0, 0] := by kernel_rfl
@[go_sem] theorem lay99 : lay Tryd.prog 99 = some (1, false) := by kernel_rfl
@[go_sem] theorem zro99 : zro Tryd.prog 99 = some [V.nilfunc] := by kernel_rfl
@[go_sem] theorem lay100 : lay Tryd.prog 100 = some (1, false) := by kernel_rfl
@[go_sem] theorem zro100 : zro Tryd.prog 100 = some [V.nilfunc] := by kernel_rfl
@[go_sem] theorem lay101 : lay Tryd.prog 101 = some (1, false) := by kernel_rfl
@[go_sem] theorem zro101 : zro Tryd.prog 101 = some [V.undef] := by kernel_rfl
@[go_sem] theorem lay102 : lay Tryd.prog 102 = some (1, false) := by kernel_rfl
@[go_sem] theorem zro102 : zro Tryd.prog 102 = some [V.nilfunc] := by kernel_rfl
@[go_sem] theorem lay103 : lay Tryd.prog 103 = some (1, false) := by kernel_rfl
@[go_sem] theorem zro103 : zro Tryd.prog 103 = some [V.nilfunc] := by kernel_rfl
@[go_sem] theorem lay104 : lay Tryd.prog 104 = some (1, false) := by kernel_rfl
@[go_sem] theorem zro104 : zro Tryd.prog 104 = some [V.nilfunc] := by kernel_rfl
@[go_sem] theorem lay105 : lay Tryd.prog 105 = some (20, true) := by kernel_rfl
@[go_sem] theorem elt105 : elt Tryd.prog 105 = none := by kernel_rfl
@[go_sem] theorem arr105 : arr Tryd.prog 105 = some (20, 1, false) := by kernel_rfl
@[go_sem] theorem zro105 : zro Tryd.prog 105 = some [V.int IntKind.u64 0, V.int IntKind.u64 0, V.int IntKind.u64 0, V.int IntKind.u64 0, V.int IntKind.u64 0, V.int IntKind.u64 0, V.int IntKind.u64 0, V.int IntKind.u64 0, V.int IntKind.u64 0, V.int IntKind.u64 0, V.int IntKind.u64 0, V.int IntKind.u64 0, V.int IntKind.u64 0, V.int IntKind.u64 0, V.int IntKind.u64 0, V.int IntKind.u64 0, V.int IntKind.u64 0, V.int IntKind.u64 0, V.int IntKind.u64 0, V.int IntKind.u64 0] := by kernel_rfl
@[go_sem] theorem plc105 : plc Tryd.prog 105 = some (fun k => some (k * 1, 1)) := by kernel_rfl
@[go_sem] theorem seq105 : sEq Tryd.prog 105 = some [0, 0, 0, 0, 0, 0, 0, 0, 0, 0, 0, 0, 0, 0, 0, 0, 0, 0, 0, 0] := by kernel_rfl
@[go_sem] theorem lay106 : lay Tryd.prog 106 = some (1, false) := by kernel_rfl
@[go_sem] theorem zro106 : zro Tryd.prog 106 = some [V.int IntKind.u32 0] := by kernel_rfl
@[go_sem] theorem u106 : Tryd.prog.underlying 106 = some (.int .u32) := by kernel_rfl
@[go_sem] theorem lay107 : lay Tryd.prog 107 = some (65, true) := by kernel_rfl
@[go_sem] theorem elt107 : elt Tryd.prog 107 = none := by kernel_rfl
@[go_sem] theorem arr107 : arr Tryd.prog 107 = some (65, 1, false) := by kernel_rfl
@[go_sem] theorem zro107 : zro Tryd.prog 107 = some [V.int IntKind.u8 0, V.int IntKind.u8 0, V.int IntKind.u8 0, V.int IntKind.u8 0, V.int IntKind.u8 0, V.int IntKind.u8 0, V.int IntKind.u8 0, V.int IntKind.u8 0, V.int IntKind.u8 0, V.int IntKind.u8 0, V.int IntKind.u8 0, V.int IntKind.u8 0, V.int IntKind.u8 0, V.int IntKind.u8 0, V.int IntKind.u8 0, V.int IntKind.u8 0, V.int IntKind.u8 0, V.int IntKind.u8 0, V.int IntKind.u8 0, V.int IntKind.u8 0, V.int IntKind.u8 0, V.int IntKind.u8 0, V.int IntKind.u8 0, V.int IntKind.u8 0, V.int IntKind.u8 0, V.int IntKind.u8 0, V.int IntKind.u8 0, V.int IntKind.u8 0, V.int IntKind.u8 0, V.int IntKind.u8 0, V.int IntKind.u8 0, V.int IntKind.u8 0, V.int IntKind.u8 0, V.int IntKind.u8 0, V.int IntKind.u8 0, V.int IntKind.u8 0, V.int IntKind.u8 0, V.int IntKind.u8 0, V.int IntKind.u8 0, V.int IntKind.u8 0, V.int IntKind.u8 0, V.int IntKind.u8 0, V.int IntKind.u8 0, V.int IntKind.u8 0, V.int IntKind.u8 0, V.int IntKind.u8 0, V.int IntKind.u8 0, V.int IntKind.u8 0, V.int IntKind.u8 0, V.int IntKind.u8 0, V.int IntKind.u8 0, V.int IntKind.u8 0, V.int IntKind.u8 0, V.int IntKind.u8 0, V.int IntKind.u8 0, V.int IntKind.u8 0, V.int IntKind.u8 0, V.int IntKind.u8 0, V.int IntKind.u8 0, V.int IntKind.u8 0, V.int IntKind.u8 0, V.int IntKind.u8 0, V.int IntKind.u8 0, V.int IntKind.u8 0, V.int IntKind.u8 0] := by kernel_rfl
@[go_sem] theorem plc107 : plc Tryd.prog 107 = some (fun k => some (k * 1, 1)) := by kernel_rfl
@[go_sem] theorem seq107 : sEq Tryd.prog 107 = some [0, 0, 0, 0, 0, 0, 0, 0, 0, 0, 0, 0, 0, 0, 0, 0, 0, 0, 0, 0, 0, 0, 0, 0, 0, 0, 0, 0, 0, 0, 0, 0, 0, 0, 0, 0, 0, 0, 0, 0, 0, 0, 0, 0, 0, 0, 0, 0, 0, 0, 0, 0, 0, 0, 0, 0, 0, 0, 0, 0, 0, 0, 0, 0, 0] := by kernel_rfl
@[go_sem] theorem lay108 : lay Tryd.prog 108 = some (1, false) := by kernel_rfl
@[go_sem] theorem zro108 : zro Tryd.prog 108 = some [V.nilfunc] := by kernel_rfl
@[go_sem] theorem lay109 : lay Tryd.prog 109 = some (1, false) := by kernel_rfl
@[go_sem] theorem zro109 : zro Tryd.prog 109 = some [V.nilfunc] := by kernel_rfl
@[go_sem] theorem lay110 : lay Tryd.prog 110 = some (1, false) := by kernel_rfl
@[go_sem] theorem zro110 : zro Tryd.prog 110 = some [V.nilfunc] := by kernel_rfl
@[go_sem] theorem lay111 : lay Tryd.prog 111 = some (32, true) := by kernel_rfl
@[go_sem] theorem elt111 : elt Tryd.prog 111 = none := by kernel_rfl
@[go_sem] theorem arr111 : arr Tryd.prog 111 = some (32, 1, false) := by kernel_rfl
@[go_sem] theorem zro111 : zro Tryd.prog 111 = some [V.int IntKind.u8 0, V.int IntKind.u8 0, V.int IntKind.u8 0, V.int IntKind.u8 0, V.int IntKind.u8 0, V.int IntKind.u8 0, V.int IntKind.u8 0, V.int IntKind.u8 0, V.int IntKind.u8 0, V.int IntKind.u8 0, V.int IntKind.u8 0, V.int IntKind.u8 0, V.int IntKind.u8 0, V.int IntKind.u8 0, V.int IntKind.u8 0, V.int IntKind.u8 0, V.int IntKind.u8 0, V.int IntKind.u8 0, V.int IntKind.u8 0, V.int IntKind.u8 0, V.int IntKind.u8 0, V.int IntKind.u8 0, V.int IntKind.u8 0, V.int IntKind.u8 0, V.int IntKind.u8 0, V.int IntKind.u8 0, V.int IntKind.u8 0, V.int IntKind.u8 0, V.int IntKind.u8 0, V.int IntKind.u8 0, V.int IntKind.u8 0, V.int IntKind.u8 0] := by kernel_rfl
@[go_sem] theorem plc111 : plc Tryd.prog 111 = some (fun k => some (k * 1, 1)) := by kernel_rfl
@[go_sem] theorem seq111 : sEq Tryd.prog 111 = some [0, 0, 0, 0, 0, 0, 0, 0, 0, 0, 0, 0, 0, 0, 0, 0, 0, 0, 0, 0, 0, 0, 0, 0, 0, 0, 0, 0, 0, 0, 0, 0] := by kernel_rfl
@[go_sem] theorem lay112 : lay Tryd.prog 112 = some (64, true) := by kernel_rfl
@[go_sem] theorem elt112 : elt Tryd.prog 112 = none := by kernel_rfl
@[go_sem] theorem arr112 : arr Tryd.prog 112 = some (64, 1, false) := by kernel_rfl
@[go_sem] theorem zro112 : zro Tryd.prog 112 = some [V.int IntKind.u8 0, V.int IntKind.u8 0, V.int IntKind.u8 0, V.int IntKind.u8 0, V.int IntKind.u8 0, V.int IntKind.u8 0, V.int IntKind.u8 0, V.int IntKind.u8 0, V.int IntKind.u8 0, V.int IntKind.u8 0, V.int IntKind.u8 0, V.int IntKind.u8 0, V.int IntKind.u8 0, V.int IntKind.u8 0, V.int IntKind.u8 0, V.int IntKind.u8 0, V.int IntKind.u8 0, V.int IntKind.u8 0, V.int IntKind.u8 0, V.int IntKind.u8 0, V.int IntKind.u8 0, V.int IntKind.u8 0, V.int IntKind.u8 0, V.int IntKind.u8 0, V.int IntKind.u8 0, V.int IntKind.u8 0, V.int IntKind.u8 0, V.int IntKind.u8 0, V.int IntKind.u8 0, V.int IntKind.u8 0, V.int IntKind.u8 0, V.int IntKind.u8 0, V.int IntKind.u8 0, V.int IntKind.u8 0, V.int IntKind.u8 0, V.int IntKind.u8 0, V.int IntKind.u8 0, V.int IntKind.u8 0, V.int IntKind.u8 0, V.int IntKind.u8 0, V.int IntKind.u8 0, V.int IntKind.u8 0, V.int IntKind.u8 0, V.int IntKind.u8 0, V.int IntKind.u8 0, V.int IntKind.u8 0, V.int IntKind.u8 0, V.int IntKind.u8 0, V.int IntKind.u8 0, V.int IntKind.u8 0, V.int IntKind.u8 0, V.int IntKind.u8 0, V.int IntKind.u8 0, V.int IntKind.u8 0, V.int IntKind.u8 0, V.int IntKind.u8 0, V.int IntKind.u8 0, V.int IntKind.u8 0, V.int IntKind.u8 0, V.int IntKind.u8 0, V.int IntKind.u8 0, V.int IntKind.u8 0, V.int IntKind.u8 0, V.int IntKind.u8 0] := by kernel_rfl
@[go_sem] theorem plc112 : plc Tryd.prog 112 = some (fun k => some (k * 1, 1)) := by kernel_rfl
@[go_sem] theorem seq112 : sEq Tryd.prog 112 = some [0, 0, 0, 0, 0, 0, 0, 0, 0, 0, 0, 0, 0, 0, 0, 0, 0, 0, 0, 0, 0, 0, 0, 0, 0, 0, 0, 0, 0, 0, 0, 0, 0, 0, 0, 0, 0, 0, 0, 0, 0, 0, 0, 0, 0, 0, 0, 0, 0, 0, 0, 0, 0, 0, 0, 0, 0, 0, 0, 0, 0, 0, 0, 0] := by kernel_rfl
@[go_sem] theorem lay113 : lay Tryd.prog 113 = some (4, true) := by kernel_rfl
@[go_sem] theorem zro113 : zro Tryd.prog 113 = some [V.nilptr, V.nilptr, V.nilptr, V.str []] := by kernel_rfl
@[go_sem] theorem fld113_0 : fld Tryd.prog 113 0 = some (0, 1, false) := by kernel_rfl
@[go_sem] theorem fld113_1 : fld Tryd.prog 113 1 = some (1, 1, false) := by kernel_rfl
@[go_sem] theorem fld113_2 : fld Tryd.prog 113 2 = some (2, 1, false) := by kernel_rfl
@[go_sem] theorem fld113_3 : fld Tryd.prog 113 3 = some (3, 1, false) := by kernel_rfl
@[go_sem] theorem plc113 : plc Tryd.prog 113 = some (fun k => ([(0, 1), (1, 1), (2, 1), (3, 1)] : List (Nat × Nat))[k]?) := by kernel_rfl
@[go_sem] theorem lay114 : lay Tryd.prog 114 = some (4, true) := by kernel_rfl
@[go_sem] theorem zro114 : zro Tryd.prog 114 = some [V.nilptr, V.nilptr, V.nilptr, V.str []] := by kernel_rfl
@[go_sem] theorem fld114_0 : fld Tryd.prog 114 0 = some (0, 1, false) := by kernel_rfl
@[go_sem] theorem fld114_1 : fld Tryd.prog 114 1 = some (1, 1, false) := by kernel_rfl
@[go_sem] theorem fld114_2 : fld Tryd.prog 114 2 = some (2, 1, false) := by kernel_rfl
@[go_sem] theorem fld114_3 : fld Tryd.prog 114 3 = some (3, 1, false) := by kernel_rfl
@[go_sem] theorem plc114 : plc Tryd.prog 114 = some (fun k => ([(0, 1), (1, 1), (2, 1), (3, 1)] : List (Nat × Nat))[k]?) := by kernel_rfl
@[go_sem] theorem lay115 : lay Tryd.prog 115 = some (0, true) := by kernel_rfl
@[go_sem] theorem elt115 : elt Tryd.prog 115 = none := by kernel_rfl
@[go_sem] theorem arr115 : arr Tryd.prog 115 = some (0, 1, false) := by kernel_rfl
@[go_sem] theorem zro115 : zro Tryd.prog 115 = some [] := by kernel_rfl
@[go_sem] theorem plc115 : plc Tryd.prog 115 = some (fun k => some (k * 1, 1)) := by kernel_rfl
@[go_sem] theorem lay116 : lay Tryd.prog 116 = some (0, true) := by kernel_rfl
@[go_sem] theorem zro116 : zro Tryd.prog 116 = some [] := by kernel_rfl
@[go_sem] theorem fld116_0 : fld Tryd.prog 116 0 = some (0, 0, true) := by kernel_rfl
@[go_sem] theorem plc116 : plc Tryd.prog 116 = some (fun k => ([(0, 0)] : List (Nat × Nat))[k]?) := by kernel_rfl
@[go_sem] theorem lay117 : lay Tryd.prog 117 = some (0, true) := by kernel_rfl
@[go_sem] theorem zro117 : zro Tryd.prog 117 = some [] := by kernel_rfl
@[go_sem] theorem fld117_0 : fld Tryd.prog 117 0 = some (0, 0, true) := by kernel_rfl
@[go_sem] theorem plc117 : plc Tryd.prog 117 = some (fun k => ([(0, 0)] : List (Nat × Nat))[k]?) := by kernel_rfl
@[go_sem] theorem lay118 : lay Tryd.prog 118 = some (1, false) := by kernel_rfl
@[go_sem] theorem zro118 : zro Tryd.prog 118 = some [V.nilfunc] := by kernel_rfl
@[go_sem] theorem lay119 : lay Tryd.prog 119 = some (1, false) := by kernel_rfl
@[go_sem] theorem zro119 : zro Tryd.prog 119 = some [V.int IntKind.u8 0] := by kernel_rfl
@[go_sem] theorem u119 : Tryd.prog.underlying 119 = some (.int .u8) := by kernel_rfl
@[go_sem] theorem lay120 : lay Tryd.prog 120 = some (1, false) := by kernel_rfl
@[go_sem] theorem zro120 : zro Tryd.prog 120 = some [V.int IntKind.u8 0] := by kernel_rfl
@[go_sem] theorem u120 : Tryd.prog.underlying 120 = some (.int .u8) := by kernel_rfl
@[go_sem] theorem lay121 : lay Tryd.prog 121 = some (1, false) := by kernel_rfl
@[go_sem] theorem zro121 : zro Tryd.prog 121 = some [V.nilfunc] := by kernel_rfl
@[go_sem] theorem lay122 : lay Tryd.prog 122 = some (1, false) := by kernel_rfl
@[go_sem] theorem zro122 : zro Tryd.prog 122 = some [V.int IntKind.i32 0] := by kernel_rfl
@[go_sem] theorem u122 : Tryd.prog.underlying 122 = some (.int .i32) := by kernel_rfl
@[go_sem] theorem lay123 : lay Tryd.prog 123 = some (1, false) := by kernel_rfl
@[go_sem] theorem zro123 : zro Tryd.prog 123 = some [V.int IntKind.i32 0] := by kernel_rfl
@[go_sem] theorem u123 : Tryd.prog.underlying 123 = some (.int .i32) := by kernel_rfl
@[go_sem] theorem lay124 : lay Tryd.prog 124 = some (11, true) := by kernel_rfl
@[go_sem] theorem zro124 : zro Tryd.prog 124 = some [V.int IntKind.u64 0, V.int IntKind.u64 0, V.int IntKind.u32 0, V.int IntKind.u8 0, V.int IntKind.u8 0, V.int IntKind.u8 0, V.int IntKind.u8 0, V.nilfunc, V.nilptr, V.int IntKind.i32 0, V.int IntKind.i32 0] := by kernel_rfl
@[go_sem] theorem fld124_0 : fld Tryd.prog 124 0 = some (0, 1, false) := by kernel_rfl
@[go_sem] theorem fld124_1 : fld Tryd.prog 124 1 = some (1, 1, false) := by kernel_rfl
@[go_sem] theorem fld124_2 : fld Tryd.prog 124 2 = some (2, 1, false) := by kernel_rfl
@[go_sem] theorem fld124_3 : fld Tryd.prog 124 3 = some (3, 1, false) := by kernel_rfl
@[go_sem] theorem fld124_4 : fld Tryd.prog 124 4 = some (4, 1, false) := by kernel_rfl
@[go_sem] theorem fld124_5 : fld Tryd.prog 124 5 = some (5, 1, false) := by kernel_rfl
@[go_sem] theorem fld124_6 : fld Tryd.prog 124 6 = some (6, 1, false) := by kernel_rfl
@[go_sem] theorem fld124_7 : fld Tryd.prog 124 7 = some (7, 1, false) := by kernel_rfl
@[go_sem] theorem fld124_8 : fld Tryd.prog 124 8 = some (8, 1, false) := by kernel_rfl
@[go_sem] theorem fld124_9 : fld Tryd.prog 124 9 = some (9, 1, false) := by kernel_rfl
@[go_sem] theorem fld124_10 : fld Tryd.prog 124 10 = some (10, 1, false) := by kernel_rfl
@[go_sem] theorem plc124 : plc Tryd.prog 124 = some (fun k => ([(0, 1), (1, 1), (2, 1), (3, 1), (4, 1), (5, 1), (6, 1), (7, 1), (8, 1), (9, 1), (10, 1)] : List (Nat × Nat))[k]?) := by kernel_rfl
@[go_sem] theorem lay125 : lay Tryd.prog 125 = some (11, true) := by kernel_rfl
@[go_sem] theorem zro125 : zro Tryd.prog 125 = some [V.int IntKind.u64 0, V.int IntKind.u64 0, V.int IntKind.u32 0, V.int IntKind.u8 0, V.int IntKind.u8 0, V.int IntKind.u8 0, V.int IntKind.u8 0, V.nilfunc, V.nilptr, V.int IntKind.i32 0, V.int IntKind.i32 0] := by kernel_rfl
@[go_sem] theorem fld125_0 : fld Tryd.prog 125 0 = some (0, 1, false) := by kernel_rfl
@[go_sem] theorem fld125_1 : fld Tryd.prog 125 1 = some (1, 1, false) := by kernel_rfl
@[go_sem] theorem fld125_2 : fld Tryd.prog 125 2 = some (2, 1, false) := by kernel_rfl
@[go_sem] theorem fld125_3 : fld Tryd.prog 125 3 = some (3, 1, false) := by kernel_rfl
@[go_sem] theorem fld125_4 : fld Tryd.prog 125 4 = some (4, 1, false) := by kernel_rfl
@[go_sem] theorem fld125_5 : fld Tryd.prog 125 5 = some (5, 1, false) := by kernel_rfl
@[go_sem] theorem fld125_6 : fld Tryd.prog 125 6 = some (6, 1, false) := by kernel_rfl
@[go_sem] theorem fld125_7 : fld Tryd.prog 125 7 = some (7, 1, false) := by kernel_rfl
@[go_sem] theorem fld125_8 : fld Tryd.prog 125 8 = some (8, 1, false) := by kernel_rfl
@[go_sem] theorem fld125_9 : fld Tryd.prog 125 9 = some (9, 1, false) := by kernel_rfl
@[go_sem] theorem fld125_10 : fld Tryd.prog 125 10 = some (10, 1, false) := by kernel_rfl
@[go_sem] theorem plc125 : plc Tryd.prog 125 = some (fun k => ([(0, 1), (1, 1), (2, 1), (3, 1), (4, 1), (5, 1), (6, 1), (7, 1), (8, 1), (9, 1), (10, 1)] : List (Nat × Nat))[k]?) := by kernel_rfl
@[go_sem] theorem ent2 : ent Tryd.prog 2 = true := by kernel_rfl
@[go_sem] theorem ent3 : ent Tryd.prog 3 = true := by kernel_rfl
@[go_sem] theorem ent4 : ent Tryd.prog 4 = true := by kernel_rfl
@[go_sem] theorem ent5 : ent Tryd.prog 5 = true := by kernel_rfl
@[go_sem] theorem ent6 : ent Tryd.prog 6 = true := by kernel_rfl
@[go_sem] theorem ent7 : ent Tryd.prog 7 = true := by kernel_rfl
@[go_sem] theorem ent8 : ent Tryd.prog 8 = true := by kernel_rfl
@[go_sem] theorem ent9 : ent Tryd.prog 9 = true := by kernel_rfl
@[go_sem] theorem ent10 : ent Tryd.prog 10 = true := by kernel_rfl
@[go_sem] theorem ent11 : ent Tryd.prog 11 = true := by kernel_rfl
@[go_sem] theorem ent12 : ent Tryd.prog 12 = true := by kernel_rfl
@[go_sem] theorem ent13 : ent Tryd.prog 13 = true := by kernel_rfl
@[go_sem] theorem ent14 : ent Tryd.prog 14 = true := by kernel_rfl
@[go_sem] theorem ent15 : ent Tryd.prog 15 = true := by kernel_rfl
@[go_sem] theorem ent16 : ent Tryd.prog 16 = true := by kernel_rfl
@[go_sem] theorem ent17 : ent Tryd.prog 17 = true := by kernel_rfl
@[go_sem] theorem ent18 : ent Tryd.prog 18 = true := by kernel_rfl
@[go_sem] theorem ent19 : ent Tryd.prog 19 = true := by kernel_rfl
@[go_sem] theorem ent20 : ent Tryd.prog 20 = true := by kernel_rfl
@[go_sem] theorem ent21 : ent Tryd.prog 21 = true := by kernel_rfl
@[go_sem] theorem ent22 : ent Tryd.prog 22 = true := by kernel_rfl
@[go_sem] theorem ent23 : ent Tryd.prog 23 = true := by kernel_rfl
@[go_sem] theorem ent24 : ent Tryd.prog 24 = true := by kernel_rfl
@[go_sem] theorem ent25 : ent Tryd.prog 25 = true := by kernel_rfl
@[go_sem] theorem ent26 : ent Tryd.prog 26 = true := by kernel_rfl
@[go_sem] theorem ent27 : ent Tryd.prog 27 = true := by kernel_rfl
@[go_sem] theorem ent28 : ent Tryd.prog 28 = true := by kernel_rfl
@[go_sem] theorem ent29 : ent Tryd.prog 29 = true := by kernel_rfl
@[go_sem] theorem ent30 : ent Tryd.prog 30 = true := by kernel_rfl
@[go_sem] theorem ent31 : ent Tryd.prog 31 = true := by kernel_rfl
@[go_sem] theorem ent32 : ent Tryd.prog 32 = true := by kernel_rfl
@[go_sem] theorem ent33 : ent Tryd.prog 33 = true := by kernel_rfl
@[go_sem] theorem ent34 : ent Tryd.prog 34 = true := by kernel_rfl
@[go_sem] theorem ent35 : ent Tryd.prog 35 = true := by kernel_rfl
@[go_sem] theorem ent36 : ent Tryd.prog 36 = true := by kernel_rfl
@[go_sem] theorem ent37 : ent Tryd.prog 37 = true := by kernel_rfl
@[go_sem] theorem ent38 : ent Tryd.prog 38 = true := by kernel_rfl
@[go_sem] theorem ent39 : ent Tryd.prog 39 = true := by kernel_rfl
@[go_sem] theorem ent40 : ent Tryd.prog 40 = true := by kernel_rfl
@[go_sem] theorem ent41 : ent Tryd.prog 41 = true := by kernel_rfl
@[go_sem] theorem ent42 : ent Tryd.prog 42 = true := by kernel_rfl
@[go_sem] theorem ent43 : ent Tryd.prog 43 = true := by kernel_rfl
@[go_sem] theorem ent44 : ent Tryd.prog 44 = true := by kernel_rfl
@[go_sem] theorem ent45 : ent Tryd.prog 45 = true := by kernel_rfl
@[go_sem] theorem ent46 : ent Tryd.prog 46 = true := by kernel_rfl
@[go_sem] theorem ent47 : ent Tryd.prog 47 = true := by kernel_rfl
@[go_sem] theorem ent48 : ent Tryd.prog 48 = true := by kernel_rfl
@[go_sem] theorem ent49 : ent Tryd.prog 49 = true := by kernel_rfl
@[go_sem] theorem ent50 : ent Tryd.prog 50 = true := by kernel_rfl
@[go_sem] theorem ent51 : ent Tryd.prog 51 = true := by kernel_rfl
@[go_sem] theorem ent52 : ent Tryd.prog 52 = true := by kernel_rfl
@[go_sem] theorem ent55 : ent Tryd.prog 55 = true := by kernel_rfl
@[go_sem] theorem ent56 : ent Tryd.prog 56 = true := by kernel_rfl
@[go_sem] theorem ent57 : ent Tryd.prog 57 = true := by kernel_rfl
@[go_sem] theorem ent58 : ent Tryd.prog 58 = true := by kernel_rfl
@[go_sem] theorem ent59 : ent Tryd.prog 59 = true := by kernel_rfl
@[go_sem] theorem ent61 : ent Tryd.prog 61 = true := by kernel_rfl
@[go_sem] theorem ent62 : ent Tryd.prog 62 = true := by kernel_rfl
@[go_sem] theorem ent63 : ent Tryd.prog 63 = true := by kernel_rfl
@[go_sem] theorem ent64 : ent Tryd.prog 64 = true := by kernel_rfl
@[go_sem] theorem ent65 : ent Tryd.prog 65 = true := by kernel_rfl
@[go_sem] theorem ent66 : ent Tryd.prog 66 = true := by kernel_rfl
@[go_sem] theorem ent67 : ent Tryd.prog 67 = true := by kernel_rfl
@[go_sem] theorem ent68 : ent Tryd.prog 68 = true := by kernel_rfl
@[go_sem] theorem ent69 : ent Tryd.prog 69 = true := by kernel_rfl
@[go_sem] theorem ent70 : ent Tryd.prog 70 = true := by kernel_rfl
@[go_sem] theorem ent71 : ent Tryd.prog 71 = true := by kernel_rfl
@[go_sem] theorem ent72 : ent Tryd.prog 72 = true := by kernel_rfl
@[go_sem] theorem ent73 : ent Tryd.prog 73 = true := by kernel_rfl
@[go_sem] theorem ent74 : ent Tryd.prog 74 = true := by kernel_rfl
@[go_sem] theorem ent75 : ent Tryd.prog 75 = true := by kernel_rfl
@[go_sem] theorem ent76 : ent Tryd.prog 76 = true := by kernel_rfl
@[go_sem] theorem ent77 : ent Tryd.prog 77 = true := by kernel_rfl
@[go_sem] theorem ent78 : ent Tryd.prog 78 = true := by kernel_rfl
@[go_sem] theorem ent108 : ent Tryd.prog 108 = true := by kernel_rfl
end Tryd
end Go.Proofs
