/-
  A part of the proof.
-/
import Derived.Test.YtmjngcfigfkafaaDoorChecked
import Derived.Test.YtmjngcfigfkafaaDoorDReal
import Derived.Attr
set_option linter.all false
namespace Go.Proofs
open Go Go.Duo
namespace Tryd
theorem mix : Tryd.prog.follows .mixedOrders = true := by kernel_rfl
@[go_sem] theorem lay2 : lay Tryd.prog 2 = some (1, false) := by kernel_rfl
@[go_sem] theorem lay3 : lay Tryd.prog 3 = some (1, false) := by kernel_rfl
@[go_sem] theorem u3 : Tryd.prog.underlying 3 = some (.int .i64) := by kernel_rfl
@[go_sem] theorem lay4 : lay Tryd.prog 4 = some (1, false) := by kernel_rfl
@[go_sem] theorem zro4 : zro Tryd.prog 4 = some [V.bool false] := by kernel_rfl
@[go_sem] theorem lay5 : lay Tryd.prog 5 = some (1, false) := by kernel_rfl
@[go_sem] theorem u5 : Tryd.prog.underlying 5 = some (.int .u8) := by kernel_rfl
@[go_sem] theorem lay9 : lay Tryd.prog 9 = some (1, false) := by kernel_rfl
@[go_sem] theorem u9 : Tryd.prog.underlying 9 = some .string := by kernel_rfl
@[go_sem] theorem lay22 : lay Tryd.prog 22 = some (1, false) := by kernel_rfl
@[go_sem] theorem elt22 : elt Tryd.prog 22 = some (9, 1, 16) := by kernel_rfl
@[go_sem] theorem lay23 : lay Tryd.prog 23 = some (1, false) := by kernel_rfl
@[go_sem] theorem elt23 : elt Tryd.prog 23 = some (31, 3, 32) := by kernel_rfl
@[go_sem] theorem lay24 : lay Tryd.prog 24 = some (1, false) := by kernel_rfl
@[go_sem] theorem elt24 : elt Tryd.prog 24 = some (26, 6, 88) := by kernel_rfl
@[go_sem] theorem lay26 : lay Tryd.prog 26 = some (6, true) := by kernel_rfl
@[go_sem] theorem zro26 : zro Tryd.prog 26 = some [V.int IntKind.i64 0, V.int IntKind.i64 0, V.str [], V.int IntKind.i64 0, V.nil, V.nil] := by kernel_rfl
@[go_sem] theorem fld26_0 : fld Tryd.prog 26 0 = some (0, 1, false) := by kernel_rfl
@[go_sem] theorem fld26_1 : fld Tryd.prog 26 1 = some (1, 1, false) := by kernel_rfl
@[go_sem] theorem fld26_2 : fld Tryd.prog 26 2 = some (2, 1, false) := by kernel_rfl
@[go_sem] theorem fld26_3 : fld Tryd.prog 26 3 = some (3, 1, false) := by kernel_rfl
@[go_sem] theorem fld26_4 : fld Tryd.prog 26 4 = some (4, 1, false) := by kernel_rfl
@[go_sem] theorem fld26_5 : fld Tryd.prog 26 5 = some (5, 1, false) := by kernel_rfl
@[go_sem] theorem plc26 : plc Tryd.prog 26 = some (fun k => ([(0, 1), (1, 1), (2, 1), (3, 1), (4, 1), (5, 1)] : List (Nat × Nat))[k]?) := by kernel_rfl
@[go_sem] theorem lay27 : lay Tryd.prog 27 = some (1, false) := by kernel_rfl
@[go_sem] theorem elt27 : elt Tryd.prog 27 = some (29, 12, 200) := by kernel_rfl
@[go_sem] theorem lay29 : lay Tryd.prog 29 = some (12, true) := by kernel_rfl
@[go_sem] theorem zro29 : zro Tryd.prog 29 = some [V.int IntKind.i64 0, V.str [], V.str [], V.nil, V.nil, V.int IntKind.i64 0, V.int IntKind.i64 0, V.str [], V.int IntKind.i64 0, V.nil, V.nil, V.nil] := by kernel_rfl
@[go_sem] theorem fld29_0 : fld Tryd.prog 29 0 = some (0, 1, false) := by kernel_rfl
@[go_sem] theorem fld29_1 : fld Tryd.prog 29 1 = some (1, 1, false) := by kernel_rfl
@[go_sem] theorem fld29_2 : fld Tryd.prog 29 2 = some (2, 1, false) := by kernel_rfl
@[go_sem] theorem fld29_3 : fld Tryd.prog 29 3 = some (3, 1, false) := by kernel_rfl
@[go_sem] theorem fld29_4 : fld Tryd.prog 29 4 = some (4, 1, false) := by kernel_rfl
@[go_sem] theorem fld29_5 : fld Tryd.prog 29 5 = some (5, 6, true) := by kernel_rfl
@[go_sem] theorem fld29_6 : fld Tryd.prog 29 6 = some (11, 1, false) := by kernel_rfl
@[go_sem] theorem plc29 : plc Tryd.prog 29 = some (fun k => ([(0, 1), (1, 1), (2, 1), (3, 1), (4, 1), (5, 6), (11, 1)] : List (Nat × Nat))[k]?) := by kernel_rfl
@[go_sem] theorem lay31 : lay Tryd.prog 31 = some (3, true) := by kernel_rfl
@[go_sem] theorem zro31 : zro Tryd.prog 31 = some [V.int IntKind.i64 0, V.str [], V.int IntKind.i64 0] := by kernel_rfl
@[go_sem] theorem plc31 : plc Tryd.prog 31 = some (fun k => ([(0, 1), (1, 1), (2, 1)] : List (Nat × Nat))[k]?) := by kernel_rfl
@[go_sem] theorem elt42 : elt Tryd.prog 42 = some (89, 4, 4) := by kernel_rfl
@[go_sem] theorem lay45 : lay Tryd.prog 45 = some (2, true) := by kernel_rfl
@[go_sem] theorem zro45 : zro Tryd.prog 45 = some [V.nil, V.nil] := by kernel_rfl
@[go_sem] theorem fld45_0 : fld Tryd.prog 45 0 = some (0, 1, false) := by kernel_rfl
@[go_sem] theorem plc45 : plc Tryd.prog 45 = some (fun k => ([(0, 1), (1, 1)] : List (Nat × Nat))[k]?) := by kernel_rfl
@[go_sem] theorem lay47 : lay Tryd.prog 47 = some (1, false) := by kernel_rfl
@[go_sem] theorem elt47 : elt Tryd.prog 47 = some (68, 4, 32) := by kernel_rfl
@[go_sem] theorem zro47 : zro Tryd.prog 47 = some [V.nil] := by kernel_rfl
@[go_sem] theorem elt49 : elt Tryd.prog 49 = some (91, 4, 32) := by kernel_rfl
@[go_sem] theorem lay52 : lay Tryd.prog 52 = some (1, false) := by kernel_rfl
@[go_sem] theorem elt52 : elt Tryd.prog 52 = some (73, 2, 16) := by kernel_rfl
@[go_sem] theorem zro52 : zro Tryd.prog 52 = some [V.nil] := by kernel_rfl
@[go_sem] theorem elt56 : elt Tryd.prog 56 = some (3, 1, 8) := by kernel_rfl
@[go_sem] theorem lay68 : lay Tryd.prog 68 = some (4, true) := by kernel_rfl
@[go_sem] theorem zro68 : zro Tryd.prog 68 = some [V.int IntKind.i64 0, V.int IntKind.i64 0, V.int IntKind.i64 0, V.bool false] := by kernel_rfl
@[go_sem] theorem fld68_0 : fld Tryd.prog 68 0 = some (0, 1, false) := by kernel_rfl
@[go_sem] theorem fld68_1 : fld Tryd.prog 68 1 = some (1, 1, false) := by kernel_rfl
@[go_sem] theorem plc68 : plc Tryd.prog 68 = some (fun k => ([(0, 1), (1, 1), (2, 1), (3, 1)] : List (Nat × Nat))[k]?) := by kernel_rfl
@[go_sem] theorem seq68 : sEq Tryd.prog 68 = some [0, 0, 0, 2] := by kernel_rfl
@[go_sem] theorem lay73 : lay Tryd.prog 73 = some (2, true) := by kernel_rfl
@[go_sem] theorem zro73 : zro Tryd.prog 73 = some [V.int IntKind.i64 0, V.int IntKind.i64 0] := by kernel_rfl
@[go_sem] theorem plc73 : plc Tryd.prog 73 = some (fun k => some (k * 1, 1)) := by kernel_rfl
@[go_sem] theorem seq73 : sEq Tryd.prog 73 = some [0, 0] := by kernel_rfl
@[go_sem] theorem zro89 : zro Tryd.prog 89 = some [V.int IntKind.u8 0, V.bool false, V.int IntKind.u8 0, V.int IntKind.u8 0] := by kernel_rfl
@[go_sem] theorem fld89_0 : fld Tryd.prog 89 0 = some (0, 1, false) := by kernel_rfl
@[go_sem] theorem fld89_1 : fld Tryd.prog 89 1 = some (1, 1, false) := by kernel_rfl
@[go_sem] theorem fld89_2 : fld Tryd.prog 89 2 = some (2, 1, false) := by kernel_rfl
@[go_sem] theorem fld89_3 : fld Tryd.prog 89 3 = some (3, 1, false) := by kernel_rfl
@[go_sem] theorem plc89 : plc Tryd.prog 89 = some (fun k => ([(0, 1), (1, 1), (2, 1), (3, 1)] : List (Nat × Nat))[k]?) := by kernel_rfl
@[go_sem] theorem zro91 : zro Tryd.prog 91 = some [V.int IntKind.i64 0, V.int IntKind.i64 0, V.int IntKind.i64 0, V.bool false] := by kernel_rfl
@[go_sem] theorem fld91_0 : fld Tryd.prog 91 0 = some (0, 1, false) := by kernel_rfl
@[go_sem] theorem fld91_1 : fld Tryd.prog 91 1 = some (1, 1, false) := by kernel_rfl
@[go_sem] theorem fld91_2 : fld Tryd.prog 91 2 = some (2, 1, false) := by kernel_rfl
@[go_sem] theorem fld91_3 : fld Tryd.prog 91 3 = some (3, 1, false) := by kernel_rfl
@[go_sem] theorem plc91 : plc Tryd.prog 91 = some (fun k => ([(0, 1), (1, 1), (2, 1), (3, 1)] : List (Nat × Nat))[k]?) := by kernel_rfl
@[go_sem] theorem lay96 : lay Tryd.prog 96 = some (28, true) := by kernel_rfl
@[go_sem] theorem zro96 : zro Tryd.prog 96 = some [V.int IntKind.i64 0, V.int IntKind.i64 0, V.int IntKind.i64 0, V.bool false, V.int IntKind.i64 0, V.str [], V.str [], V.nil, V.nil, V.int IntKind.i64 0, V.int IntKind.i64 0, V.str [], V.int IntKind.i64 0, V.nil, V.nil, V.nil, V.int IntKind.i64 0, V.str [], V.str [], V.nil, V.nil, V.int IntKind.i64 0, V.int IntKind.i64 0, V.str [], V.int IntKind.i64 0, V.nil, V.nil, V.nil] := by kernel_rfl
@[go_sem] theorem fld96_0 : fld Tryd.prog 96 0 = some (0, 4, true) := by kernel_rfl
@[go_sem] theorem fld96_1 : fld Tryd.prog 96 1 = some (4, 12, true) := by kernel_rfl
@[go_sem] theorem fld96_2 : fld Tryd.prog 96 2 = some (16, 12, true) := by kernel_rfl
@[go_sem] theorem plc96 : plc Tryd.prog 96 = some (fun k => ([(0, 4), (4, 12), (16, 12)] : List (Nat × Nat))[k]?) := by kernel_rfl
@[go_sem] theorem elt99 : elt Tryd.prog 99 = some (4, 1, 1) := by kernel_rfl
@[go_sem] theorem ent16 : ent Tryd.prog 16 = true := by kernel_rfl
@[go_sem] theorem ent17 : ent Tryd.prog 17 = true := by kernel_rfl
@[go_sem] theorem ent18 : ent Tryd.prog 18 = true := by kernel_rfl
@[go_sem] theorem ent19 : ent Tryd.prog 19 = true := by kernel_rfl
@[go_sem] theorem ent20 : ent Tryd.prog 20 = true := by kernel_rfl
@[go_sem] theorem ent22 : ent Tryd.prog 22 = true := by kernel_rfl
@[go_sem] theorem ent25 : ent Tryd.prog 25 = true := by kernel_rfl
@[go_sem] theorem ent29 : ent Tryd.prog 29 = true := by kernel_rfl
@[go_sem] theorem ent36 : ent Tryd.prog 36 = true := by kernel_rfl
@[go_sem] theorem ent37 : ent Tryd.prog 37 = true := by kernel_rfl
@[go_sem] theorem ent38 : ent Tryd.prog 38 = true := by kernel_rfl
@[go_sem] theorem ent39 : ent Tryd.prog 39 = true := by kernel_rfl
@[go_sem] theorem ent42 : ent Tryd.prog 42 = true := by kernel_rfl
@[go_sem] theorem ent43 : ent Tryd.prog 43 = true := by kernel_rfl
@[go_sem] theorem ent44 : ent Tryd.prog 44 = true := by kernel_rfl
@[go_sem] theorem ent45 : ent Tryd.prog 45 = true := by kernel_rfl
@[go_sem] theorem ent46 : ent Tryd.prog 46 = true := by kernel_rfl
@[go_sem] theorem ent47 : ent Tryd.prog 47 = true := by kernel_rfl
@[go_sem] theorem ent48 : ent Tryd.prog 48 = true := by kernel_rfl
@[go_sem] theorem ent59 : ent Tryd.prog 59 = true := by kernel_rfl
@[go_sem] theorem ent60 : ent Tryd.prog 60 = true := by kernel_rfl
@[go_sem] theorem ent68 : ent Tryd.prog 68 = true := by kernel_rfl
@[go_sem] theorem ent69 : ent Tryd.prog 69 = true := by kernel_rfl
@[go_sem] theorem ent70 : ent Tryd.prog 70 = true := by kernel_rfl
@[go_sem] theorem ent71 : ent Tryd.prog 71 = true := by kernel_rfl
@[go_sem] theorem ent72 : ent Tryd.prog 72 = true := by kernel_rfl
@[go_sem] theorem ent73 : ent Tryd.prog 73 = true := by kernel_rfl
@[go_sem] theorem ent74 : ent Tryd.prog 74 = true := by kernel_rfl
@[go_sem] theorem ent88 : ent Tryd.prog 88 = true := by kernel_rfl
@[go_sem] theorem ent91 : ent Tryd.prog 91 = true := by kernel_rfl
@[go_sem] theorem ent97 : ent Tryd.prog 97 = true := by kernel_rfl
@[go_sem] theorem ent98 : ent Tryd.prog 98 = true := by kernel_rfl
end Tryd
end Go.Proofs
