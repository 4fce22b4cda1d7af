/-
  A part of the proof.
-/
import Derived.Test.YtdlcnihacaboiaaGreatDoorChecked
import Derived.Test.YtdlcnihacaboiaaGreatDoorGF
import Derived.Attr
set_option linter.all false
namespace Go.Proofs
open Go Go.Duo
namespace Tryz
theorem mix:Tryz.prog.follows .mixedOrders = true:=by kernel_rfl
@[go_sem] theorem lay2:lay Tryz.prog 2 = some (1,false):=by kernel_rfl
@[go_sem] theorem u2:Tryz.prog.underlying 2 = some (.int .i64):=by kernel_rfl
@[go_sem] theorem lay3:lay Tryz.prog 3 = some (1,false):=by kernel_rfl
@[go_sem] theorem u3:Tryz.prog.underlying 3 = some (.int .i64):=by kernel_rfl
@[go_sem] theorem lay4:lay Tryz.prog 4 = some (1,false):=by kernel_rfl
@[go_sem] theorem u4:Tryz.prog.underlying 4 = some .bool:=by kernel_rfl
@[go_sem] theorem u5:Tryz.prog.underlying 5 = some (.int .u8):=by kernel_rfl
@[go_sem] theorem lay9:lay Tryz.prog 9 = some (1,false):=by kernel_rfl
@[go_sem] theorem u9:Tryz.prog.underlying 9 = some .string:=by kernel_rfl
@[go_sem] theorem lay22:lay Tryz.prog 22 = some (1,false):=by kernel_rfl
@[go_sem] theorem elt22:elt Tryz.prog 22 = some (9,1,16):=by kernel_rfl
@[go_sem] theorem zro22:zro Tryz.prog 22 = some [V.nil]:=by kernel_rfl
@[go_sem] theorem lay23:lay Tryz.prog 23 = some (1,false):=by kernel_rfl
@[go_sem] theorem elt23:elt Tryz.prog 23 = some (36,3,32):=by kernel_rfl
@[go_sem] theorem lay24:lay Tryz.prog 24 = some (1,false):=by kernel_rfl
@[go_sem] theorem elt24:elt Tryz.prog 24 = some (26,6,88):=by kernel_rfl
@[go_sem] theorem lay26:lay Tryz.prog 26 = some (6,true):=by kernel_rfl
@[go_sem] theorem zro26:zro Tryz.prog 26 = some [V.int IntKind.i64 0,V.int IntKind.i64 0,V.str [],V.int IntKind.i64 0,V.nil,V.nil]:=by kernel_rfl
@[go_sem] theorem fld26_0:fld Tryz.prog 26 0 = some (0,1,false):=by kernel_rfl
@[go_sem] theorem fld26_1:fld Tryz.prog 26 1 = some (1,1,false):=by kernel_rfl
@[go_sem] theorem fld26_2:fld Tryz.prog 26 2 = some (2,1,false):=by kernel_rfl
@[go_sem] theorem fld26_3:fld Tryz.prog 26 3 = some (3,1,false):=by kernel_rfl
@[go_sem] theorem fld26_4:fld Tryz.prog 26 4 = some (4,1,false):=by kernel_rfl
@[go_sem] theorem fld26_5:fld Tryz.prog 26 5 = some (5,1,false):=by kernel_rfl
@[go_sem] theorem plc26:plc Tryz.prog 26 = some (fun k => ([(0,1),(1,1),(2,1),(3,1),(4,1),(5,1)]:List (Nat × Nat))[k]?):=by kernel_rfl
@[go_sem] theorem lay27:lay Tryz.prog 27 = some (1,false):=by kernel_rfl
@[go_sem] theorem elt27:elt Tryz.prog 27 = some (29,12,200):=by kernel_rfl
@[go_sem] theorem lay29:lay Tryz.prog 29 = some (12,true):=by kernel_rfl
@[go_sem] theorem zro29:zro Tryz.prog 29 = some [V.int IntKind.i64 0,V.str [],V.str [],V.nil,V.nil,V.int IntKind.i64 0,V.int IntKind.i64 0,V.str [],V.int IntKind.i64 0,V.nil,V.nil,V.nil]:=by kernel_rfl
@[go_sem] theorem fld29_0:fld Tryz.prog 29 0 = some (0,1,false):=by kernel_rfl
@[go_sem] theorem fld29_1:fld Tryz.prog 29 1 = some (1,1,false):=by kernel_rfl
@[go_sem] theorem fld29_2:fld Tryz.prog 29 2 = some (2,1,false):=by kernel_rfl
@[go_sem] theorem fld29_3:fld Tryz.prog 29 3 = some (3,1,false):=by kernel_rfl
@[go_sem] theorem fld29_4:fld Tryz.prog 29 4 = some (4,1,false):=by kernel_rfl
@[go_sem] theorem fld29_5:fld Tryz.prog 29 5 = some (5,6,true):=by kernel_rfl
@[go_sem] theorem fld29_6:fld Tryz.prog 29 6 = some (11,1,false):=by kernel_rfl
@[go_sem] theorem lay36:lay Tryz.prog 36 = some (3,true):=by kernel_rfl
@[go_sem] theorem zro36:zro Tryz.prog 36 = some [V.int IntKind.i64 0,V.str [],V.int IntKind.i64 0]:=by kernel_rfl
@[go_sem] theorem fld36_0:fld Tryz.prog 36 0 = some (0,1,false):=by kernel_rfl
@[go_sem] theorem fld36_1:fld Tryz.prog 36 1 = some (1,1,false):=by kernel_rfl
@[go_sem] theorem fld36_2:fld Tryz.prog 36 2 = some (2,1,false):=by kernel_rfl
@[go_sem] theorem plc36:plc Tryz.prog 36 = some (fun k => ([(0,1),(1,1),(2,1)]:List (Nat × Nat))[k]?):=by kernel_rfl
@[go_sem] theorem lay46:lay Tryz.prog 46 = some (1,false):=by kernel_rfl
@[go_sem] theorem elt46:elt Tryz.prog 46 = some (134,14,240):=by kernel_rfl
@[go_sem] theorem lay48:lay Tryz.prog 48 = some (13,true):=by kernel_rfl
@[go_sem] theorem fld48_0:fld Tryz.prog 48 0 = some (0,1,false):=by kernel_rfl
@[go_sem] theorem fld48_1:fld Tryz.prog 48 1 = some (1,12,true):=by kernel_rfl
@[go_sem] theorem elt49:elt Tryz.prog 49 = some (3,1,8):=by kernel_rfl
@[go_sem] theorem lay52:lay Tryz.prog 52 = some (2,true):=by kernel_rfl
@[go_sem] theorem zro52:zro Tryz.prog 52 = some [V.nil,V.nil]:=by kernel_rfl
@[go_sem] theorem fld52_0:fld Tryz.prog 52 0 = some (0,1,false):=by kernel_rfl
@[go_sem] theorem fld52_1:fld Tryz.prog 52 1 = some (1,1,false):=by kernel_rfl
@[go_sem] theorem plc52:plc Tryz.prog 52 = some (fun k => ([(0,1),(1,1)]:List (Nat × Nat))[k]?):=by kernel_rfl
@[go_sem] theorem elt53:elt Tryz.prog 53 = some (105,6,64):=by kernel_rfl
@[go_sem] theorem lay59:lay Tryz.prog 59 = some (2,true):=by kernel_rfl
@[go_sem] theorem zro59:zro Tryz.prog 59 = some [V.nil,V.nil]:=by kernel_rfl
@[go_sem] theorem fld59_0:fld Tryz.prog 59 0 = some (0,1,false):=by kernel_rfl
@[go_sem] theorem plc59:plc Tryz.prog 59 = some (fun k => ([(0,1),(1,1)]:List (Nat × Nat))[k]?):=by kernel_rfl
@[go_sem] theorem elt72:elt Tryz.prog 72 = some (77,4,32):=by kernel_rfl
@[go_sem] theorem lay77:lay Tryz.prog 77 = some (4,true):=by kernel_rfl
@[go_sem] theorem zro77:zro Tryz.prog 77 = some [V.int IntKind.i64 0,V.int IntKind.i64 0,V.int IntKind.i64 0,V.bool false]:=by kernel_rfl
@[go_sem] theorem fld77_0:fld Tryz.prog 77 0 = some (0,1,false):=by kernel_rfl
@[go_sem] theorem fld77_1:fld Tryz.prog 77 1 = some (1,1,false):=by kernel_rfl
@[go_sem] theorem fld77_2:fld Tryz.prog 77 2 = some (2,1,false):=by kernel_rfl
@[go_sem] theorem fld77_3:fld Tryz.prog 77 3 = some (3,1,false):=by kernel_rfl
@[go_sem] theorem plc77:plc Tryz.prog 77 = some (fun k => ([(0,1),(1,1),(2,1),(3,1)]:List (Nat × Nat))[k]?):=by kernel_rfl
@[go_sem] theorem lay105:lay Tryz.prog 105 = some (6,true):=by kernel_rfl
@[go_sem] theorem zro105:zro Tryz.prog 105 = some [V.int IntKind.i64 0,V.bool false,V.str [],V.int IntKind.i64 0,V.str [],V.int IntKind.i64 0]:=by kernel_rfl
@[go_sem] theorem fld105_2:fld Tryz.prog 105 2 = some (2,1,false):=by kernel_rfl
@[go_sem] theorem fld105_3:fld Tryz.prog 105 3 = some (3,3,true):=by kernel_rfl
@[go_sem] theorem plc105:plc Tryz.prog 105 = some (fun k => ([(0,1),(1,1),(2,1),(3,3)]:List (Nat × Nat))[k]?):=by kernel_rfl
@[go_sem] theorem elt127:elt Tryz.prog 127 = some (221,4,40):=by kernel_rfl
@[go_sem] theorem lay132:lay Tryz.prog 132 = some (1,false):=by kernel_rfl
@[go_sem] theorem elt132:elt Tryz.prog 132 = some (137,7,104):=by kernel_rfl
@[go_sem] theorem lay134:lay Tryz.prog 134 = some (14,true):=by kernel_rfl
@[go_sem] theorem zro134:zro Tryz.prog 134 = some [V.str [],V.nil,V.int IntKind.i64 0,V.str [],V.str [],V.nil,V.nil,V.int IntKind.i64 0,V.int IntKind.i64 0,V.str [],V.int IntKind.i64 0,V.nil,V.nil,V.nil]:=by kernel_rfl
@[go_sem] theorem fld134_0:fld Tryz.prog 134 0 = some (0,1,false):=by kernel_rfl
@[go_sem] theorem fld134_1:fld Tryz.prog 134 1 = some (1,1,false):=by kernel_rfl
@[go_sem] theorem fld134_2:fld Tryz.prog 134 2 = some (2,12,true):=by kernel_rfl
@[go_sem] theorem fld137_0:fld Tryz.prog 137 0 = some (0,1,false):=by kernel_rfl
@[go_sem] theorem fld137_1:fld Tryz.prog 137 1 = some (1,6,true):=by kernel_rfl
@[go_sem] theorem lay197:lay Tryz.prog 197 = some (1,false):=by kernel_rfl
@[go_sem] theorem zro197:zro Tryz.prog 197 = some [V.nilfunc]:=by kernel_rfl
@[go_sem] theorem lay198:lay Tryz.prog 198 = some (1,false):=by kernel_rfl
@[go_sem] theorem zro198:zro Tryz.prog 198 = some [V.nilfunc]:=by kernel_rfl
@[go_sem] theorem lay221:lay Tryz.prog 221 = some (4,true):=by kernel_rfl
@[go_sem] theorem zro221:zro Tryz.prog 221 = some [V.int IntKind.i64 0,V.str [],V.int IntKind.i64 0,V.int IntKind.i64 0]:=by kernel_rfl
@[go_sem] theorem fld221_0:fld Tryz.prog 221 0 = some (0,1,false):=by kernel_rfl
@[go_sem] theorem fld221_1:fld Tryz.prog 221 1 = some (1,1,false):=by kernel_rfl
@[go_sem] theorem fld221_2:fld Tryz.prog 221 2 = some (2,1,false):=by kernel_rfl
@[go_sem] theorem plc221:plc Tryz.prog 221 = some (fun k => ([(0,1),(1,1),(2,1),(3,1)]:List (Nat × Nat))[k]?):=by kernel_rfl
theorem ent14:ent Tryz.prog 14 = true:=by kernel_rfl
theorem ent17:ent Tryz.prog 17 = true:=by kernel_rfl
theorem ent22:ent Tryz.prog 22 = true:=by kernel_rfl
theorem ent23:ent Tryz.prog 23 = true:=by kernel_rfl
theorem ent28:ent Tryz.prog 28 = true:=by kernel_rfl
theorem ent31:ent Tryz.prog 31 = true:=by kernel_rfl
theorem ent36:ent Tryz.prog 36 = true:=by kernel_rfl
theorem ent37:ent Tryz.prog 37 = true:=by kernel_rfl
theorem ent42:ent Tryz.prog 42 = true:=by kernel_rfl
theorem ent44:ent Tryz.prog 44 = true:=by kernel_rfl
theorem ent53:ent Tryz.prog 53 = true:=by kernel_rfl
theorem ent54:ent Tryz.prog 54 = true:=by kernel_rfl
theorem ent55:ent Tryz.prog 55 = true:=by kernel_rfl
theorem ent57:ent Tryz.prog 57 = true:=by kernel_rfl
theorem ent58:ent Tryz.prog 58 = true:=by kernel_rfl
theorem ent60:ent Tryz.prog 60 = true:=by kernel_rfl
theorem ent63:ent Tryz.prog 63 = true:=by kernel_rfl
theorem ent65:ent Tryz.prog 65 = true:=by kernel_rfl
theorem ent67:ent Tryz.prog 67 = true:=by kernel_rfl
theorem ent68:ent Tryz.prog 68 = true:=by kernel_rfl
theorem ent72:ent Tryz.prog 72 = true:=by kernel_rfl
theorem ent74:ent Tryz.prog 74 = true:=by kernel_rfl
theorem ent75:ent Tryz.prog 75 = true:=by kernel_rfl
theorem ent77:ent Tryz.prog 77 = true:=by kernel_rfl
theorem ent80:ent Tryz.prog 80 = true:=by kernel_rfl
theorem ent91:ent Tryz.prog 91 = true:=by kernel_rfl
theorem ent92:ent Tryz.prog 92 = true:=by kernel_rfl
theorem ent93:ent Tryz.prog 93 = true:=by kernel_rfl
theorem ent94:ent Tryz.prog 94 = true:=by kernel_rfl
theorem ent101:ent Tryz.prog 101 = true:=by kernel_rfl
theorem ent102:ent Tryz.prog 102 = true:=by kernel_rfl
theorem ent103:ent Tryz.prog 103 = true:=by kernel_rfl
theorem ent104:ent Tryz.prog 104 = true:=by kernel_rfl
theorem ent107:ent Tryz.prog 107 = true:=by kernel_rfl
theorem ent108:ent Tryz.prog 108 = true:=by kernel_rfl
theorem ent109:ent Tryz.prog 109 = true:=by kernel_rfl
theorem ent110:ent Tryz.prog 110 = true:=by kernel_rfl
theorem ent115:ent Tryz.prog 115 = true:=by kernel_rfl
theorem ent131:ent Tryz.prog 131 = true:=by kernel_rfl
theorem ent132:ent Tryz.prog 132 = true:=by kernel_rfl
theorem ent135:ent Tryz.prog 135 = true:=by kernel_rfl
theorem ent136:ent Tryz.prog 136 = true:=by kernel_rfl
theorem ent138:ent Tryz.prog 138 = true:=by kernel_rfl
theorem ent144:ent Tryz.prog 144 = true:=by kernel_rfl
theorem ent147:ent Tryz.prog 147 = true:=by kernel_rfl
theorem ent148:ent Tryz.prog 148 = true:=by kernel_rfl
theorem ent150:ent Tryz.prog 150 = true:=by kernel_rfl
theorem ent176:ent Tryz.prog 176 = true:=by kernel_rfl
theorem ent177:ent Tryz.prog 177 = true:=by kernel_rfl
theorem ent179:ent Tryz.prog 179 = true:=by kernel_rfl
theorem ent184:ent Tryz.prog 184 = true:=by kernel_rfl
theorem ent185:ent Tryz.prog 185 = true:=by kernel_rfl
theorem ent213:ent Tryz.prog 213 = true:=by kernel_rfl
theorem ent220:ent Tryz.prog 220 = true:=by kernel_rfl
theorem ent247:ent Tryz.prog 247 = true:=by kernel_rfl
theorem ent248:ent Tryz.prog 248 = true:=by kernel_rfl
theorem ent252:ent Tryz.prog 252 = true:=by kernel_rfl
end Tryz
end Go.Proofs
