/-
  A part of the proof.
-/
import Derived.Shelf.Strconv.Itoa4
import Derived.Shelf.SlMaps.Clone
import Derived.Test.YtdlcnihacaboiaaGreatDoorProg
set_option linter.all false
namespace Go.Proofs
open Go.Shelf
def Tryz.laysM173_ren:Go.Shelf.Ren:=⟨fun | 173 => 189 | 246 => 203 | 283 => 238 | 284 => 239 | 285 => 240 | 286 => 241 | 129 => 263 | 317 => 262 | 318 => 264 | 319 => 265 | 320 => 266 | 337 => 277 | 338 => 278 | n => n,fun | 2 => 2 | 3 => 3 | 9 => 9 | 4 => 4 | 171 => 273 | 0 => 0 | 53 => 240 | 37 => 169 | 5 => 5 | 173 => 276 | 212 => 300 | 51 => 301 | 20 => 20 | 213 => 302 | 46 => 243 | 232 => 312 | 233 => 313 | n => n,fun | 17 => 3 | 18 => 4 | 19 => 5 | n => n⟩
theorem Tryz.laysM173:Go.Proofs.LaysM.n173 Tryz.prog Tryz.laysM173_ren:={
  mixed:=by kernel_rfl
  f129:=Tryz.func263.trans (congrArg some (by kernel_rfl))
  f173:=Tryz.func189.trans (congrArg some (by kernel_rfl))
  f246:=Tryz.func203.trans (congrArg some (by kernel_rfl))
  f283:=Tryz.func238.trans (congrArg some (by kernel_rfl))
  f284:=Tryz.func239.trans (congrArg some (by kernel_rfl))
  f285:=Tryz.func240.trans (congrArg some (by kernel_rfl))
  f286:=Tryz.func241.trans (congrArg some (by kernel_rfl))
  f317:=Tryz.func262.trans (congrArg some (by kernel_rfl))
  f318:=Tryz.func264.trans (congrArg some (by kernel_rfl))
  f319:=Tryz.func265.trans (congrArg some (by kernel_rfl))
  f320:=Tryz.func266.trans (congrArg some (by kernel_rfl))
  f337:=Tryz.func277.trans (congrArg some (by kernel_rfl))
  f338:=Tryz.func278.trans (congrArg some (by kernel_rfl))
  t0:=Tryz.underlying0
  a0:=Tryz.isAgg0
  z0:=Tryz.sizeOf0
  v0:=Tryz.zeroValue0
  t2:=Tryz.underlying2
  a2:=Tryz.isAgg2
  z2:=Tryz.sizeOf2
  v2:=Tryz.zeroValue2
  t3:=Tryz.underlying3
  a3:=Tryz.isAgg3
  z3:=Tryz.sizeOf3
  v3:=Tryz.zeroValue3
  t4:=Tryz.underlying4
  a4:=Tryz.isAgg4
  z4:=Tryz.sizeOf4
  v4:=Tryz.zeroValue4
  t5:=Tryz.underlying5
  a5:=Tryz.isAgg5
  z5:=Tryz.sizeOf5
  v5:=Tryz.zeroValue5
  t9:=Tryz.underlying9
  a9:=Tryz.isAgg9
  z9:=Tryz.sizeOf9
  v9:=Tryz.zeroValue9
  t20:=Tryz.underlying20
  a20:=Tryz.isAgg20
  z20:=Tryz.sizeOf20
  v20:=Tryz.zeroValue20
  t37:=Tryz.underlying169
  a37:=Tryz.isAgg169
  z37:=Tryz.sizeOf169
  v37:=Tryz.zeroValue169
  t46:=Tryz.underlying243
  a46:=Tryz.isAgg243
  z46:=Tryz.sizeOf243
  v46:=Tryz.zeroValue243
  t51:=Tryz.underlying301
  a51:=Tryz.isAgg301
  z51:=Tryz.sizeOf301
  v51:=Tryz.zeroValue301
  t53:=Tryz.underlying240
  a53:=Tryz.isAgg240
  z53:=Tryz.sizeOf240
  v53:=Tryz.zeroValue240
  t171:=Tryz.underlying273
  a171:=Tryz.isAgg273
  z171:=Tryz.sizeOf273
  v171:=Tryz.zeroValue273
  t173:=Tryz.underlying276
  a173:=Tryz.isAgg276
  z173:=Tryz.sizeOf276
  v173:=Tryz.zeroValue276
  t212:=Tryz.underlying300
  a212:=Tryz.isAgg300
  z212:=Tryz.sizeOf300
  v212:=Tryz.zeroValue300
  t213:=Tryz.underlying302
  a213:=Tryz.isAgg302
  z213:=Tryz.sizeOf302
  t232:=Tryz.underlying312
  a232:=Tryz.isAgg312
  z232:=Tryz.sizeOf312
  v232:=Tryz.zeroValue312
  t233:=Tryz.underlying313
  a233:=Tryz.isAgg313
  z233:=Tryz.sizeOf313
  v233:=Tryz.zeroValue313
  g17:=by kernel_rfl
  g18:=by kernel_rfl
  g19:=by kernel_rfl
  i0:=by kernel_rfl
  i2:=by kernel_rfl
  i3:=by kernel_rfl
  i4:=by kernel_rfl
  i5:=by kernel_rfl
  i9:=by kernel_rfl
  i20:=by kernel_rfl
  i37:=by kernel_rfl
  i46:=by kernel_rfl
  i51:=by kernel_rfl
  i53:=by kernel_rfl
  i171:=by kernel_rfl
  i173:=by kernel_rfl
  i212:=by kernel_rfl
  i232:=by kernel_rfl
  i233:=by kernel_rfl
  m17:=by kernel_rfl
  m18:=by kernel_rfl
  m19:=by kernel_rfl }
open Go.RowKit Go.Sort Go.Lib in
/-- strconv.FormatInt: "FormatInt returns the string representation of i in the given base": AT BASE 10: i's decimal numeral,for every int64. (LAID: no walk: one application.) -/
theorem Tryz.strconv_FormatInt_10 (n:Int) (h0:-9223372036854775808 ≤ n) (h1:n ≤ 9223372036854775807) (w:World) (htab:Lib.TabIs Tryz.prog w "internal/strconv.uint64pow10" .u64 Lib.pow10Tab) :
    Calls Tryz.prog 189 #[.int .i64 n,.int .i64 10] w fun e w' => e = .returned (.string ⟨(Lib.itoa n).toArray⟩) ∧ ∃ k os,w' = grow (w.drewN k) os:=Any.strconv_FormatInt_10 Tryz.laysM173 n h0 h1 w htab
def Tryz.laysW5_ren:Go.Shelf.Ren:=⟨fun | 5 => 143 | 7 => 191 | n => n,fun | 4 => 4 | 20 => 20 | 23 => 97 | 25 => 9 | 3 => 36 | n => n,fun | n => n⟩
theorem Tryz.laysW5:Go.Proofs.SlLaysW.n5 Tryz.prog Tryz.laysW5_ren:={
  mixed:=by kernel_rfl
  f5:=⟨Tryz.f143.name,by decide,Tryz.func143.trans (congrArg some (by kernel_rfl))⟩
  f7:=Tryz.func191.trans (congrArg some (by kernel_rfl))
  t4:=Tryz.underlying4
  a4:=Tryz.isAgg4
  z4:=Tryz.sizeOf4
  v4:=Tryz.zeroValue4
  t20:=Tryz.underlying20
  a20:=Tryz.isAgg20
  z20:=Tryz.sizeOf20
  v20:=Tryz.zeroValue20
  t23:=Tryz.underlying97
  a23:=Tryz.isAgg97
  z23:=Tryz.sizeOf97
  v23:=Tryz.zeroValue97 }
theorem Tryz.maps_Clone (b:Nat) (es:Array MapEntry) (clock:Nat) (w:World) (hb:w.heap[b]? = some (.map es clock)) :
    Calls Tryz.prog 143 #[.map (some b)] w fun e w' => e = .returned (.map (some w.heap.size)) ∧ w' = w.alloc (.map es clock):=AnyW.maps_Clone Tryz.laysW5 b es clock w hb
end Go.Proofs
