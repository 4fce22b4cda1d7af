/-
  A part of the proof.
-/
import Derived.Shelf.Strconv.Itoa0
import Derived.Shelf.Strconv.Itoa1
import Derived.Shelf.LaysM
import Derived.Shelf.Strconv.Itoa2
import Derived.Shelf.Strconv.Itoa3
import Derived.Shelf.Strconv.Itoa4
import Derived.Shelf.Strconv.ParseIntEmpty
import Derived.Shelf.Strconv.Clone
import Derived.Shelf.Strconv.SyntaxError
import Derived.Shelf.LaysC
import Derived.Shelf.Strconv.ToError
import Derived.Shelf.Strconv.Lower
import Derived.Shelf.Strconv.ParseUint10
import Derived.Shelf.Strconv.ParseUint10Empty
import Derived.Shelf.Strconv.ParseUint10Any
import Derived.Shelf.Strconv.ParseInt10
import Derived.Shelf.Strconv.RangeError
import Derived.Shelf.Strconv.ToErrorRange
import Derived.Shelf.Strconv.ParseUintEmpty
import Derived.Shelf.Strconv.ParseUint10b64
import Derived.Shelf.Strconv.ParseUint10b32
import Derived.Shelf.Strconv.ParseUint10b16
import Derived.Shelf.Strconv.ParseUint10b8
import Derived.Shelf.Strconv.ParseUint10At
import Derived.Shelf.Strconv.ParseInt10At64
import Derived.Shelf.Strconv.ParseInt10At32
import Derived.Shelf.Strconv.ParseInt10At16
import Derived.Shelf.Strconv.ParseInt10At8
import Derived.Shelf.Strconv.ParseInt10All
import Derived.Shelf.Strconv.ParseIntPublic10
import Derived.Shelf.Strconv.ErrVarParseInt
import Derived.Shelf.Slices.Turned
import Derived.Ground.Names2Prog
import Derived.Shelf.Slices.Clone
import Derived.Ground.SlgnProg
import Derived.Shelf.SlicesE.Clone
import Derived.Test.YtdlcnihacaboiaaGreatDoorProg
import Derived.Test.YtdlcnihacaboiaaGreatDoorSubLib
import Derived.Test.YtdlcnihacaboiaaGreatDoorGG
import Derived.Lib.AtoiErrMem
set_option linter.all false
namespace Go.Proofs
open Go.Shelf
def Tryz.laysM171_ren:Go.Shelf.Ren:=⟨fun | 171 => 108 | 243 => 155 | 246 => 203 | 283 => 238 | 284 => 239 | 285 => 240 | 286 => 241 | 129 => 263 | 317 => 262 | 318 => 264 | 319 => 265 | 320 => 266 | 337 => 277 | 338 => 278 | n => n,fun | 3 => 3 | 9 => 9 | 2 => 2 | 4 => 4 | 171 => 273 | 0 => 0 | 53 => 240 | 37 => 169 | 5 => 5 | 173 => 276 | 212 => 300 | 51 => 301 | 20 => 20 | 213 => 302 | 46 => 243 | 232 => 312 | 233 => 313 | n => n,fun | 17 => 3 | 18 => 4 | 19 => 5 | n => n⟩
theorem Tryz.laysM171:Go.Proofs.LaysM.n171 Tryz.prog Tryz.laysM171_ren:={
  mixed:=by kernel_rfl
  f129:=Tryz.func263.trans (congrArg some (by kernel_rfl))
  f171:=Tryz.func108.trans (congrArg some (by kernel_rfl))
  f243:=Tryz.func155.trans (congrArg some (by kernel_rfl))
  f246:=Tryz.func203.trans (congrArg some (by kernel_rfl))
  f283:=Tryz.func238.trans (congrArg some (by kernel_rfl))
  f284:=Tryz.func239.trans (congrArg some (by kernel_rfl))
  f285:=Tryz.func240.trans (congrArg some (by kernel_rfl))
  f286:=Tryz.func241.trans (congrArg some (by kernel_rfl))
  f317:=Tryz.func262.trans (congrArg some (by kernel_rfl))
  f318:=Tryz.func264.trans (congrArg some (by kernel_rfl))
  f319:=Tryz.func265.trans (congrArg some (by kernel_rfl))
  f320:=Tryz.func266.trans (congrArg some (by kernel_rfl))
  f337:=Tryz.func277.trans (congrArg some (by kernel_rfl))
  f338:=Tryz.func278.trans (congrArg some (by kernel_rfl))
  t0:=Tryz.underlying0
  a0:=Tryz.isAgg0
  z0:=Tryz.sizeOf0
  v0:=Tryz.zeroValue0
  t2:=Tryz.underlying2
  a2:=Tryz.isAgg2
  z2:=Tryz.sizeOf2
  v2:=Tryz.zeroValue2
  t3:=Tryz.underlying3
  a3:=Tryz.isAgg3
  z3:=Tryz.sizeOf3
  v3:=Tryz.zeroValue3
  t4:=Tryz.underlying4
  a4:=Tryz.isAgg4
  z4:=Tryz.sizeOf4
  v4:=Tryz.zeroValue4
  t5:=Tryz.underlying5
  a5:=Tryz.isAgg5
  z5:=Tryz.sizeOf5
  v5:=Tryz.zeroValue5
  t9:=Tryz.underlying9
  a9:=Tryz.isAgg9
  z9:=Tryz.sizeOf9
  v9:=Tryz.zeroValue9
  t20:=Tryz.underlying20
  a20:=Tryz.isAgg20
  z20:=Tryz.sizeOf20
  v20:=Tryz.zeroValue20
  t37:=Tryz.underlying169
  a37:=Tryz.isAgg169
  z37:=Tryz.sizeOf169
  v37:=Tryz.zeroValue169
  t46:=Tryz.underlying243
  a46:=Tryz.isAgg243
  z46:=Tryz.sizeOf243
  v46:=Tryz.zeroValue243
  t51:=Tryz.underlying301
  a51:=Tryz.isAgg301
  z51:=Tryz.sizeOf301
  v51:=Tryz.zeroValue301
  t53:=Tryz.underlying240
  a53:=Tryz.isAgg240
  z53:=Tryz.sizeOf240
  v53:=Tryz.zeroValue240
  t171:=Tryz.underlying273
  a171:=Tryz.isAgg273
  z171:=Tryz.sizeOf273
  v171:=Tryz.zeroValue273
  t173:=Tryz.underlying276
  a173:=Tryz.isAgg276
  z173:=Tryz.sizeOf276
  v173:=Tryz.zeroValue276
  t212:=Tryz.underlying300
  a212:=Tryz.isAgg300
  z212:=Tryz.sizeOf300
  v212:=Tryz.zeroValue300
  t213:=Tryz.underlying302
  a213:=Tryz.isAgg302
  z213:=Tryz.sizeOf302
  t232:=Tryz.underlying312
  a232:=Tryz.isAgg312
  z232:=Tryz.sizeOf312
  v232:=Tryz.zeroValue312
  t233:=Tryz.underlying313
  a233:=Tryz.isAgg313
  z233:=Tryz.sizeOf313
  v233:=Tryz.zeroValue313
  g17:=by kernel_rfl
  g18:=by kernel_rfl
  g19:=by kernel_rfl
  i0:=by kernel_rfl
  i2:=by kernel_rfl
  i3:=by kernel_rfl
  i4:=by kernel_rfl
  i5:=by kernel_rfl
  i9:=by kernel_rfl
  i20:=by kernel_rfl
  i37:=by kernel_rfl
  i46:=by kernel_rfl
  i51:=by kernel_rfl
  i53:=by kernel_rfl
  i171:=by kernel_rfl
  i173:=by kernel_rfl
  i212:=by kernel_rfl
  i232:=by kernel_rfl
  i233:=by kernel_rfl
  m17:=by kernel_rfl
  m18:=by kernel_rfl
  m19:=by kernel_rfl }
open Go.RowKit Go.Sort Go.Lib in
/-- strconv.Itoa: "Itoa is equivalent to FormatInt(int64(i), 10).": i's DECIMAL NUMERAL ('Lib.itoa': a '-' where i is negative,then the digits),FOR EVERY int. The world behind the call: the world before it,new blocks behind the heap (the library's 'var a [24]byte'),draws. (LAID: no walk: one application.) -/
theorem Tryz.strconv_Itoa (n:Int) (h0:-9223372036854775808 ≤ n) (h1:n ≤ 9223372036854775807) (w:World) (htab:Lib.TabIs Tryz.prog w "internal/strconv.uint64pow10" .u64 Lib.pow10Tab) :
    Calls Tryz.prog 108 #[.int .i64 n] w fun e w' => e = .returned (.string ⟨(Lib.itoa n).toArray⟩) ∧ ∃ k os,w' = grow (w.drewN k) os:=Any.strconv_Itoa Tryz.laysM171 n h0 h1 w htab
def Tryz.laysC174_ren:Go.Shelf.Ren:=⟨fun | 174 => 107 | 247 => 153 | 245 => 154 | 287 => 198 | 279 => 199 | 280 => 200 | 281 => 201 | 282 => 202 | 321 => 234 | 322 => 235 | 316 => 236 | 171 => 108 | 205 => 237 | 243 => 155 | 246 => 203 | 283 => 238 | 284 => 239 | 285 => 240 | 286 => 241 | 129 => 263 | 317 => 262 | 318 => 264 | 319 => 265 | 320 => 266 | 337 => 277 | 338 => 278 | n => n,fun | 9 => 9 | 3 => 3 | 2 => 2 | 75 => 150 | 85 => 151 | 4 => 4 | 167 => 239 | 5 => 5 | 53 => 240 | 175 => 241 | 46 => 243 | 168 => 244 | 37 => 169 | 0 => 0 | 210 => 271 | 21 => 21 | 127 => 216 | 145 => 297 | 143 => 295 | 171 => 273 | 173 => 276 | 212 => 300 | 51 => 301 | 20 => 20 | 213 => 302 | 232 => 312 | 233 => 313 | 80 => 175 | n => n,fun | 15 => 0 | 16 => 1 | 17 => 3 | 18 => 4 | 19 => 5 | n => n⟩
theorem Tryz.laysC174:Go.Proofs.LaysC.n174 Tryz.prog Tryz.laysC174_ren:={
  mixed:=by kernel_rfl
  f129:=Tryz.func263.trans (congrArg some (by kernel_rfl))
  f171:=Tryz.func108.trans (congrArg some (by kernel_rfl))
  f174:=Tryz.func107.trans (congrArg some (by kernel_rfl))
  f205:=Tryz.func237.trans (congrArg some (by kernel_rfl))
  f243:=Tryz.func155.trans (congrArg some (by kernel_rfl))
  f245:=Tryz.func154.trans (congrArg some (by kernel_rfl))
  f246:=Tryz.func203.trans (congrArg some (by kernel_rfl))
  f247:=Tryz.func153.trans (congrArg some (by kernel_rfl))
  f279:=Tryz.func199.trans (congrArg some (by kernel_rfl))
  f280:=Tryz.func200.trans (congrArg some (by kernel_rfl))
  f281:=Tryz.func201.trans (congrArg some (by kernel_rfl))
  f282:=Tryz.func202.trans (congrArg some (by kernel_rfl))
  f283:=Tryz.func238.trans (congrArg some (by kernel_rfl))
  f284:=Tryz.func239.trans (congrArg some (by kernel_rfl))
  f285:=Tryz.func240.trans (congrArg some (by kernel_rfl))
  f286:=Tryz.func241.trans (congrArg some (by kernel_rfl))
  f287:=Tryz.func198.trans (congrArg some (by kernel_rfl))
  f316:=Tryz.func236.trans (congrArg some (by kernel_rfl))
  f317:=Tryz.func262.trans (congrArg some (by kernel_rfl))
  f318:=Tryz.func264.trans (congrArg some (by kernel_rfl))
  f319:=Tryz.func265.trans (congrArg some (by kernel_rfl))
  f320:=Tryz.func266.trans (congrArg some (by kernel_rfl))
  f321:=Tryz.func234.trans (congrArg some (by kernel_rfl))
  f322:=Tryz.func235.trans (congrArg some (by kernel_rfl))
  f337:=Tryz.func277.trans (congrArg some (by kernel_rfl))
  f338:=Tryz.func278.trans (congrArg some (by kernel_rfl))
  t0:=Tryz.underlying0
  a0:=Tryz.isAgg0
  z0:=Tryz.sizeOf0
  v0:=Tryz.zeroValue0
  t2:=Tryz.underlying2
  a2:=Tryz.isAgg2
  z2:=Tryz.sizeOf2
  v2:=Tryz.zeroValue2
  t3:=Tryz.underlying3
  a3:=Tryz.isAgg3
  z3:=Tryz.sizeOf3
  v3:=Tryz.zeroValue3
  t4:=Tryz.underlying4
  a4:=Tryz.isAgg4
  z4:=Tryz.sizeOf4
  v4:=Tryz.zeroValue4
  t5:=Tryz.underlying5
  a5:=Tryz.isAgg5
  z5:=Tryz.sizeOf5
  v5:=Tryz.zeroValue5
  t9:=Tryz.underlying9
  a9:=Tryz.isAgg9
  z9:=Tryz.sizeOf9
  v9:=Tryz.zeroValue9
  t20:=Tryz.underlying20
  a20:=Tryz.isAgg20
  z20:=Tryz.sizeOf20
  v20:=Tryz.zeroValue20
  t21:=Tryz.underlying21
  a21:=Tryz.isAgg21
  z21:=Tryz.sizeOf21
  v21:=Tryz.zeroValue21
  t37:=Tryz.underlying169
  a37:=Tryz.isAgg169
  z37:=Tryz.sizeOf169
  v37:=Tryz.zeroValue169
  t46:=Tryz.underlying243
  a46:=Tryz.isAgg243
  z46:=Tryz.sizeOf243
  v46:=Tryz.zeroValue243
  t51:=Tryz.underlying301
  a51:=Tryz.isAgg301
  z51:=Tryz.sizeOf301
  v51:=Tryz.zeroValue301
  t53:=Tryz.underlying240
  a53:=Tryz.isAgg240
  z53:=Tryz.sizeOf240
  v53:=Tryz.zeroValue240
  t75:=Tryz.underlying150
  a75:=Tryz.isAgg150
  z75:=Tryz.sizeOf150
  v75:=Tryz.zeroValue150
  t85:=Tryz.underlying151
  a85:=Tryz.isAgg151
  z85:=Tryz.sizeOf151
  v85:=Tryz.zeroValue151
  t127:=Tryz.underlying216
  a127:=Tryz.isAgg216
  z127:=Tryz.sizeOf216
  v127:=Tryz.zeroValue216
  t143:=Tryz.underlying295
  a143:=Tryz.isAgg295
  z143:=Tryz.sizeOf295
  v143:=Tryz.zeroValue295
  t145:=Tryz.underlying297
  a145:=Tryz.isAgg297
  z145:=Tryz.sizeOf297
  v145:=Tryz.zeroValue297
  t167:=Tryz.underlying239
  a167:=Tryz.isAgg239
  z167:=Tryz.sizeOf239
  v167:=Tryz.zeroValue239
  t168:=Tryz.underlying244
  a168:=Tryz.isAgg244
  z168:=Tryz.sizeOf244
  v168:=Tryz.zeroValue244
  t171:=Tryz.underlying273
  a171:=Tryz.isAgg273
  z171:=Tryz.sizeOf273
  v171:=Tryz.zeroValue273
  t173:=Tryz.underlying276
  a173:=Tryz.isAgg276
  z173:=Tryz.sizeOf276
  v173:=Tryz.zeroValue276
  t175:=Tryz.underlying241
  a175:=Tryz.isAgg241
  z175:=Tryz.sizeOf241
  v175:=Tryz.zeroValue241
  t210:=Tryz.underlying271
  a210:=Tryz.isAgg271
  z210:=Tryz.sizeOf271
  v210:=Tryz.zeroValue271
  t212:=Tryz.underlying300
  a212:=Tryz.isAgg300
  z212:=Tryz.sizeOf300
  v212:=Tryz.zeroValue300
  t213:=Tryz.underlying302
  a213:=Tryz.isAgg302
  z213:=Tryz.sizeOf302
  t232:=Tryz.underlying312
  a232:=Tryz.isAgg312
  z232:=Tryz.sizeOf312
  v232:=Tryz.zeroValue312
  t233:=Tryz.underlying313
  a233:=Tryz.isAgg313
  z233:=Tryz.sizeOf313
  v233:=Tryz.zeroValue313
  g15:=by kernel_rfl
  g16:=by kernel_rfl
  g17:=by kernel_rfl
  g18:=by kernel_rfl
  g19:=by kernel_rfl
  t80:=Tryz.underlying175
  a80:=Tryz.isAgg175
  z80:=Tryz.sizeOf175
  v80:=Tryz.zeroValue175
  i0:=by kernel_rfl
  i2:=by kernel_rfl
  i3:=by kernel_rfl
  i4:=by kernel_rfl
  i5:=by kernel_rfl
  i9:=by kernel_rfl
  i20:=by kernel_rfl
  i21:=by kernel_rfl
  i37:=by kernel_rfl
  i46:=by kernel_rfl
  i51:=by kernel_rfl
  i53:=by kernel_rfl
  i75:=by kernel_rfl
  i80:=by kernel_rfl
  i85:=by kernel_rfl
  i127:=by kernel_rfl
  i143:=by kernel_rfl
  i145:=by kernel_rfl
  i167:=by kernel_rfl
  i168:=by kernel_rfl
  i171:=by kernel_rfl
  i173:=by kernel_rfl
  i175:=by kernel_rfl
  i210:=by kernel_rfl
  i212:=by kernel_rfl
  i232:=by kernel_rfl
  i233:=by kernel_rfl
  m15:=by kernel_rfl
  m16:=by kernel_rfl
  m17:=by kernel_rfl
  m18:=by kernel_rfl
  m19:=by kernel_rfl
  c0:=by kernel_rfl
  c2:=by kernel_rfl
  c3:=by kernel_rfl
  c4:=by kernel_rfl
  c5:=by kernel_rfl
  c9:=by kernel_rfl
  c20:=by kernel_rfl
  c21:=by kernel_rfl
  c37:=by kernel_rfl
  c46:=by kernel_rfl
  c51:=by kernel_rfl
  c53:=by kernel_rfl
  c75:=by kernel_rfl
  c80:=by kernel_rfl
  c85:=by kernel_rfl
  c127:=by kernel_rfl
  c143:=by kernel_rfl
  c145:=by kernel_rfl
  c167:=by kernel_rfl
  c168:=by kernel_rfl
  c171:=by kernel_rfl
  c173:=by kernel_rfl
  c175:=by kernel_rfl
  c210:=by kernel_rfl
  c212:=by kernel_rfl
  c213:=by kernel_rfl
  c232:=by kernel_rfl
  c233:=by kernel_rfl }
open Go.RowKit in
theorem Tryz.strconv_ParseInt_10_at32_ok (s:ByteArray) (hmax:s.size ≤ 9223372036854775806) (v:Int) (h:Lib.parseIntB 32 s.data.toList = .ok v) (w:World) :
    Calls Tryz.prog 107 #[.string s,.int .i64 10,.int .i64 32] w fun e w' => e = .returned (.tuple #[.int .i64 v,.nilIface]) ∧ (w' = w ∨ ∃ t,w' = Lib.bytesWorld w 5 t):=Any.strconv_ParseInt_10_at32_ok Tryz.laysC174 s hmax v h w
open Go.RowKit in
/-- strconv.ParseInt(s,10,32),AT EVERY STRING THAT IS NO DECIMAL NUMERAL: 0,AND AN ERROR THAT IS NOT nil: a *NumError in a new block N: {Func: "ParseInt",Num: s's bytes,Err: what the variable ErrSyntax holds}. Of what was there nothing has turned. (LAID: no walk: one application.) -/
theorem Tryz.strconv_ParseInt_10_at32_syntax (s:ByteArray) (hlim:s.size ≤ 281474976710656) (h:Lib.parseIntB 32 s.data.toList = .«syntax») (ev:Value) (w:World) (hv:w.cell? ⟨0,0,none⟩ = some ev) (hev:ev = .nilIface ∨ ∃ te pe,ev = .iface te pe) :
    Calls Tryz.prog 107 #[.string s,.int .i64 10,.int .i64 32] w fun e w' => ∃ N,e = .returned (.tuple #[.int .i64 (0),.iface 244 (.pointer (some ⟨N,0,none⟩))]) ∧ w.heap.size ≤ N ∧ w'.heap[N]? = some (.cells #[.string ⟨#[80,97,114,115,101,73,110,116]⟩,.string s,ev] 271 (0,0)) ∧ Below w.heap.size w w':=Any.strconv_ParseInt_10_at32_syntax Tryz.laysC174 s hlim h ev w hv hev
open Go.RowKit in
/-- strconv.ParseInt(s,10,32),AT EVERY NUMERAL THAT NO int32 HOLDS: THE GREATEST OR THE LEAST int32,BY THE SIGN ('Lib.intSat 32'),AND AN ERROR THAT IS NOT nil: a *NumError in a new block N: {Func: "ParseInt",Num: s's bytes,Err: what the variable ErrRange holds}. Of what was there nothing has turned. (LAID: no walk: one application.) -/
theorem Tryz.strconv_ParseInt_10_at32_range (s:ByteArray) (hlim:s.size ≤ 281474976710656) (h:Lib.parseIntB 32 s.data.toList = .range) (ev:Value) (w:World) (hv:w.cell? ⟨1,0,none⟩ = some ev) (hev:ev = .nilIface ∨ ∃ te pe,ev = .iface te pe) :
    Calls Tryz.prog 107 #[.string s,.int .i64 10,.int .i64 32] w fun e w' => ∃ N,e = .returned (.tuple #[.int .i64 (Lib.intSat 32 s.data.toList),.iface 244 (.pointer (some ⟨N,0,none⟩))]) ∧ w.heap.size ≤ N ∧ w'.heap[N]? = some (.cells #[.string ⟨#[80,97,114,115,101,73,110,116]⟩,.string s,ev] 271 (0,0)) ∧ Below w.heap.size w w':=Any.strconv_ParseInt_10_at32_range Tryz.laysC174 s hlim h ev w hv hev
end Go.Proofs

namespace Go.Duo
open Go
theorem Call.glLe {P:Program} {gl gl':Nat → V} {k:FuncId} {args:List V} {st:List O} {K:V → List O → Prop} (h:∀ g,gl g = .undef ∨ gl g = gl' g) (hc:Call P gl k args st K):Call P gl' k args st K:=fun w s xs hst hs hxs =>
  CallsIn.mono (hc w s xs hst ⟨hs.len,hs.obj,hs.inj,hs.kout,hs.kin,hs.fgn,fun g => (h g).elim .inl fun e => by rw [e];exact hs.glob g⟩ hxs) fun e w' ⟨v,x,s',h1,h2,h3,h4,h5⟩ =>
    ⟨v,x,s',h1,⟨h2.len,h2.obj,h2.inj,h2.kout,h2.kin,h2.fgn,fun g => (hs.glob g).imp id fun k => globKeeps h3.keeps k⟩,h3,h4,h5⟩
end Go.Duo
namespace Go.Proofs
open Go Go.Duo
namespace Tryz
def gl2:Nat → V
  | 0 => .dptr [.iface 295 (.dptr [.str [105,110,118,97,108,105,100,32,115,121,110,116,97,120]])]
  | 1 => .dptr [.iface 295 (.dptr [.str [118,97,108,117,101,32,111,117,116,32,111,102,32,114,97,110,103,101]])]
  | 3 => .dptr (Lib.pow10Tab.map (.int .u64))
  | _ => .undef
theorem gl12 (g:Nat):gl g = .undef ∨ gl g = gl2 g:=by
  unfold gl
  split
  · exact .inr rfl
  · exact .inl rfl
theorem up {k:FuncId} {args:List V} {st:List O} {K:V → List O → Prop} (h:Duo.Call Tryz.prog gl k args st K):Duo.Call Tryz.prog gl2 k args st K:=h.glLe gl12
theorem itoa_spec (n:Int) (h0:-9223372036854775808 ≤ n) (h1:n ≤ 9223372036854775807) (st:List O):Duo.Call Tryz.prog gl2 108 [.int .i64 n] st (fun v st' => v = .str (Lib.itoa n) ∧ st' = st):=by
  refine Duo.Call.of_grow fun w s xs hst hs hxs => ?_
  obtain ⟨hl,hr⟩:=hxs
  match xs,hl with
  | [x],_ =>
    cases (hr 0 _ _ rfl rfl).int_inv
    refine (Tryz.strconv_Itoa n h0 h1 w (glob_tab hs (g:=3) (by kernel_rfl) rfl)).mono ?_
    rintro e w' ⟨rfl,k,os,rfl⟩
    exact ⟨Lib.below_grow _ w (Nat.le_refl _) k os,_,_,rfl,⟨rfl,rfl⟩,fun _ _ => .pure _ _ (.str _)⟩
def parV (s:List UInt8):V:=match Lib.parseIntB 32 s with
  | .ok n => .tuple [.int .i64 n,.niliface]
  | .range => .tuple [.int .i64 (Lib.intSat 32 s),.iface 244 .undef]
  | _ => .tuple [.int .i64 0,.iface 244 .undef]
theorem ends (x:Lib.NumEnd Int):(∃ n,x = .ok n) ∨ x = .range ∨ x = Lib.parseIntB 32 []:=by
  cases x
  · exact .inl ⟨_,rfl⟩
  · exact .inr (.inr rfl)
  · exact .inr (.inl rfl)
def parOK (s:List UInt8):Bool:=match Lib.parseIntB 32 s with | .ok _ => true | _ => false
def parN (s:List UInt8):Int:=match Lib.parseIntB 32 s with | .ok n => n | .range => Lib.intSat 32 s | _ => 0
def parE (s:List UInt8):V:=match Lib.parseIntB 32 s with | .ok _ => .niliface | _ => .iface 244 .undef
theorem parV_eq (s:List UInt8):parV s = .tuple [.int .i64 (parN s),parE s]:=by unfold parV parN parE;cases Lib.parseIntB 32 s <;> rfl
theorem par_ok {s:List UInt8} (h:parOK s = true):Lib.parseIntB 32 s = .ok (parN s):=by
  unfold parOK at h;unfold parN
  rcases ends (Lib.parseIntB 32 s) with ⟨n,h'⟩ | h' | h'
  · rw [h']
  · rw [h'] at h;cases h
  · rw [h'] at h;cases h
theorem parN_ge {s:List UInt8} (h:parOK s = true):-2147483648 ≤ parN s:=by
  have h:=par_ok h
  cases s with
  | nil => cases h
  | cons c r =>
    simp only [Lib.parseIntB] at h
    split at h
    · cases h
    · cases h
    · split at h
      · cases h
      · split at h
        · cases h
        · rename_i h1 h2
          cases h'':parN (c :: r) <;> rw [h''] at h <;> simp only [Lib.NumEnd.ok.injEq] at h <;> split at h <;> omega
theorem par_of_ok {s:List UInt8} {n:Int} (h:Lib.parseIntB 32 s = .ok n):parOK s = true ∧ n = parN s:=by
  unfold parOK parN;rw [h];exact ⟨rfl,rfl⟩
theorem parse_spec (s:List UInt8) (hs:s.length ≤ 281474976710656) (st:List O):Duo.Call Tryz.prog gl2 107 [.str s,.int .i64 10,.int .i64 32] st (fun v st' => v = parV s ∧ st' = st):=by
  refine Duo.Call.of_grow fun w sg xs hst hsim hxs => ?_
  obtain ⟨hl,hr⟩:=hxs
  match xs,hl with
  | [x,y,z],_ =>
    cases (hr 0 _ _ rfl rfl).str_inv
    cases (hr 1 _ _ rfl rfl).int_inv
    cases (hr 2 _ _ rfl rfl).int_inv
    have hsz:(⟨s.toArray⟩:ByteArray).size = s.length:=by simp [ByteArray.size]
    have hda:(⟨s.toArray⟩:ByteArray).data.toList = s:=by simp
    unfold parV
    rcases ends (Lib.parseIntB 32 s) with ⟨n,h⟩ | h | h
    rotate_left
    rotate_left
    · rw [h]
      obtain ⟨ev,hv,hev⟩:=glob_iface hsim (g:=0) rfl
      refine (Tryz.strconv_ParseInt_10_at32_syntax ⟨s.toArray⟩ (by rw [hsz];exact hs) (by rw [hda];exact h) ev w hv hev).mono ?_
      rintro e w' ⟨N,rfl,_,_,hb⟩
      refine ⟨hb,_,_,rfl,⟨rfl,rfl⟩,fun w2 s2 => .tuple _ [_,_] rfl fun i c x hc hx => ?_⟩
      rcases i with _ | _ | i
      · simp at hc hx;subst hc hx;exact .pure _ _ (.int _ _)
      · simp at hc hx;subst hc hx;exact .iface _ _ _ (.undef _)
      · simp at hc
    rotate_left
    · rw [h]
      obtain ⟨ev,hv,hev⟩:=glob_iface hsim (g:=1) rfl
      refine (Tryz.strconv_ParseInt_10_at32_range ⟨s.toArray⟩ (by rw [hsz];exact hs) (by rw [hda];exact h) ev w hv hev).mono ?_
      rintro e w' ⟨N,rfl,_,_,hb⟩
      rw [hda]
      refine ⟨hb,_,_,rfl,⟨rfl,rfl⟩,fun w2 s2 => .tuple _ [_,_] rfl fun i c x hc hx => ?_⟩
      rcases i with _ | _ | i
      · simp at hc hx;subst hc hx;exact .pure _ _ (.int _ _)
      · simp at hc hx;subst hc hx;exact .iface _ _ _ (.undef _)
      · simp at hc
    · rw [h]
      refine (Tryz.strconv_ParseInt_10_at32_ok ⟨s.toArray⟩ (by rw [hsz];omega) n (by rw [hda];exact h) w).mono ?_
      rintro e w' ⟨rfl,hw⟩
      refine ⟨?_,_,_,rfl,⟨rfl,rfl⟩,fun w2 s2 => .tuple _ [_,_] rfl fun i c x hc hx => ?_⟩
      · rcases hw with rfl | ⟨t,rfl⟩
        · exact RowKit.Below.refl _ _
        · exact Lib.bytesWorld_below _ _ _
      · rcases i with _ | _ | i
        · simp at hc hx;subst hc hx;exact .pure _ _ (.int _ _)
        · simp at hc hx;subst hc hx;exact .pure _ _ .niliface
        · simp at hc
end Tryz
end Go.Proofs
