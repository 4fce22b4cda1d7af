/-
  A part of the proof.
-/
import Derived.Shelf.Strconv.Itoa0
import Derived.Shelf.Strconv.Itoa1
import Derived.Shelf.LaysM
import Derived.Shelf.Strconv.Itoa2
import Derived.Shelf.Strconv.Itoa3
import Derived.Shelf.Strconv.Itoa4
import Derived.Shelf.Strconv.ParseIntEmpty
import Derived.Shelf.Strconv.Clone
import Derived.Shelf.Strconv.SyntaxError
import Derived.Shelf.LaysC
import Derived.Shelf.Strconv.ToError
import Derived.Shelf.Strconv.Lower
import Derived.Shelf.Strconv.ParseUint10
import Derived.Shelf.Strconv.ParseUint10Empty
import Derived.Shelf.Strconv.ParseUint10Any
import Derived.Shelf.Strconv.ParseInt10
import Derived.Shelf.Strconv.RangeError
import Derived.Shelf.Strconv.ToErrorRange
import Derived.Shelf.Strconv.ParseUintEmpty
import Derived.Shelf.Strconv.ParseUint10b64
import Derived.Shelf.Strconv.ParseUint10b32
import Derived.Shelf.Strconv.ParseUint10b16
import Derived.Shelf.Strconv.ParseUint10b8
import Derived.Shelf.Strconv.ParseUint10At
import Derived.Shelf.Strconv.ParseInt10At64
import Derived.Shelf.Strconv.ParseInt10At32
import Derived.Shelf.Strconv.ParseInt10At16
import Derived.Shelf.Strconv.ParseInt10At8
import Derived.Shelf.Strconv.ParseInt10All
import Derived.Shelf.Strconv.ParseIntPublic10
import Derived.Shelf.Strconv.ErrVarParseInt
import Derived.Ground.Names2Prog
import Derived.Shelf.Slices.Clone
import Derived.Ground.SlgnProg
import Derived.Shelf.SlicesE.Clone
import Derived.Test.YtmjngcfigfkafaaDoorProg
import Derived.Test.YtmjngcfigfkafaaDoorData
import Derived.Test.YtmjngcfigfkafaaDoorChecked
import Derived.Test.YtmjngcfigfkafaaDoorDShelf
import Derived.Lib.QuietBelow
import Derived.Lib.AtoiErrMem
import Derived.Lib.AppendIntMem
set_option linter.all false
namespace Go.Proofs
open Go.Shelf
def Tryd.laysM171_ren : Go.Shelf.Ren := ⟨fun | 171 => 98 | 243 => 121 | 246 => 132 | 283 => 147 | 284 => 148 | 285 => 149 | 286 => 150 | 129 => 160 | 317 => 159 | 318 => 161 | 319 => 162 | 320 => 163 | 337 => 165 | 338 => 166 | n => n, fun | 3 => 3 | 9 => 9 | 2 => 2 | 4 => 4 | 171 => 187 | 0 => 0 | 53 => 176 | 37 => 190 | 5 => 5 | 173 => 191 | 212 => 202 | 51 => 203 | 20 => 20 | 213 => 204 | 46 => 179 | 232 => 211 | 233 => 212 | n => n, fun | 17 => 2 | 18 => 3 | 19 => 4 | n => n⟩
theorem Tryd.laysM171 : Go.Proofs.LaysM.n171 Tryd.prog Tryd.laysM171_ren := {
  mixed := by kernel_rfl
  f129 := Tryd.func160.trans (congrArg some (by kernel_rfl))
  f171 := Tryd.func98.trans (congrArg some (by kernel_rfl))
  f243 := Tryd.func121.trans (congrArg some (by kernel_rfl))
  f246 := Tryd.func132.trans (congrArg some (by kernel_rfl))
  f283 := Tryd.func147.trans (congrArg some (by kernel_rfl))
  f284 := Tryd.func148.trans (congrArg some (by kernel_rfl))
  f285 := Tryd.func149.trans (congrArg some (by kernel_rfl))
  f286 := Tryd.func150.trans (congrArg some (by kernel_rfl))
  f317 := Tryd.func159.trans (congrArg some (by kernel_rfl))
  f318 := Tryd.func161.trans (congrArg some (by kernel_rfl))
  f319 := Tryd.func162.trans (congrArg some (by kernel_rfl))
  f320 := Tryd.func163.trans (congrArg some (by kernel_rfl))
  f337 := Tryd.func165.trans (congrArg some (by kernel_rfl))
  f338 := Tryd.func166.trans (congrArg some (by kernel_rfl))
  t0 := Tryd.underlying0
  a0 := Tryd.isAgg0
  z0 := Tryd.sizeOf0
  v0 := Tryd.zeroValue0
  t2 := Tryd.underlying2
  a2 := Tryd.isAgg2
  z2 := Tryd.sizeOf2
  v2 := Tryd.zeroValue2
  t3 := Tryd.underlying3
  a3 := Tryd.isAgg3
  z3 := Tryd.sizeOf3
  v3 := Tryd.zeroValue3
  t4 := Tryd.underlying4
  a4 := Tryd.isAgg4
  z4 := Tryd.sizeOf4
  v4 := Tryd.zeroValue4
  t5 := Tryd.underlying5
  a5 := Tryd.isAgg5
  z5 := Tryd.sizeOf5
  v5 := Tryd.zeroValue5
  t9 := Tryd.underlying9
  a9 := Tryd.isAgg9
  z9 := Tryd.sizeOf9
  v9 := Tryd.zeroValue9
  t20 := Tryd.underlying20
  a20 := Tryd.isAgg20
  z20 := Tryd.sizeOf20
  v20 := Tryd.zeroValue20
  t37 := Tryd.underlying190
  a37 := Tryd.isAgg190
  z37 := Tryd.sizeOf190
  v37 := Tryd.zeroValue190
  t46 := Tryd.underlying179
  a46 := Tryd.isAgg179
  z46 := Tryd.sizeOf179
  v46 := Tryd.zeroValue179
  t51 := Tryd.underlying203
  a51 := Tryd.isAgg203
  z51 := Tryd.sizeOf203
  v51 := Tryd.zeroValue203
  t53 := Tryd.underlying176
  a53 := Tryd.isAgg176
  z53 := Tryd.sizeOf176
  v53 := Tryd.zeroValue176
  t171 := Tryd.underlying187
  a171 := Tryd.isAgg187
  z171 := Tryd.sizeOf187
  v171 := Tryd.zeroValue187
  t173 := Tryd.underlying191
  a173 := Tryd.isAgg191
  z173 := Tryd.sizeOf191
  v173 := Tryd.zeroValue191
  t212 := Tryd.underlying202
  a212 := Tryd.isAgg202
  z212 := Tryd.sizeOf202
  v212 := Tryd.zeroValue202
  t213 := Tryd.underlying204
  a213 := Tryd.isAgg204
  z213 := Tryd.sizeOf204
  t232 := Tryd.underlying211
  a232 := Tryd.isAgg211
  z232 := Tryd.sizeOf211
  v232 := Tryd.zeroValue211
  t233 := Tryd.underlying212
  a233 := Tryd.isAgg212
  z233 := Tryd.sizeOf212
  v233 := Tryd.zeroValue212
  g17 := by kernel_rfl
  g18 := by kernel_rfl
  g19 := by kernel_rfl
  i0 := by kernel_rfl
  i2 := by kernel_rfl
  i3 := by kernel_rfl
  i4 := by kernel_rfl
  i5 := by kernel_rfl
  i9 := by kernel_rfl
  i20 := by kernel_rfl
  i37 := by kernel_rfl
  i46 := by kernel_rfl
  i51 := by kernel_rfl
  i53 := by kernel_rfl
  i171 := by kernel_rfl
  i173 := by kernel_rfl
  i212 := by kernel_rfl
  i232 := by kernel_rfl
  i233 := by kernel_rfl
  m17 := by kernel_rfl
  m18 := by kernel_rfl
  m19 := by kernel_rfl }
open Go.RowKit Go.Sort Go.Lib in
/-- strconv.Itoa: "Itoa is equivalent to FormatInt(int64(i), 10).": i's DECIMAL NUMERAL ('Lib.itoa': a '-' where i is negative, then the digits), FOR EVERY int. The world behind the call: the world before it, new blocks behind the heap (the library's 'var a [24]byte'), draws. (LAID: no walk: one application.) -/
theorem Tryd.strconv_Itoa (n : Int) (h0 : -9223372036854775808 ≤ n) (h1 : n ≤ 9223372036854775807) (w : World) (htab : Lib.TabIs Tryd.prog w "internal/strconv.uint64pow10" .u64 Lib.pow10Tab) :
    Calls Tryd.prog 98 #[.int .i64 n] w fun e w' => e = .returned (.string ⟨(Lib.itoa n).toArray⟩) ∧ ∃ k os, w' = grow (w.drewN k) os := Any.strconv_Itoa Tryd.laysM171 n h0 h1 w htab
def Tryd.laysC174_ren : Go.Shelf.Ren := ⟨fun | 174 => 97 | 247 => 119 | 245 => 120 | 287 => 134 | 279 => 135 | 280 => 136 | 281 => 137 | 282 => 138 | 321 => 151 | 322 => 152 | 316 => 153 | 171 => 98 | 205 => 154 | 243 => 121 | 246 => 132 | 283 => 147 | 284 => 148 | 285 => 149 | 286 => 150 | 129 => 160 | 317 => 159 | 318 => 161 | 319 => 162 | 320 => 163 | 337 => 165 | 338 => 166 | n => n, fun | 9 => 9 | 3 => 3 | 2 => 2 | 75 => 153 | 85 => 154 | 4 => 4 | 167 => 175 | 5 => 5 | 53 => 176 | 175 => 177 | 46 => 179 | 168 => 180 | 37 => 190 | 0 => 0 | 210 => 195 | 21 => 21 | 127 => 206 | 145 => 209 | 143 => 207 | 171 => 187 | 173 => 191 | 212 => 202 | 51 => 203 | 20 => 20 | 213 => 204 | 232 => 211 | 233 => 212 | 80 => 184 | n => n, fun | 15 => 0 | 16 => 1 | 17 => 2 | 18 => 3 | 19 => 4 | n => n⟩
theorem Tryd.laysC174 : Go.Proofs.LaysC.n174 Tryd.prog Tryd.laysC174_ren := {
  mixed := by kernel_rfl
  f129 := Tryd.func160.trans (congrArg some (by kernel_rfl))
  f171 := Tryd.func98.trans (congrArg some (by kernel_rfl))
  f174 := Tryd.func97.trans (congrArg some (by kernel_rfl))
  f205 := Tryd.func154.trans (congrArg some (by kernel_rfl))
  f243 := Tryd.func121.trans (congrArg some (by kernel_rfl))
  f245 := Tryd.func120.trans (congrArg some (by kernel_rfl))
  f246 := Tryd.func132.trans (congrArg some (by kernel_rfl))
  f247 := Tryd.func119.trans (congrArg some (by kernel_rfl))
  f279 := Tryd.func135.trans (congrArg some (by kernel_rfl))
  f280 := Tryd.func136.trans (congrArg some (by kernel_rfl))
  f281 := Tryd.func137.trans (congrArg some (by kernel_rfl))
  f282 := Tryd.func138.trans (congrArg some (by kernel_rfl))
  f283 := Tryd.func147.trans (congrArg some (by kernel_rfl))
  f284 := Tryd.func148.trans (congrArg some (by kernel_rfl))
  f285 := Tryd.func149.trans (congrArg some (by kernel_rfl))
  f286 := Tryd.func150.trans (congrArg some (by kernel_rfl))
  f287 := Tryd.func134.trans (congrArg some (by kernel_rfl))
  f316 := Tryd.func153.trans (congrArg some (by kernel_rfl))
  f317 := Tryd.func159.trans (congrArg some (by kernel_rfl))
  f318 := Tryd.func161.trans (congrArg some (by kernel_rfl))
  f319 := Tryd.func162.trans (congrArg some (by kernel_rfl))
  f320 := Tryd.func163.trans (congrArg some (by kernel_rfl))
  f321 := Tryd.func151.trans (congrArg some (by kernel_rfl))
  f322 := Tryd.func152.trans (congrArg some (by kernel_rfl))
  f337 := Tryd.func165.trans (congrArg some (by kernel_rfl))
  f338 := Tryd.func166.trans (congrArg some (by kernel_rfl))
  t0 := Tryd.underlying0
  a0 := Tryd.isAgg0
  z0 := Tryd.sizeOf0
  v0 := Tryd.zeroValue0
  t2 := Tryd.underlying2
  a2 := Tryd.isAgg2
  z2 := Tryd.sizeOf2
  v2 := Tryd.zeroValue2
  t3 := Tryd.underlying3
  a3 := Tryd.isAgg3
  z3 := Tryd.sizeOf3
  v3 := Tryd.zeroValue3
  t4 := Tryd.underlying4
  a4 := Tryd.isAgg4
  z4 := Tryd.sizeOf4
  v4 := Tryd.zeroValue4
  t5 := Tryd.underlying5
  a5 := Tryd.isAgg5
  z5 := Tryd.sizeOf5
  v5 := Tryd.zeroValue5
  t9 := Tryd.underlying9
  a9 := Tryd.isAgg9
  z9 := Tryd.sizeOf9
  v9 := Tryd.zeroValue9
  t20 := Tryd.underlying20
  a20 := Tryd.isAgg20
  z20 := Tryd.sizeOf20
  v20 := Tryd.zeroValue20
  t21 := Tryd.underlying21
  a21 := Tryd.isAgg21
  z21 := Tryd.sizeOf21
  v21 := Tryd.zeroValue21
  t37 := Tryd.underlying190
  a37 := Tryd.isAgg190
  z37 := Tryd.sizeOf190
  v37 := Tryd.zeroValue190
  t46 := Tryd.underlying179
  a46 := Tryd.isAgg179
  z46 := Tryd.sizeOf179
  v46 := Tryd.zeroValue179
  t51 := Tryd.underlying203
  a51 := Tryd.isAgg203
  z51 := Tryd.sizeOf203
  v51 := Tryd.zeroValue203
  t53 := Tryd.underlying176
  a53 := Tryd.isAgg176
  z53 := Tryd.sizeOf176
  v53 := Tryd.zeroValue176
  t75 := Tryd.underlying153
  a75 := Tryd.isAgg153
  z75 := Tryd.sizeOf153
  v75 := Tryd.zeroValue153
  t85 := Tryd.underlying154
  a85 := Tryd.isAgg154
  z85 := Tryd.sizeOf154
  v85 := Tryd.zeroValue154
  t127 := Tryd.underlying206
  a127 := Tryd.isAgg206
  z127 := Tryd.sizeOf206
  v127 := Tryd.zeroValue206
  t143 := Tryd.underlying207
  a143 := Tryd.isAgg207
  z143 := Tryd.sizeOf207
  v143 := Tryd.zeroValue207
  t145 := Tryd.underlying209
  a145 := Tryd.isAgg209
  z145 := Tryd.sizeOf209
  v145 := Tryd.zeroValue209
  t167 := Tryd.underlying175
  a167 := Tryd.isAgg175
  z167 := Tryd.sizeOf175
  v167 := Tryd.zeroValue175
  t168 := Tryd.underlying180
  a168 := Tryd.isAgg180
  z168 := Tryd.sizeOf180
  v168 := Tryd.zeroValue180
  t171 := Tryd.underlying187
  a171 := Tryd.isAgg187
  z171 := Tryd.sizeOf187
  v171 := Tryd.zeroValue187
  t173 := Tryd.underlying191
  a173 := Tryd.isAgg191
  z173 := Tryd.sizeOf191
  v173 := Tryd.zeroValue191
  t175 := Tryd.underlying177
  a175 := Tryd.isAgg177
  z175 := Tryd.sizeOf177
  v175 := Tryd.zeroValue177
  t210 := Tryd.underlying195
  a210 := Tryd.isAgg195
  z210 := Tryd.sizeOf195
  v210 := Tryd.zeroValue195
  t212 := Tryd.underlying202
  a212 := Tryd.isAgg202
  z212 := Tryd.sizeOf202
  v212 := Tryd.zeroValue202
  t213 := Tryd.underlying204
  a213 := Tryd.isAgg204
  z213 := Tryd.sizeOf204
  t232 := Tryd.underlying211
  a232 := Tryd.isAgg211
  z232 := Tryd.sizeOf211
  v232 := Tryd.zeroValue211
  t233 := Tryd.underlying212
  a233 := Tryd.isAgg212
  z233 := Tryd.sizeOf212
  v233 := Tryd.zeroValue212
  g15 := by kernel_rfl
  g16 := by kernel_rfl
  g17 := by kernel_rfl
  g18 := by kernel_rfl
  g19 := by kernel_rfl
  t80 := Tryd.underlying184
  a80 := Tryd.isAgg184
  z80 := Tryd.sizeOf184
  v80 := Tryd.zeroValue184
  i0 := by kernel_rfl
  i2 := by kernel_rfl
  i3 := by kernel_rfl
  i4 := by kernel_rfl
  i5 := by kernel_rfl
  i9 := by kernel_rfl
  i20 := by kernel_rfl
  i21 := by kernel_rfl
  i37 := by kernel_rfl
  i46 := by kernel_rfl
  i51 := by kernel_rfl
  i53 := by kernel_rfl
  i75 := by kernel_rfl
  i80 := by kernel_rfl
  i85 := by kernel_rfl
  i127 := by kernel_rfl
  i143 := by kernel_rfl
  i145 := by kernel_rfl
  i167 := by kernel_rfl
  i168 := by kernel_rfl
  i171 := by kernel_rfl
  i173 := by kernel_rfl
  i175 := by kernel_rfl
  i210 := by kernel_rfl
  i212 := by kernel_rfl
  i232 := by kernel_rfl
  i233 := by kernel_rfl
  m15 := by kernel_rfl
  m16 := by kernel_rfl
  m17 := by kernel_rfl
  m18 := by kernel_rfl
  m19 := by kernel_rfl
  c0 := by kernel_rfl
  c2 := by kernel_rfl
  c3 := by kernel_rfl
  c4 := by kernel_rfl
  c5 := by kernel_rfl
  c9 := by kernel_rfl
  c20 := by kernel_rfl
  c21 := by kernel_rfl
  c37 := by kernel_rfl
  c46 := by kernel_rfl
  c51 := by kernel_rfl
  c53 := by kernel_rfl
  c75 := by kernel_rfl
  c80 := by kernel_rfl
  c85 := by kernel_rfl
  c127 := by kernel_rfl
  c143 := by kernel_rfl
  c145 := by kernel_rfl
  c167 := by kernel_rfl
  c168 := by kernel_rfl
  c171 := by kernel_rfl
  c173 := by kernel_rfl
  c175 := by kernel_rfl
  c210 := by kernel_rfl
  c212 := by kernel_rfl
  c213 := by kernel_rfl
  c232 := by kernel_rfl
  c233 := by kernel_rfl }
open Go.RowKit in
/-- strconv.ParseInt(s, 10, 32), AT EVERY STRING THAT SPELLS AN int32 ('Lib.parseIntB 32 s.data.toList = .ok v'): v, AND NO ERROR. (LAID: no walk: one application.) -/
theorem Tryd.strconv_ParseInt_10_at32_ok (s : ByteArray) (hmax : s.size ≤ 9223372036854775806) (v : Int) (h : Lib.parseIntB 32 s.data.toList = .ok v) (w : World) :
    Calls Tryd.prog 97 #[.string s, .int .i64 10, .int .i64 32] w fun e w' => e = .returned (.tuple #[.int .i64 v, .nilIface]) ∧ (w' = w ∨ ∃ t, w' = Lib.bytesWorld w 5 t) := Any.strconv_ParseInt_10_at32_ok Tryd.laysC174 s hmax v h w
open Go.RowKit in
/-- strconv.ParseInt(s, 10, 32), AT EVERY STRING THAT IS NO DECIMAL NUMERAL: 0, AND AN ERROR THAT IS NOT nil: a *NumError in a new block N: {Func: "ParseInt", Num: s's bytes, Err: what the variable ErrSyntax holds}. Of what was there nothing has turned. (LAID: no walk: one application.) -/
theorem Tryd.strconv_ParseInt_10_at32_syntax (s : ByteArray) (hlim : s.size ≤ 281474976710656) (h : Lib.parseIntB 32 s.data.toList = Lib.parseIntB 32 []) (ev : Value) (w : World) (hv : w.cell? ⟨0, 0, none⟩ = some ev) (hev : ev = .nilIface ∨ ∃ te pe, ev = .iface te pe) :
    Calls Tryd.prog 97 #[.string s, .int .i64 10, .int .i64 32] w fun e w' => ∃ N, e = .returned (.tuple #[.int .i64 (0), .iface 180 (.pointer (some ⟨N, 0, none⟩))]) ∧ w.heap.size ≤ N ∧ w'.heap[N]? = some (.cells #[.string ⟨#[80, 97, 114, 115, 101, 73, 110, 116]⟩, .string s, ev] 195 (0, 0)) ∧ Below w.heap.size w w' := Any.strconv_ParseInt_10_at32_syntax Tryd.laysC174 s hlim h ev w hv hev
open Go.RowKit in
/-- strconv.ParseInt(s, 10, 32), AT EVERY NUMERAL THAT NO int32 HOLDS: THE GREATEST OR THE LEAST int32, BY THE SIGN ('Lib.intSat 32'), AND AN ERROR THAT IS NOT nil: a *NumError in a new block N: {Func: "ParseInt", Num: s's bytes, Err: what the variable ErrRange holds}. Of what was there nothing has turned. (LAID: no walk: one application.) -/
theorem Tryd.strconv_ParseInt_10_at32_range (s : ByteArray) (hlim : s.size ≤ 281474976710656) (h : Lib.parseIntB 32 s.data.toList = .range) (ev : Value) (w : World) (hv : w.cell? ⟨1, 0, none⟩ = some ev) (hev : ev = .nilIface ∨ ∃ te pe, ev = .iface te pe) :
    Calls Tryd.prog 97 #[.string s, .int .i64 10, .int .i64 32] w fun e w' => ∃ N, e = .returned (.tuple #[.int .i64 (Lib.intSat 32 s.data.toList), .iface 180 (.pointer (some ⟨N, 0, none⟩))]) ∧ w.heap.size ≤ N ∧ w'.heap[N]? = some (.cells #[.string ⟨#[80, 97, 114, 115, 101, 73, 110, 116]⟩, .string s, ev] 195 (0, 0)) ∧ Below w.heap.size w w' := Any.strconv_ParseInt_10_at32_range Tryd.laysC174 s hlim h ev w hv hev
end Go.Proofs

namespace Go.Proofs
open Go Go.Duo
namespace Tryd
/-- What the package variables hold. -/
def gl : Nat → V
  | 0 => .dptr [.iface 207 (.dptr [.str [105, 110, 118, 97, 108, 105, 100, 32, 115, 121, 110, 116, 97, 120]])]
  | 1 => .dptr [.iface 207 (.dptr [.str [118, 97, 108, 117, 101, 32, 111, 117, 116, 32, 111, 102, 32, 114, 97, 110, 103, 101]])]
  | 2 => .dptr (Lib.pow10Tab.map (.int .u64))
  | _ => .undef
theorem itoa_spec (n : Int) (h0 : -9223372036854775808 ≤ n) (h1 : n ≤ 9223372036854775807) (st : List O) : Duo.Call Tryd.prog gl 98 [.int .i64 n] st (fun v st' => v = .str (Lib.itoa n) ∧ st' = st) := by
  refine Duo.Call.of_grow fun w s xs hst hs hxs => ?_
  obtain ⟨hl, hr⟩ := hxs
  match xs, hl with
  | [x], _ =>
    cases (hr 0 _ _ rfl rfl).int_inv
    refine (Tryd.strconv_Itoa n h0 h1 w (glob_tab hs (g := 2) (by kernel_rfl) rfl)).mono ?_
    rintro e w' ⟨rfl, k, os, rfl⟩
    exact ⟨Lib.below_grow _ w (Nat.le_refl _) k os, _, _, rfl, ⟨rfl, rfl⟩, fun _ _ => .pure _ _ (.str _)⟩
/-- What strconv.ParseInt(s, 10, 32) gives. -/
def parV (s : List UInt8) : V := match Lib.parseIntB 32 s with
  | .ok n => .tuple [.int .i64 n, .niliface]
  | .range => .tuple [.int .i64 (Lib.intSat 32 s), .iface 180 .undef]
  | _ => .tuple [.int .i64 0, .iface 180 .undef]
theorem ends (x : Lib.NumEnd Int) : (∃ n, x = .ok n) ∨ x = .range ∨ x = Lib.parseIntB 32 [] := by
  cases x
  · exact .inl ⟨_, rfl⟩
  · exact .inr (.inr rfl)
  · exact .inr (.inl rfl)
def parOK (s : List UInt8) : Bool := match Lib.parseIntB 32 s with | .ok _ => true | _ => false
def parN (s : List UInt8) : Int := match Lib.parseIntB 32 s with | .ok n => n | .range => Lib.intSat 32 s | _ => 0
def parE (s : List UInt8) : V := match Lib.parseIntB 32 s with | .ok _ => .niliface | _ => .iface 180 .undef
theorem parV_eq (s : List UInt8) : parV s = .tuple [.int .i64 (parN s), parE s] := by unfold parV parN parE; cases Lib.parseIntB 32 s <;> rfl
theorem ifc_par (s : List UInt8) (K : V → Prop) : ifcP Tryd.prog 153 .neq (parE s) K = K (.bool (!parOK s)) := by
  have h : isIfc Tryd.prog 153 = true := by kernel_rfl
  unfold ifcP parE parOK
  cases Lib.parseIntB 32 s <;> simp [h]
theorem par_ok {s : List UInt8} (h : parOK s = true) : Lib.parseIntB 32 s = .ok (parN s) := by
  unfold parOK at h; unfold parN
  rcases ends (Lib.parseIntB 32 s) with ⟨n, h'⟩ | h' | h'
  · rw [h']
  · rw [h'] at h; cases h
  · rw [h'] at h; cases h
theorem parN_ge {s : List UInt8} (h : parOK s = true) : -2147483648 ≤ parN s := by
  have h := par_ok h
  cases s with
  | nil => cases h
  | cons c r =>
    simp only [Lib.parseIntB] at h
    split at h
    · cases h
    · cases h
    · split at h
      · cases h
      · split at h
        · cases h
        · rename_i h1 h2
          cases h'' : parN (c :: r) <;> rw [h''] at h <;> simp only [Lib.NumEnd.ok.injEq] at h <;> split at h <;> omega
theorem par_of_ok {s : List UInt8} {n : Int} (h : Lib.parseIntB 32 s = .ok n) : parOK s = true ∧ n = parN s := by
  unfold parOK parN; rw [h]; exact ⟨rfl, rfl⟩
theorem parse_spec (s : List UInt8) (hs : s.length ≤ 281474976710656) (st : List O) : Duo.Call Tryd.prog gl 97 [.str s, .int .i64 10, .int .i64 32] st (fun v st' => v = parV s ∧ st' = st) := by
  refine Duo.Call.of_grow fun w sg xs hst hsim hxs => ?_
  obtain ⟨hl, hr⟩ := hxs
  match xs, hl with
  | [x, y, z], _ =>
    cases (hr 0 _ _ rfl rfl).str_inv
    cases (hr 1 _ _ rfl rfl).int_inv
    cases (hr 2 _ _ rfl rfl).int_inv
    have hsz : (⟨s.toArray⟩ : ByteArray).size = s.length := by simp [ByteArray.size]
    have hda : (⟨s.toArray⟩ : ByteArray).data.toList = s := by simp
    unfold parV
    rcases ends (Lib.parseIntB 32 s) with ⟨n, h⟩ | h | h
    rotate_left
    rotate_left
    · rw [h]
      obtain ⟨ev, hv, hev⟩ := glob_iface hsim (g := 0) rfl
      refine (Tryd.strconv_ParseInt_10_at32_syntax ⟨s.toArray⟩ (by rw [hsz]; exact hs) (by rw [hda]; exact h) ev w hv hev).mono ?_
      rintro e w' ⟨N, rfl, _, _, hb⟩
      refine ⟨hb, _, _, rfl, ⟨rfl, rfl⟩, fun w2 s2 => .tuple _ [_, _] rfl fun i c x hc hx => ?_⟩
      rcases i with _ | _ | i
      · simp at hc hx; subst hc hx; exact .pure _ _ (.int _ _)
      · simp at hc hx; subst hc hx; exact .iface _ _ _ (.undef _)
      · simp at hc
    rotate_left
    · rw [h]
      obtain ⟨ev, hv, hev⟩ := glob_iface hsim (g := 1) rfl
      refine (Tryd.strconv_ParseInt_10_at32_range ⟨s.toArray⟩ (by rw [hsz]; exact hs) (by rw [hda]; exact h) ev w hv hev).mono ?_
      rintro e w' ⟨N, rfl, _, _, hb⟩
      rw [hda]
      refine ⟨hb, _, _, rfl, ⟨rfl, rfl⟩, fun w2 s2 => .tuple _ [_, _] rfl fun i c x hc hx => ?_⟩
      rcases i with _ | _ | i
      · simp at hc hx; subst hc hx; exact .pure _ _ (.int _ _)
      · simp at hc hx; subst hc hx; exact .iface _ _ _ (.undef _)
      · simp at hc
    · rw [h]
      refine (Tryd.strconv_ParseInt_10_at32_ok ⟨s.toArray⟩ (by rw [hsz]; omega) n (by rw [hda]; exact h) w).mono ?_
      rintro e w' ⟨rfl, hw⟩
      refine ⟨?_, _, _, rfl, ⟨rfl, rfl⟩, fun w2 s2 => .tuple _ [_, _] rfl fun i c x hc hx => ?_⟩
      · rcases hw with rfl | ⟨t, rfl⟩
        · exact RowKit.Below.refl _ _
        · exact Lib.bytesWorld_below _ _ _
      · rcases i with _ | _ | i
        · simp at hc hx; subst hc hx; exact .pure _ _ (.int _ _)
        · simp at hc hx; subst hc hx; exact .pure _ _ .niliface
        · simp at hc
end Tryd
end Go.Proofs
