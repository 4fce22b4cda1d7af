/-
  The library functions that the lexers call, as calls of our logic; what the package variables hold.
-/
import Derived.Test.YtajdahnfnodoeaaDoorLexShelf
import Derived.Test.YtajdahnfnodoeaaDoorLexFacts
import Derived.Test.YtajdahnfnodoeaaDoorDLex2
import Derived.Test.YtajdahnfnodoeaaDoorDS
import Derived.Test.YtajdahnfnodoeaaDoorDTrod
import Derived.Lib.QuietBelow
import Derived.Lib.AtoiErrMem
import Derived.Lib.AppendIntMem
import Derived.Lib.IndexAny
set_option linter.all false
namespace Go.Duo
open Go
theorem or_32 (c : UInt8) : intE .or .u8 (c.toNat : Int) .u8 32 = some (.int .u8 ((c ||| 32).toNat : Int)) := by
  have h : ∀ x : UInt8, (IntKind.wrap .u8 ((BitVec.ofInt (IntKind.bits .u8) (x.toNat : Int) ||| BitVec.ofInt (IntKind.bits .u8) 32).toNat : Int)) = ((x ||| 32).toNat : Int) := fun x => by
    have := u8_all (fun c => decide (IntKind.wrap .u8 ((BitVec.ofInt (IntKind.bits .u8) (c.toNat : Int) ||| BitVec.ofInt (IntKind.bits .u8) 32).toNat : Int) = ((c ||| 32).toNat : Int))) (by decide +kernel) x
    exact of_decide_eq_true this
  simp only [intE, if_true]
  exact congrArg (fun n => some (V.int .u8 n)) (h c)
theorem wrap_i32 (x : UInt8) : IntKind.wrap .i32 (x.toNat : Int) = (x.toNat : Int) := by have := UInt8.toNat_lt x; exact IntWalk.i32_in _ ⟨by omega, by omega⟩
theorem let_eq (c : UInt8) : letB c = ((decide ((97 : Int) ≤ ((c ||| 32).toNat : Int)) && decide (((c ||| 32).toNat : Int) ≤ 122) && decide ((65 : Int) ≤ c.toNat)) || decide ((c.toNat : Int) = 95)) := by
  have := u8_all (fun c => letB c == ((decide ((97 : Int) ≤ ((c ||| 32).toNat : Int)) && decide (((c ||| 32).toNat : Int) ≤ 122) && decide ((65 : Int) ≤ c.toNat)) || decide ((c.toNat : Int) = 95))) (by decide +kernel) c
  simpa using this
theorem ixb_in (l : Str) (c : UInt8) : decide (0 ≤ Lib.indexByte l c) = decide (c ∈ l) := by
  rw [← Lib.contains_iff_indexByte]; simp
theorem getD_u8 (s : Str) (i : Nat) (u : UInt8) (h : i < s.length) : s.getD i u = s[i] := getD_ltI s i u h
end Go.Duo
namespace Go.Proofs
open Go Go.Duo
namespace Tryd
/-- What the package variables hold. -/
def gl : Nat → V
  | 0 => .dptr (KW.map .str)
  | 2 => .dptr [.iface 94 (.dptr [.str [105, 110, 118, 97, 108, 105, 100, 32, 115, 121, 110, 116, 97, 120]])]
  | 3 => .dptr [.iface 94 (.dptr [.str [118, 97, 108, 117, 101, 32, 111, 117, 116, 32, 111, 102, 32, 114, 97, 110, 103, 101]])]
  | _ => .undef
theorem gl0 (e : Env) : e.ev gl (.global 0) = .dptr (KW.map .str) := rfl
theorem ixb_spec (s : Str) (c : UInt8) (st : List O) : Duo.Call Tryd.prog gl 47 [.str s, .int .u8 c.toNat] st (fun v st' => v = .int .i64 (Lib.indexByte s c) ∧ st' = st) := by
  refine Duo.Call.of_grow fun w sg xs hst hs hxs => ?_
  obtain ⟨hl, hr⟩ := hxs
  match xs, hl with
  | [x, y], _ =>
    cases (hr 0 _ _ rfl rfl).str_inv
    cases (hr 1 _ _ rfl rfl).int_inv
    refine (Tryd.strings_IndexByte ⟨s.toArray⟩ (c.toNat : Int) w).mono ?_
    rintro e w' ⟨rfl, rfl⟩
    have hda : (⟨s.toArray⟩ : ByteArray).data.toList = s := by simp
    rw [hda]
    refine ⟨RowKit.Below.refl _ _, _, _, rfl, ⟨?_, rfl⟩, fun _ _ => .pure _ _ (.int _ _)⟩
    simp
theorem ends (x : Lib.NumEnd Int) : (∃ n, x = .ok n) ∨ x = .range ∨ x = Lib.parseIntB 64 [] := by
  cases x
  · exact .inl ⟨_, rfl⟩
  · exact .inr (.inr rfl)
  · exact .inr (.inl rfl)
def parOK (s : List UInt8) : Bool := match Lib.parseIntB 64 s with | .ok _ => true | _ => false
def parN (s : List UInt8) : Int := match Lib.parseIntB 64 s with | .ok n => n | .range => Lib.intSat 64 s | _ => 0
def parE (s : List UInt8) : V := match Lib.parseIntB 64 s with | .ok _ => .niliface | _ => .iface 85 .undef
def parV (s : List UInt8) : V := .tuple [.int .i64 (parN s), parE s]
theorem ifc_par (s : List UInt8) : ifcE Tryd.prog 69 .neq (parE s) = some (.bool (!parOK s)) := by
  have h : isIfc Tryd.prog 69 = true := by kernel_rfl
  unfold ifcE parE parOK
  rw [h]
  cases Lib.parseIntB 64 s <;> rfl
theorem par_ok {s : List UInt8} (h : parOK s = true) : Lib.parseIntB 64 s = .ok (parN s) := by
  unfold parOK at h; unfold parN
  rcases ends (Lib.parseIntB 64 s) with ⟨n, h'⟩ | h' | h'
  · rw [h']
  · rw [h'] at h; cases h
  · rw [h'] at h; cases h
theorem parse_spec (s : List UInt8) (hs : s.length ≤ 281474976710656) (st : List O) : Duo.Call Tryd.prog gl 46 [.str s, .int .i64 10, .int .i64 64] st (fun v st' => v = .tuple [.int .i64 (parN s), parE s] ∧ st' = st) := by
  refine Duo.Call.of_grow fun w sg xs hst hsim hxs => ?_
  obtain ⟨hl, hr⟩ := hxs
  match xs, hl with
  | [x, y, z], _ =>
    cases (hr 0 _ _ rfl rfl).str_inv
    cases (hr 1 _ _ rfl rfl).int_inv
    cases (hr 2 _ _ rfl rfl).int_inv
    have hsz : (⟨s.toArray⟩ : ByteArray).size = s.length := by simp [ByteArray.size]
    have hda : (⟨s.toArray⟩ : ByteArray).data.toList = s := by simp
    unfold parN parE
    rcases ends (Lib.parseIntB 64 s) with ⟨n, h⟩ | h | h
    rotate_left
    rotate_left
    · rw [h]
      obtain ⟨ev, hv, hev⟩ := glob_iface hsim (g := 2) rfl
      refine (Tryd.strconv_ParseInt_10_at64_syntax ⟨s.toArray⟩ (by rw [hsz]; exact hs) (by rw [hda]; exact h) ev w hv hev).mono ?_
      rintro e w' ⟨N, rfl, _, _, hb⟩
      refine ⟨hb, _, _, rfl, ⟨rfl, rfl⟩, fun w2 s2 => .tuple _ [_, _] rfl fun i c x hc hx => ?_⟩
      rcases i with _ | _ | i
      · simp at hc hx; subst hc hx; exact .pure _ _ (.int _ _)
      · simp at hc hx; subst hc hx; exact .iface _ _ _ (.undef _)
      · simp at hc
    rotate_left
    · rw [h]
      obtain ⟨ev, hv, hev⟩ := glob_iface hsim (g := 3) rfl
      refine (Tryd.strconv_ParseInt_10_at64_range ⟨s.toArray⟩ (by rw [hsz]; exact hs) (by rw [hda]; exact h) ev w hv hev).mono ?_
      rintro e w' ⟨N, rfl, _, _, hb⟩
      rw [hda]
      refine ⟨hb, _, _, rfl, ⟨rfl, rfl⟩, fun w2 s2 => .tuple _ [_, _] rfl fun i c x hc hx => ?_⟩
      rcases i with _ | _ | i
      · simp at hc hx; subst hc hx; exact .pure _ _ (.int _ _)
      · simp at hc hx; subst hc hx; exact .iface _ _ _ (.undef _)
      · simp at hc
    · rw [h]
      refine (Tryd.strconv_ParseInt_10_at64_ok ⟨s.toArray⟩ (by rw [hsz]; omega) n (by rw [hda]; exact h) w).mono ?_
      rintro e w' ⟨rfl, hw⟩
      refine ⟨?_, _, _, rfl, ⟨rfl, rfl⟩, fun w2 s2 => .tuple _ [_, _] rfl fun i c x hc hx => ?_⟩
      · rcases hw with rfl | ⟨t, rfl⟩
        · exact RowKit.Below.refl _ _
        · exact Lib.bytesWorld_below _ _ _
      · rcases i with _ | _ | i
        · simp at hc hx; subst hc hx; exact .pure _ _ (.int _ _)
        · simp at hc hx; subst hc hx; exact .pure _ _ .niliface
        · simp at hc
/-- Texts, joined. -/
theorem join_spec (l : List Str) (sep : Str) (hn : l.length ≤ 140737488355328) (hlen : (Lib.join l sep).length ≤ 140737488355328) (st : List O) :
    Duo.Call Tryd.prog gl 31 [.sl (l.map .str) none, .str sep] st (fun v st' => v = .str (Lib.join l sep) ∧ st' = st) := by
  refine Duo.Call.of_grow fun w sg xs hst hsim hxs => ?_
  obtain ⟨hl, hr⟩ := hxs
  match xs, hl with
  | [x, y], _ =>
    have h0 := (hr 0 _ _ rfl rfl).sl_inv
    cases (hr 1 _ _ rfl rfl).str_inv
    have hda : (⟨sep.toArray⟩ : ByteArray).data.toList = sep := by simp
    cases h0 with
    | sl es a cap sz xs' hcap hmax hsz h1 hc h =>
      cases l with
      | nil =>
        refine (Tryd.strings_Join_none a cap ⟨sep.toArray⟩ w).mono ?_
        rintro e w' ⟨rfl, rfl⟩
        exact ⟨RowKit.Below.refl _ _, _, _, rfl, ⟨rfl, rfl⟩, fun _ _ => .pure _ _ (.str _)⟩
      | cons t l =>
        have hfl : flat ((t :: l).map V.str) = (t :: l).map V.str := by
          generalize t :: l = m
          induction m with
          | nil => rfl
          | cons a m ih => rw [List.map_cons, flat_cons, ih]; rfl
        rw [hfl] at hc h
        obtain ⟨b, o, ha, hcell0⟩ := hc 0 (.str t) rfl
        subst ha
        have hstr : ∀ (j : Nat) (x : Str), (t :: l)[j]? = some x → w.cell? ⟨b, o + j, none⟩ = some (.string ⟨x.toArray⟩) := fun j x hj => by
          have hj' : ((t :: l).map V.str)[j]? = some (.str x) := by rw [List.getElem?_map, hj]; rfl
          obtain ⟨b', o', he, hcl⟩ := hc j _ hj'
          simp only [Option.some.injEq, Addr.mk.injEq, and_true] at he
          obtain ⟨rfl, rfl⟩ := he
          have h4 := h j _ hj'
          rw [hcl.1]
          congr 1
          generalize xs' j = z at h4
          cases h4; rfl
        have hblk : b < w.heap.size := (cell_spot (hstr 0 t rfl)).2
        have hmap : ((t :: l).map fun x => (⟨x.toArray⟩ : ByteArray)).map (·.data.toList) = t :: l := by
          rw [List.map_map]; exact (List.map_congr_left fun x _ => by simp).trans (List.map_id _)
        have key := Tryd.strings_Join b o cap ((t :: l).map fun x => (⟨x.toArray⟩ : ByteArray)) ⟨sep.toArray⟩ w (fun j x hj => by
            rw [List.getElem?_map] at hj
            cases hh : (t :: l)[j]? with
            | none => rw [hh] at hj; cases hj
            | some y => rw [hh] at hj; simp only [Option.map_some, Option.some.injEq] at hj; rw [← hj]; exact hstr j y hh) hblk (by simpa using hn) (by simpa using hcap) (by rw [hmap, hda]; exact hlen)
        rw [hmap, hda, List.length_map] at key
        rw [List.length_map]
        refine key.mono ?_
        rintro e w' ⟨rfl, hb⟩
        exact ⟨hb, _, _, rfl, ⟨rfl, rfl⟩, fun _ _ => .pure _ _ (.str _)⟩
theorem kw_take : (KW.map V.str).take 10 = KW.map V.str := rfl
theorem kw_len : KW.length = 10 := rfl
theorem kw_one : (KW.map V.str).all V.one = true := rfl
attribute [go_sem] encK_cells encF_cells kw_take kw_len kw_one u8_45 u8_48 u8_35 u8_10 u8_43 u8_eq gl0 ixb_in getD_u8 wrap_i32
attribute [go_sem ↓] or_32
attribute [go_sem] ifc_par
end Tryd
end Go.Proofs
