/-
  A part of the proof.
-/
import Derived.Test.YtmjngcfigfkafaaDoorData
import Derived.Test.YtmjngcfigfkafaaDoorDShelf
import Derived.Test.YtmjngcfigfkafaaDoorDKit
import Derived.Test.YtmjngcfigfkafaaDoorSS
import Derived.Test.YtmjngcfigfkafaaDoorFrz
import Derived.Lib.ParseIntBCases
import Derived.Lib.Join
set_option linter.all false
namespace Go.Duo
open Go
def letB (c : UInt8) : Bool := (decide (65 ≤ c.toNat) && decide (c.toNat ≤ 90)) || (decide (97 ≤ c.toNat) && decide (c.toNat ≤ 122)) || decide (c.toNat = 95)
def wordB (c : UInt8) : Bool := letB c || dig c
structure Tok where
  kind : Int
  text : Str
  n : Int
  at_ : Int
  deriving DecidableEq
abbrev LexR := Except (Int × Int) (List Tok)
section
variable {s : Str} {a : Nat}
theorem drop_at (h : a < s.length) : s.drop a = s[a] :: s.drop (a + 1) := List.drop_eq_getElem_cons h
end
def isWord : Str → Bool
  | [] => false
  | c :: r => letB c && r.all wordB
theorem u8_all (p : UInt8 → Bool) (h : ((List.range 256).all fun n => p (UInt8.ofNat n)) = true) (c : UInt8) : p c = true := by
  have h1 := List.all_eq_true.1 h c.toNat (List.mem_range.2 (UInt8.toNat_lt c))
  rwa [UInt8.ofNat_toNat] at h1
end Go.Duo

namespace Go.Duo
open Go
section
variable {s : Str} {a : Nat}
end
end Go.Duo
namespace Go.Duo
open Go
def Tok.zero : Tok := ⟨0, [], 0, 0⟩
section
variable {s : Str} {a : Nat}
end
theorem u8_45 (c : UInt8) : ((c.toNat : Int) = 45) = (c = 45) := propext ⟨fun h => UInt8.toNat.inj (by simpa using (show c.toNat = 45 by omega)), fun h => by rw [h]; rfl⟩
theorem u8_48 (c : UInt8) : ((c.toNat : Int) = 48) = (c = 48) := propext ⟨fun h => UInt8.toNat.inj (by simpa using (show c.toNat = 48 by omega)), fun h => by rw [h]; rfl⟩
theorem u8_35 (c : UInt8) : ((c.toNat : Int) = 35) = (c = 35) := propext ⟨fun h => UInt8.toNat.inj (by simpa using (show c.toNat = 35 by omega)), fun h => by rw [h]; rfl⟩
theorem u8_10 (c : UInt8) : ((c.toNat : Int) = 10) = (c = 10) := propext ⟨fun h => UInt8.toNat.inj (by simpa using (show c.toNat = 10 by omega)), fun h => by rw [h]; rfl⟩
theorem u8_43 (c : UInt8) : ((c.toNat : Int) = 43) = (c = 43) := propext ⟨fun h => UInt8.toNat.inj (by simpa using (show c.toNat = 43 by omega)), fun h => by rw [h]; rfl⟩
theorem u8_eq (c d : UInt8) : ((c.toNat : Int) = (d.toNat : Int)) = (c = d) := propext ⟨fun h => UInt8.toNat.inj (by omega), fun h => by rw [h]⟩
section
variable {s : Str} {a : Nat}
end
def KW : List Str := [[100, 101, 102], [109, 97, 105, 110], [115, 116, 111, 112], [110, 101, 119], [105, 110, 116], [98, 111, 111, 108], [101, 110, 100], [114, 101, 99], [116, 114, 117, 101], [102, 97, 108, 115, 101]]
def nameB (s : Str) : Bool := isWord s && !decide (s ∈ KW)
theorem take_at {α : Type} {l : List α} {i : Nat} (h : i < l.length) : l.take (i + 1) = l.take i ++ [l[i]] := by rw [List.take_append_getElem]
end Go.Duo

namespace Go.Duo
open Go
def Ty.kind : Ty → Int | .mk k _ _ _ _ _ => k
def Ty.prio : Ty → Int | .mk _ p _ _ _ _ => p
def Ty.name : Ty → Str | .mk _ _ n _ _ _ => n
def Ty.shift : Ty → Int | .mk _ _ _ s _ _ => s
def Ty.labels : Ty → List Str | .mk _ _ _ _ l _ => l
def Ty.kids : Ty → List Ty | .mk _ _ _ _ _ ks => ks
def Pr.var : Pr → Str | .mk _ _ v _ _ _ _ => v
def Pr.args : Pr → List Vl | .mk _ _ _ _ a _ _ => a
def Pr.typ : Pr → Ty | .mk _ _ _ _ _ t _ => t
def Pr.kids : Pr → List Pr | .mk _ _ _ _ _ _ ks => ks
theorem encT_f0 (t : Ty) (u : V) : (encT t).cells.headD u = .int .i64 t.kind := by cases t; rw [encT_mk]; rfl
theorem encT_f1 (t : Ty) (u : V) : ((encT t).cells.drop 1).headD u = .int .i64 t.prio := by cases t; rw [encT_mk]; rfl
theorem encT_f2 (t : Ty) (u : V) : ((encT t).cells.drop 2).headD u = .str t.name := by cases t; rw [encT_mk]; rfl
theorem encT_f3 (t : Ty) (u : V) : ((encT t).cells.drop 3).headD u = .int .i64 t.shift := by cases t; rw [encT_mk]; rfl
theorem encT_f4 (t : Ty) (u : V) : ((encT t).cells.drop 4).headD u = .sl (t.labels.map .str) none := by cases t; rw [encT_mk]; rfl
theorem encT_f5 (t : Ty) (u : V) : ((encT t).cells.drop 5).headD u = .sl (t.kids.map encT) none := by cases t; rw [encT_mk]; rfl
theorem encP_f2 (p : Pr) (u : V) : ((encP p).cells.drop 2).headD u = .str p.var := by cases p; rw [encP_mk]; rfl
theorem encP_f4 (p : Pr) (u : V) : ((encP p).cells.drop 4).headD u = .sl (p.args.map encV) none := by cases p; rw [encP_mk]; rfl
theorem encP_f5 (p : Pr) : ((encP p).cells.drop 5).take 6 = (encT p.typ).cells := by
  cases p; rw [encP_mk, c_agg]; exact take_T _ _
theorem encP_f11 (p : Pr) (u : V) : ((encP p).cells.drop 11).headD u = .sl (p.kids.map encP) none := by
  obtain ⟨k, c, v, l, a, t, ks⟩ := p
  rw [encP_mk, c_agg]
  have h := drop_T t [.sl (ks.map encP) none]
  show (List.drop 6 ((encT t).cells ++ [.sl (ks.map encP) none])).headD u = _
  rw [h]; rfl
theorem encT_dlen (p : Ty) (n : Nat) : ((encT p).cells.drop n).length = 6 - n := by rw [List.length_drop, encT_len]
theorem encP_all (p : Pr) : encP p = .agg (.int .i64 p.kind :: .str p.chan :: .str p.var :: .sl (p.labels.map .str) none :: .sl (p.args.map encV) none :: ((encT p.typ).cells ++ [.sl (p.kids.map encP) none])) := by cases p; rw [encP_mk]; rfl
theorem encT_all (t : Ty) : encT t = .agg [.int .i64 t.kind, .int .i64 t.prio, .str t.name, .int .i64 t.shift, .sl (t.labels.map .str) none, .sl (t.kids.map encT) none] := by cases t; rw [encT_mk]; rfl
theorem encP_cells' (p : Pr) : (encP p).cells = .int .i64 p.kind :: .str p.chan :: .str p.var :: .sl (p.labels.map .str) none :: .sl (p.args.map encV) none :: ((encT p.typ).cells ++ [.sl (p.kids.map encP) none]) := by rw [encP_all]; rfl
theorem encT_cells' (t : Ty) : (encT t).cells = [.int .i64 t.kind, .int .i64 t.prio, .str t.name, .int .i64 t.shift, .sl (t.labels.map .str) none, .sl (t.kids.map encT) none] := by rw [encT_all]; rfl
theorem fieldE_T (P : Program) (t : TypeId) (f : Nat) (x : Ty) : fieldE P t f (encT x) = match fld P t f with | none => none | some (off, n, g) => if off + n ≤ 6 then some (pack g n ((encT x).cells.drop off)) else none := by
  rw [← encT_cells x]; unfold fieldE; simp only [c_agg, encT_len]; cases fld P t f <;> rfl
theorem fieldE_P (P : Program) (t : TypeId) (f : Nat) (x : Pr) : fieldE P t f (encP x) = match fld P t f with | none => none | some (off, n, g) => if off + n ≤ 12 then some (pack g n ((encP x).cells.drop off)) else none := by
  rw [← encP_cells x]; unfold fieldE; simp only [c_agg, encP_len]; cases fld P t f <;> rfl
theorem fieldE_V (P : Program) (t : TypeId) (f : Nat) (x : Vl) : fieldE P t f (encV x) = match fld P t f with | none => none | some (off, n, g) => if off + n ≤ 3 then some (pack g n ((encV x).cells.drop off)) else none := by
  unfold encV fieldE; simp only [c_agg, List.length_cons, List.length_nil]; rfl
theorem encV_len (v : Vl) : (encV v).cells.length = 3 := rfl
theorem encV_one (v : Vl) : (encV v).cells.all V.one = true := rfl
theorem encV_pureB (v : Vl) : (encV v).cells.all pureB = true := rfl
theorem encV_bare (v : Vl) : (encV v).bare = encV v := rfl
theorem encV_fold (v : Vl) : V.agg [.int .i64 v.kind, .str v.name, .int .i64 v.n] = encV v := rfl
theorem encV_take (v : Vl) (l : List V) : ((encV v).cells ++ l).take 3 = (encV v).cells := by rw [encV_cells]; rfl
theorem encV_at (l : List Vl) (i : Nat) (h : i < (l.map encV).length) : (l.map encV)[i] = encV (l[i]'(by simpa using h)) := List.getElem_map ..
theorem str_at (l : List Str) (i : Nat) (h : i < (l.map V.str).length) : (l.map V.str)[i] = V.str (l[i]'(by simpa using h)) := List.getElem_map ..
theorem encT_trim (t : Ty) (k : Nat) : (encT t).trim k = encT t := by cases t; rw [encT_mk]; rfl
theorem encT_trimL (t : Ty) (k : Nat) : (encT t).cells.map (V.trim k) = (encT t).cells := by cases t; rw [encT_mk]; rfl
theorem encP_trimL (p : Pr) (k : Nat) : (encP p).cells.map (V.trim k) = (encP p).cells := by
  rw [encP_cells', List.map_cons, List.map_cons, List.map_cons, List.map_cons, List.map_cons, List.map_append, encT_trimL]; rfl
theorem trimL_map (k : Nat) (l : List V) : V.trim.trimL k l = l.map (V.trim k) := by
  induction l with
  | nil => rfl
  | cons x l ih => rw [V.trim.trimL, ih]; rfl
theorem encP_trim (p : Pr) (k : Nat) : (encP p).trim k = encP p := by
  rw [← encP_cells p]; show V.agg (V.trim.trimL k (encP p).cells) = _; rw [trimL_map, encP_trimL]
structure Pm where
  name : Str
  t : Ty
structure Df where
  name : Str
  params : List Pm
  body : Pr
structure Pg where
  defs : List Df
  main : Pr
def encPm (x : Pm) : V := .agg (.str x.name :: (encT x.t).cells)
def encDf (d : Df) : V := .agg (.str d.name :: .sl (d.params.map encPm) none :: (encP d.body).cells)
def encPg (p : Pg) : V := .agg (.sl (p.defs.map encDf) none :: (encP p.main).cells)
theorem encPm_cells (x : Pm) : (encPm x).cells = .str x.name :: (encT x.t).cells := rfl
theorem encDf_cells (x : Df) : (encDf x).cells = .str x.name :: .sl (x.params.map encPm) none :: (encP x.body).cells := rfl
theorem encPg_cells (p : Pg) : (encPg p).cells = .sl (p.defs.map encDf) none :: (encP p.main).cells := rfl
theorem encPm_at (l : List Pm) (i : Nat) (h : i < (l.map encPm).length) : (l.map encPm)[i] = encPm (l[i]'(by simpa using h)) := List.getElem_map ..
theorem encDf_at (l : List Df) (i : Nat) (h : i < (l.map encDf).length) : (l.map encDf)[i] = encDf (l[i]'(by simpa using h)) := List.getElem_map ..
theorem encPm_agg (x : Pm) : V.agg (.str x.name :: (encT x.t).cells) = encPm x := rfl
theorem encDf_agg (x : Df) : V.agg (.str x.name :: .sl (x.params.map encPm) none :: (encP x.body).cells) = encDf x := rfl
theorem fieldE_Pg (P : Program) (t : TypeId) (f : Nat) (x : Pg) : fieldE P t f (encPg x) = match fld P t f with | none => none | some (off, n, g) => if off + n ≤ 13 then some (pack g n ((encPg x).cells.drop off)) else none := by
  unfold encPg fieldE; simp only [c_agg, List.length_cons, encP_len]; cases fld P t f <;> rfl
theorem fieldE_Df (P : Program) (t : TypeId) (f : Nat) (x : Df) : fieldE P t f (encDf x) = match fld P t f with | none => none | some (off, n, g) => if off + n ≤ 14 then some (pack g n ((encDf x).cells.drop off)) else none := by
  unfold encDf fieldE; simp only [c_agg, List.length_cons, encP_len]; cases fld P t f <;> rfl
theorem encPg_trimL (p : Pg) (k : Nat) : (encPg p).cells.map (V.trim k) = (encPg p).cells := by rw [encPg_cells, List.map_cons, encP_trimL]; rfl
theorem encDf_trimL (p : Df) (k : Nat) : (encDf p).cells.map (V.trim k) = (encDf p).cells := by rw [encDf_cells, List.map_cons, List.map_cons, encP_trimL]; rfl
theorem encPm_trimL (p : Pm) (k : Nat) : (encPm p).cells.map (V.trim k) = (encPm p).cells := by rw [encPm_cells, List.map_cons, encT_trimL]; rfl
theorem Ty.ind' {p : Ty → Prop} (h : ∀ t : Ty, (∀ u ∈ t.kids, p u) → p t) (t : Ty) : p t := Ty.ind (fun k pr n s l ks ih => h _ ih) t
theorem Pr.ind' {p : Pr → Prop} (h : ∀ t : Pr, (∀ u ∈ t.kids, p u) → p t) (t : Pr) : p t := Pr.ind (fun k c v l a t ks ih => h _ ih) t
mutual
def Ty.sz : Ty → Nat
  | .mk _ _ _ _ _ ks => 1 + Ty.szs ks
def Ty.szs : List Ty → Nat
  | [] => 0
  | t :: ts => t.sz + Ty.szs ts
end
mutual
def Ty.dp : Ty → Nat
  | .mk _ _ _ _ _ ks => Ty.dps ks + 1
def Ty.dps : List Ty → Nat
  | [] => 0
  | t :: ts => max t.dp (Ty.dps ts)
end
mutual
def Pr.sz : Pr → Nat
  | .mk _ _ _ _ _ _ ks => 1 + Pr.szs ks
def Pr.szs : List Pr → Nat
  | [] => 0
  | t :: ts => t.sz + Pr.szs ts
end
mutual
def Pr.dp : Pr → Nat
  | .mk _ _ _ _ _ _ ks => Pr.dps ks + 1
def Pr.dps : List Pr → Nat
  | [] => 0
  | t :: ts => max t.dp (Pr.dps ts)
end
mutual
def Pr.tz : Pr → Nat
  | .mk k _ _ _ _ t ks => (if k = 6 then t.sz else 0) + Pr.tzs ks
def Pr.tzs : List Pr → Nat
  | [] => 0
  | t :: ts => t.tz + Pr.tzs ts
end
theorem Ty.sz_eq (t : Ty) : t.sz = 1 + Ty.szs t.kids := by cases t; rw [Ty.sz]; rfl
theorem Ty.dp_eq (t : Ty) : t.dp = Ty.dps t.kids + 1 := by cases t; rw [Ty.dp]; rfl
theorem Pr.sz_eq (t : Pr) : t.sz = 1 + Pr.szs t.kids := by cases t; rw [Pr.sz]; rfl
theorem Pr.dp_eq (t : Pr) : t.dp = Pr.dps t.kids + 1 := by cases t; rw [Pr.dp]; rfl
theorem Pr.tz_eq (t : Pr) : t.tz = (if t.kind = 6 then t.typ.sz else 0) + Pr.tzs t.kids := by cases t; rw [Pr.tz]; rfl
section
/-- Sums and maxima along a list. -/
theorem take_snoc {α : Type} {l : List α} {i : Nat} (h : i < l.length) : l.take (i + 1) = l.take i ++ [l[i]] := by rw [List.take_succ, List.getElem?_eq_getElem h]; rfl
theorem Ty.szs_app (a b : List Ty) : Ty.szs (a ++ b) = Ty.szs a + Ty.szs b := by induction a with | nil => simp [Ty.szs] | cons x a ih => rw [List.cons_append, Ty.szs, Ty.szs, ih]; omega
theorem Ty.dps_app (a b : List Ty) : Ty.dps (a ++ b) = max (Ty.dps a) (Ty.dps b) := by induction a with | nil => simp [Ty.dps] | cons x a ih => rw [List.cons_append, Ty.dps, Ty.dps, ih]; omega
theorem Pr.szs_app (a b : List Pr) : Pr.szs (a ++ b) = Pr.szs a + Pr.szs b := by induction a with | nil => simp [Pr.szs] | cons x a ih => rw [List.cons_append, Pr.szs, Pr.szs, ih]; omega
theorem Pr.dps_app (a b : List Pr) : Pr.dps (a ++ b) = max (Pr.dps a) (Pr.dps b) := by induction a with | nil => simp [Pr.dps] | cons x a ih => rw [List.cons_append, Pr.dps, Pr.dps, ih]; omega
theorem Pr.tzs_app (a b : List Pr) : Pr.tzs (a ++ b) = Pr.tzs a + Pr.tzs b := by induction a with | nil => simp [Pr.tzs] | cons x a ih => rw [List.cons_append, Pr.tzs, Pr.tzs, ih]; omega
theorem Ty.szs_take {l : List Ty} {i : Nat} (h : i < l.length) : Ty.szs (l.take (i + 1)) = Ty.szs (l.take i) + l[i].sz := by rw [take_snoc h, Ty.szs_app]; simp [Ty.szs]
theorem Ty.dps_take {l : List Ty} {i : Nat} (h : i < l.length) : Ty.dps (l.take (i + 1)) = max (Ty.dps (l.take i)) l[i].dp := by rw [take_snoc h, Ty.dps_app]; simp [Ty.dps]
theorem Pr.szs_take {l : List Pr} {i : Nat} (h : i < l.length) : Pr.szs (l.take (i + 1)) = Pr.szs (l.take i) + l[i].sz := by rw [take_snoc h, Pr.szs_app]; simp [Pr.szs]
theorem Pr.dps_take {l : List Pr} {i : Nat} (h : i < l.length) : Pr.dps (l.take (i + 1)) = max (Pr.dps (l.take i)) l[i].dp := by rw [take_snoc h, Pr.dps_app]; simp [Pr.dps]
theorem Pr.tzs_take {l : List Pr} {i : Nat} (h : i < l.length) : Pr.tzs (l.take (i + 1)) = Pr.tzs (l.take i) + l[i].tz := by rw [take_snoc h, Pr.tzs_app]; simp [Pr.tzs]
theorem Ty.szs_le {l : List Ty} (i : Nat) : Ty.szs (l.take i) ≤ Ty.szs l := by have h := Ty.szs_app (l.take i) (l.drop i); rw [List.take_append_drop] at h; omega
theorem Pr.szs_le {l : List Pr} (i : Nat) : Pr.szs (l.take i) ≤ Pr.szs l := by have h := Pr.szs_app (l.take i) (l.drop i); rw [List.take_append_drop] at h; omega
theorem Pr.tzs_le {l : List Pr} (i : Nat) : Pr.tzs (l.take i) ≤ Pr.tzs l := by have h := Pr.tzs_app (l.take i) (l.drop i); rw [List.take_append_drop] at h; omega
theorem Ty.szs_mem {l : List Ty} {t : Ty} (h : t ∈ l) : t.sz ≤ Ty.szs l := by
  obtain ⟨i, hi, rfl⟩ := List.mem_iff_getElem.1 h
  have h1 := Ty.szs_take hi; have h2 := Ty.szs_le (l := l) (i + 1); omega
theorem Pr.szs_mem {l : List Pr} {t : Pr} (h : t ∈ l) : t.sz ≤ Pr.szs l := by
  obtain ⟨i, hi, rfl⟩ := List.mem_iff_getElem.1 h
  have h1 := Pr.szs_take hi; have h2 := Pr.szs_le (l := l) (i + 1); omega
theorem Pr.tzs_mem {l : List Pr} {t : Pr} (h : t ∈ l) : t.tz ≤ Pr.tzs l := by
  obtain ⟨i, hi, rfl⟩ := List.mem_iff_getElem.1 h
  have h1 := Pr.tzs_take hi; have h2 := Pr.tzs_le (l := l) (i + 1); omega
theorem Ty.dps_mem {l : List Ty} {t : Ty} (h : t ∈ l) : t.dp ≤ Ty.dps l := by
  obtain ⟨i, hi, rfl⟩ := List.mem_iff_getElem.1 h
  have h1 := Ty.dps_take hi
  have h2 : Ty.dps (l.take (i + 1)) ≤ Ty.dps l := by
    conv => rhs; rw [← List.take_append_drop (i + 1) l, Ty.dps_app]
    omega
  omega
theorem Pr.dps_mem {l : List Pr} {t : Pr} (h : t ∈ l) : t.dp ≤ Pr.dps l := by
  obtain ⟨i, hi, rfl⟩ := List.mem_iff_getElem.1 h
  have h1 := Pr.dps_take hi
  have h2 : Pr.dps (l.take (i + 1)) ≤ Pr.dps l := by
    conv => rhs; rw [← List.take_append_drop (i + 1) l, Pr.dps_app]
    omega
  omega
theorem Ty.szs_len (l : List Ty) : l.length ≤ Ty.szs l := by induction l with | nil => simp | cons t l ih => rw [Ty.szs, List.length_cons, Ty.sz_eq]; omega
theorem Pr.szs_len (l : List Pr) : l.length ≤ Pr.szs l := by induction l with | nil => simp | cons t l ih => rw [Pr.szs, List.length_cons, Pr.sz_eq]; omega
theorem Ty.dp_le : ∀ t : Ty, t.dp ≤ t.sz := Ty.ind' fun t ih => by
  rw [Ty.dp_eq, Ty.sz_eq]
  have : ∀ l : List Ty, (∀ u ∈ l, u.dp ≤ u.sz) → Ty.dps l ≤ Ty.szs l := by
    intro l; induction l with
    | nil => intro _; simp [Ty.dps]
    | cons u l ihl => intro h; rw [Ty.dps, Ty.szs]; have h1 := h u (List.mem_cons_self ..); have h2 := ihl fun v hv => h v (List.mem_cons_of_mem _ hv); omega
  have := this t.kids ih; omega
theorem Pr.dp_le : ∀ t : Pr, t.dp ≤ t.sz := Pr.ind' fun t ih => by
  rw [Pr.dp_eq, Pr.sz_eq]
  have : ∀ l : List Pr, (∀ u ∈ l, u.dp ≤ u.sz) → Pr.dps l ≤ Pr.szs l := by
    intro l; induction l with
    | nil => intro _; simp [Pr.dps]
    | cons u l ihl => intro h; rw [Pr.dps, Pr.szs]; have h1 := h u (List.mem_cons_self ..); have h2 := ihl fun v hv => h v (List.mem_cons_of_mem _ hv); omega
  have := this t.kids ih; omega
end
mutual
def leftT : Ty → Int → Int
  | .mk _ _ _ _ _ ks, m => leftTs ks (m - 1)
def leftTs : List Ty → Int → Int
  | [], m => m
  | t :: ts, m => if 0 ≤ m then leftTs ts (leftT t m) else m
end
theorem leftT_eq (t : Ty) (m : Int) : leftT t m = leftTs t.kids (m - 1) := by cases t; rw [leftT]; rfl
theorem leftT_spec : ∀ t : Ty, ∀ m : Int, 0 ≤ m → -1 ≤ leftT t m ∧ leftT t m < m ∧ (0 ≤ leftT t m → leftT t m = m - t.sz) := Ty.ind' fun t ih m hm => by
  rw [leftT_eq, Ty.sz_eq]
  have key : ∀ l : List Ty, (∀ u ∈ l, ∀ m : Int, 0 ≤ m → -1 ≤ leftT u m ∧ leftT u m < m ∧ (0 ≤ leftT u m → leftT u m = m - u.sz)) → ∀ m : Int, -1 ≤ m → -1 ≤ leftTs l m ∧ leftTs l m ≤ m ∧ (0 ≤ leftTs l m → leftTs l m = m - Ty.szs l) := by
    intro l; induction l with
    | nil => intro _ m hm; simp only [leftTs, Ty.szs]; omega
    | cons u l ihl =>
      intro h m hm
      rw [leftTs, Ty.szs]
      split
      · rename_i h0
        have h1 := h u (List.mem_cons_self ..) m h0
        have h2 := ihl (fun v hv => h v (List.mem_cons_of_mem _ hv)) (leftT u m) h1.1
        refine ⟨h2.1, by omega, fun h3 => ?_⟩
        have h4 := h2.2.2 h3
        have h5 : 0 ≤ leftT u m := by omega
        have h6 := h1.2.2 h5
        omega
      · omega
  have h := key t.kids ih (m - 1) (by omega)
  refine ⟨h.1, by omega, fun h3 => ?_⟩
  have h4 := h.2.2 h3
  omega
def fewTy (t : Ty) (m : Int) : Bool := decide (0 ≤ leftT t m) && decide (t.dp ≤ 150)
attribute [go_sem] encT_trim encT_trimL encP_trim encP_trimL encPg_trimL encDf_trimL encPm_trimL encT_f0 encT_f1 encT_f2 encT_f3 encT_f4 encT_f5 encP_f2 encP_f4 encP_f5 encP_f11 encT_dlen encV_len encV_one encV_pureB encV_bare encV_fold encV_take encV_at str_at encPm_cells encDf_cells encPm_at encDf_at encPm_agg encDf_agg encV_cells encPg_cells
attribute [go_sem high] fieldE_T fieldE_P fieldE_V fieldE_Pg fieldE_Df
end Go.Duo

namespace Go.Duo
open Go
/-- The first error of a list. -/
def firstE : List Int → Int
  | [] => 0
  | e :: r => if e = 0 then firstE r else e
theorem firstE_zero : ∀ l : List Int, firstE l = 0 ↔ ∀ e ∈ l, e = 0 := by
  intro l; induction l with
  | nil => simp [firstE]
  | cons e l ih => rw [firstE]; by_cases h : e = 0 <;> simp [h, ih]
theorem firstE_at {α : Type} {f : α → Int} {l : List α} {i : Nat} (hi : i < l.length) (h : ∀ (j : Nat) (hj : j < i), f (l[j]'(by omega)) = 0) (he : ¬ f l[i] = 0) : firstE (l.map f) = f l[i] := by
  induction l generalizing i with
  | nil => simp at hi
  | cons a l ih =>
    rw [List.map_cons, firstE]
    cases i with
    | zero => exact if_neg he
    | succ i =>
      rw [if_pos (show f a = 0 from h 0 (by omega))]
      exact ih (by simpa using hi) (fun j hj => h (j + 1) (by omega)) he
theorem firstE_all {α : Type} {f : α → Int} {l : List α} {i : Nat} (hi : l.length ≤ i) (h : ∀ (j : Nat) (hj : j < l.length), j < i → f l[j] = 0) : firstE (l.map f) = 0 := by
  rw [firstE_zero]
  intro e he
  obtain ⟨x, hx, rfl⟩ := List.mem_map.1 he
  obtain ⟨j, hj, rfl⟩ := List.mem_iff_getElem.1 hx
  exact h j hj (by omega)
def labelsB (l : List Str) : Bool := decide (∀ (j : Nat) (hj : j < l.length), nameB l[j] = true ∧ l[j] ∉ l.take j)
theorem labelsB_no1 {l : List Str} {i : Nat} (h : i < l.length) (hn : nameB l[i] = false) : labelsB l = false := by
  unfold labelsB; rw [decide_eq_false]; intro hh; have := (hh i h).1; rw [hn] at this; cases this
theorem labelsB_no2 {l : List Str} {i : Nat} (h : i < l.length) (hn : l[i] ∈ l.take i) : labelsB l = false := by
  unfold labelsB; rw [decide_eq_false]; intro hh; exact (hh i h).2 hn
theorem labelsB_yes {l : List Str} {i : Nat} (hi : l.length ≤ i) (h : ∀ (j : Nat) (hj : j < l.length), j < i → nameB l[j] = true ∧ l[j] ∉ l.take j) : labelsB l = true := by
  unfold labelsB; rw [decide_eq_true]; intro j hj; exact h j hj (by omega)
def prioB (n : Int) : Bool := decide (0 ≤ n) && decide (n ≤ 1000000)
def shapeB (t : Ty) : Bool :=
  if t.kind = 1 ∨ t.kind = 2 ∨ t.kind = 3 then decide (t.prio = 0) && (decide (t.name = []) && (decide (t.shift = 0) && (decide (t.labels.length = 0) && decide (t.kids.length = 0))))
  else if t.kind = 4 ∨ t.kind = 5 then prioB t.prio && (decide (t.name = []) && (decide (t.shift = 0) && (decide (t.labels.length = 0) && decide (t.kids.length = 2))))
  else if t.kind = 6 ∨ t.kind = 7 then prioB t.prio && (decide (t.name = []) && (decide (t.shift = 0) && (decide (0 < t.labels.length) && (labelsB t.labels && decide (t.kids.length = t.labels.length)))))
  else if t.kind = 8 then decide (t.prio = 0) && (nameB t.name && (decide (t.shift = 0) && (decide (t.labels.length = 0) && decide (t.kids.length = 1))))
  else if t.kind = 9 then decide (t.prio = 0) && (nameB t.name && (prioB t.shift && (decide (t.labels.length = 0) && decide (t.kids.length = 0))))
  else false
def sessB (t : Ty) : Bool := decide (t.kind ≠ 1) && decide (t.kind ≠ 2)
/-- A variable under binders: j: how many of them are looked at still. -/
def varE (names : List Str) (n : Str) (g : Nat) : Nat → Int
  | 0 => 4
  | j + 1 => if names[j]? = some n then (if j < g then 0 else 3) else varE names n g j
mutual
def nodeT : Ty → List Str → Nat → Bool → Int
  | .mk k p n s l ks, names, g, se =>
    if shapeB (.mk k p n s l ks) = false ∨ (se = true ∧ sessB (.mk k p n s l ks) = false) then 3
    else if k = 9 then varE names n g names.length
    else if k = 8 then nodeT1 ks (names ++ [n]) g
    else nodeTs ks names (decide (5 < k))
def nodeT1 : List Ty → List Str → Nat → Int
  | [], _, _ => 0
  | t :: _, names, g => nodeT t names g true
def nodeTs : List Ty → List Str → Bool → Int
  | [], _, _ => 0
  | t :: ts, names, b => if nodeT t names names.length b = 0 then nodeTs ts names true else nodeT t names names.length b
end
theorem nodeT_eq (t : Ty) (names : List Str) (g : Nat) (se : Bool) : nodeT t names g se = if shapeB t = false ∨ (se = true ∧ sessB t = false) then 3
    else if t.kind = 9 then varE names t.name g names.length else if t.kind = 8 then nodeT1 t.kids (names ++ [t.name]) g else nodeTs t.kids names (decide (5 < t.kind)) := by
  cases t; rw [nodeT]; rfl
theorem nodeTs_at {l : List Ty} {names : List Str} {b : Bool} {i : Nat} (h : i < l.length) : nodeTs (l.drop i) names b = if nodeT l[i] names names.length b = 0 then nodeTs (l.drop (i + 1)) names true else nodeT l[i] names names.length b := by
  rw [List.drop_eq_getElem_cons h, nodeTs]
theorem nodeTs_end {l : List Ty} {names : List Str} {b : Bool} {i : Nat} (h : l.length ≤ i) : nodeTs (l.drop i) names b = 0 := by
  rw [List.drop_eq_nil_of_le h, nodeTs]
def rightT (t : Ty) : Int := if 100 < t.dp ∨ 10000 < t.sz then 2 else nodeT t [] 0 false
def valueB (v : Vl) : Bool := (decide (v.kind = 1) && (nameB v.name && decide (v.n = 0))) || (decide (v.kind = 2) && decide (v.name = [])) || (decide (v.kind = 3) && (decide (v.name = []) && (decide (v.n = 0) || decide (v.n = 1))))
def Ty.zero : Ty := .mk 0 0 [] 0 [] []
def plainB (p : Pr) : Bool := sameT p.typ Ty.zero
def nodeB (p : Pr) : Bool := p.args.all valueB &&
  if p.kind = 1 then decide (p.chan = []) && (decide (p.var = []) && (decide (p.args.length = 0) && (decide (p.labels.length = 0) && (decide (p.kids.length = 0) && plainB p))))
  else if p.kind = 2 then nameB p.chan && (decide (p.var = []) && (decide (p.args.length = 1) && (decide (p.labels.length = 0) && (decide (p.kids.length = 1) && plainB p))))
  else if p.kind = 3 then nameB p.chan && (nameB p.var && (decide (p.args.length = 0) && (decide (p.labels.length = 0) && (decide (p.kids.length = 1) && plainB p))))
  else if p.kind = 4 then nameB p.chan && (decide (p.var = []) && (decide (p.args.length = 0) && (decide (p.labels.length = 1) && (nameB (p.labels.headD []) && (decide (p.kids.length = 1) && plainB p)))))
  else if p.kind = 5 then nameB p.chan && (decide (p.var = []) && (decide (p.args.length = 0) && (decide (0 < p.labels.length) && (labelsB p.labels && (decide (p.kids.length = p.labels.length) && plainB p)))))
  else if p.kind = 6 then nameB p.chan && (nameB p.var && (decide (p.chan ≠ p.var) && (decide (p.args.length = 0) && (decide (p.labels.length = 0) && (decide (p.kids.length = 1) && (decide (rightT p.typ = 0) && sessB p.typ))))))
  else if p.kind = 7 then p.kids.all (fun q => decide (q.kind ≠ 7)) && (decide (p.chan = []) && (decide (p.var = []) && (decide (p.args.length = 0) && (decide (p.labels.length = 0) && (decide (2 ≤ p.kids.length) && plainB p)))))
  else if p.kind = 8 then nameB p.chan && (decide (p.var = []) && (decide (p.labels.length = 0) && (decide (p.kids.length = 0) && plainB p)))
  else false
mutual
def nodesB : Pr → Bool
  | .mk k c v l a t ks => nodeB (.mk k c v l a t ks) && nodesBs ks
def nodesBs : List Pr → Bool
  | [] => true
  | p :: ps => nodesB p && nodesBs ps
end
theorem nodesB_eq (p : Pr) : nodesB p = (nodeB p && nodesBs p.kids) := by cases p; rw [nodesB]; rfl
theorem nodesBs_eq (l : List Pr) : nodesBs l = l.all nodesB := by induction l with | nil => rfl | cons p l ih => rw [nodesBs, List.all_cons, ih]
def rightP (p : Pr) : Int := if 100 < p.dp ∨ 10000 < p.sz then 2 else if nodesB p = true then 0 else 3
def Df.pz (d : Df) : Nat := (d.params.map fun x => x.t.sz).sum
def Pg.total (p : Pg) : Nat := p.main.sz + p.main.tz + (p.defs.map fun d => d.body.sz + d.body.tz + d.pz).sum
def paramE (x : Pm) : Bool := nameB x.name && decide (rightT x.t = 0)
def defE (d : Df) : Bool := nameB d.name && d.params.all paramE
def progE (p : Pg) : Int := if 10000 < p.total then 2 else
  if firstE (p.defs.map fun d => rightP d.body) ≠ 0 then firstE (p.defs.map fun d => rightP d.body)
  else if rightP p.main ≠ 0 then rightP p.main else if p.defs.all defE = true then 0 else 3
mutual
def leftPr : Pr → Int → Int
  | .mk _ _ _ _ _ t ks, m => if fewTy t 300 = true then leftPrs ks (m - 1) else -1
def leftPrs : List Pr → Int → Int
  | [], m => m
  | t :: ts, m => if 0 ≤ m then leftPrs ts (leftPr t m) else m
end
theorem leftPr_eq (p : Pr) (m : Int) : leftPr p m = if fewTy p.typ 300 = true then leftPrs p.kids (m - 1) else -1 := by cases p; rw [leftPr]; rfl
def fewPr (p : Pr) (m : Int) : Bool := decide (0 ≤ leftPr p m) && decide (p.dp ≤ 150)
def littleB (p : Pg) (m : Int) : Bool := decide (p.defs.length ≤ 20) && (fewPr p.main m && p.defs.all fun d => fewPr d.body m && (decide (d.params.length ≤ 20) && d.params.all fun x => fewTy x.t 300))
def findI (l : List Df) (s : Str) : Int := match l.findIdx? (fun d => decide (d.name = s)) with | some i => (i : Int) | none => -1
def innerL (p : Pr) : List Str := if p.kind = 3 then [p.var] else if p.kind = 6 then [p.chan, p.var] else []
def preK (k : Int) : Bool := decide (2 ≤ k) && decide (k ≤ 5)
def callE (w : Pg) (c : Str) (n : Nat) (g : Bool) : Int :=
  match w.defs.findIdx? (fun d => decide (d.name = c)) with
  | none => 4
  | some i => match w.defs[i]? with
    | none => 4
    | some d => if d.params.length ≠ n then 6 else if g = false then 7 else 0
mutual
def nodeC (w : Pg) : Pr → List Str → Bool → Int
  | .mk k c v l a t ks, sc, g =>
    if preK k = true ∧ c ∉ sc then 4
    else if (a.any fun x => decide (x.kind = 1) && decide (x.name ∉ sc)) = true then 4
    else if ((innerL (.mk k c v l a t ks)).any fun x => decide (x ∈ sc)) = true then 5
    else if k = 8 ∧ callE w c a.length g ≠ 0 then callE w c a.length g
    else nodeCs w ks (sc ++ innerL (.mk k c v l a t ks)) (g || preK k)
def nodeCs (w : Pg) : List Pr → List Str → Bool → Int
  | [], _, _ => 0
  | p :: ps, sc, g => if nodeC w p sc g = 0 then nodeCs w ps sc g else nodeC w p sc g
end
theorem nodeC_eq (w : Pg) (p : Pr) (sc : List Str) (g : Bool) : nodeC w p sc g = if preK p.kind = true ∧ p.chan ∉ sc then 4
    else if (p.args.any fun x => decide (x.kind = 1) && decide (x.name ∉ sc)) = true then 4
    else if ((innerL p).any fun x => decide (x ∈ sc)) = true then 5
    else if p.kind = 8 ∧ callE w p.chan p.args.length g ≠ 0 then callE w p.chan p.args.length g
    else nodeCs w p.kids (sc ++ innerL p) (g || preK p.kind) := by cases p; rw [nodeC]; rfl
theorem nodeCs_eq (w : Pg) (l : List Pr) (sc : List Str) (g : Bool) : nodeCs w l sc g = firstE (l.map fun p => nodeC w p sc g) := by
  induction l with
  | nil => rfl
  | cons p l ih => rw [nodeCs, List.map_cons, firstE, ih]
def firstN (n : Nat) (f : Nat → Bool) : Option Nat := (List.range n).find? f
def dupD (p : Pg) (i : Nat) : Bool := match p.defs[i]? with
  | none => false
  | some d => decide (findI p.defs d.name < i) || decide (¬ (d.params.map Pm.name).Nodup)
def bodyE (p : Pg) (i : Nat) : Int := match p.defs[i]? with
  | none => 0
  | some d => nodeC p d.body (d.params.map Pm.name) false
def checkL (p : Pg) : Int × Int := if progE p ≠ 0 then (progE p, 0) else match firstN p.defs.length (dupD p) with
  | some i => (5, i)
  | none => match firstN p.defs.length (fun i => decide (bodyE p i ≠ 0)) with
    | some i => (bodyE p i, i)
    | none => (nodeC p p.main [] true, p.defs.length)
def rightPg (p : Pg) (m : Int) : Bool := littleB p m && decide ((checkL p).1 = 0)
theorem firstN_some {n i : Nat} {f : Nat → Bool} (hi : i < n) (h : ∀ j, j < i → f j = false) (hf : f i = true) : firstN n f = some i := by
  unfold firstN
  rw [List.find?_eq_some_iff_append]
  refine ⟨hf, List.range i, (List.range' (i + 1) (n - i - 1)), ?_, ?_⟩
  · rw [List.range_eq_range', List.range_eq_range', ← List.range'_succ]
    have h1 := List.range'_append (s := 0) (m := i) (n := n - i - 1 + 1) (step := 1)
    rw [Nat.zero_add, Nat.one_mul] at h1
    rw [h1]; congr 1; omega
  · intro a ha; simp [h a (List.mem_range.1 ha)]
theorem firstN_none {n i : Nat} {f : Nat → Bool} (hi : n ≤ i) (h : ∀ j, j < i → f j = false) : firstN n f = none := by
  unfold firstN
  rw [List.find?_eq_none]
  intro a ha; have := List.mem_range.1 ha; simp [h a (by omega)]
end Go.Duo

namespace Go.Duo
open Go
section
variable {st : List O}
theorem V.leS {es es' : List V} {t : Option Nat} (h : es = es') : V.le st (.sl es t) (.sl es' none) := h ▸ V.le_sl _ _ _
theorem V.le_aggL {cs ds : List V} (h : CLe st cs ds) : V.le st (.agg cs) (.agg ds) := V.le_agg h.spec.1 h.spec.2
theorem Ty.dps_le {l : List Ty} (i : Nat) : Ty.dps (l.take i) ≤ Ty.dps l := by have h := Ty.dps_app (l.take i) (l.drop i); rw [List.take_append_drop] at h; omega
theorem Pr.dps_le {l : List Pr} (i : Nat) : Pr.dps (l.take i) ≤ Pr.dps l := by have h := Pr.dps_app (l.take i) (l.drop i); rw [List.take_append_drop] at h; omega
theorem max_if (a b : Nat) : (if a < b then ((b : Nat) : Int) else ((a : Nat) : Int)) = ((max a b : Nat) : Int) := by split <;> omega
theorem max_ifI (a b : Nat) : (if (a : Int) < (b : Int) then ((b : Nat) : Int) else ((a : Nat) : Int)) = ((max a b : Nat) : Int) := by split <;> omega
end
def inI (n : Int) : Prop := -9223372036854775808 ≤ n ∧ n ≤ 9223372036854775807
def inS (s : Str) : Prop := s.length ≤ 9223372036854775807
def inL {α : Type} (l : List α) : Prop := l.length ≤ 9223372036854775807
mutual
def okT : Ty → Prop
  | .mk k p n s l ks => inI k ∧ inI p ∧ inS n ∧ inI s ∧ (inL l ∧ ∀ x ∈ l, inS x) ∧ inL ks ∧ okTs ks
def okTs : List Ty → Prop
  | [] => True
  | t :: ts => okT t ∧ okTs ts
end
def okV (v : Vl) : Prop := inI v.kind ∧ inS v.name ∧ inI v.n
mutual
def okP : Pr → Prop
  | .mk k c v l a t ks => inI k ∧ inS c ∧ inS v ∧ (inL l ∧ ∀ x ∈ l, inS x) ∧ (inL a ∧ ∀ x ∈ a, okV x) ∧ okT t ∧ inL ks ∧ okPs ks
def okPs : List Pr → Prop
  | [] => True
  | t :: ts => okP t ∧ okPs ts
end
theorem okTs_iff (l : List Ty) : okTs l ↔ ∀ t ∈ l, okT t := by induction l with | nil => simp [okTs] | cons t l ih => simp [okTs, ih]
theorem okPs_iff (l : List Pr) : okPs l ↔ ∀ t ∈ l, okP t := by induction l with | nil => simp [okPs] | cons t l ih => simp [okPs, ih]
theorem okT_iff (t : Ty) : okT t ↔ inI t.kind ∧ inI t.prio ∧ inS t.name ∧ inI t.shift ∧ (inL t.labels ∧ ∀ x ∈ t.labels, inS x) ∧ inL t.kids ∧ ∀ u ∈ t.kids, okT u := by cases t; rw [okT, okTs_iff]; rfl
theorem okP_iff (p : Pr) : okP p ↔ inI p.kind ∧ inS p.chan ∧ inS p.var ∧ (inL p.labels ∧ ∀ x ∈ p.labels, inS x) ∧ (inL p.args ∧ ∀ x ∈ p.args, okV x) ∧ okT p.typ ∧ inL p.kids ∧ ∀ u ∈ p.kids, okP u := by cases p; rw [okP, okPs_iff]; rfl
theorem okT.kid {t u : Ty} (h : okT t) (hu : u ∈ t.kids) : okT u := ((okT_iff t).1 h).2.2.2.2.2.2 u hu
theorem okP.kid {t u : Pr} (h : okP t) (hu : u ∈ t.kids) : okP u := ((okP_iff t).1 h).2.2.2.2.2.2.2 u hu
theorem okP.typ {t : Pr} (h : okP t) : okT t.typ := ((okP_iff t).1 h).2.2.2.2.2.1
theorem okT.name {t : Ty} (h : okT t) : t.name.length ≤ 9223372036854775807 := ((okT_iff t).1 h).2.2.1
theorem okT.labels {t : Ty} (h : okT t) : t.labels.length ≤ 9223372036854775807 ∧ ∀ x ∈ t.labels, x.length ≤ 9223372036854775807 := ((okT_iff t).1 h).2.2.2.2.1
theorem okP.chan {t : Pr} (h : okP t) : t.chan.length ≤ 9223372036854775807 := ((okP_iff t).1 h).2.1
theorem okP.var {t : Pr} (h : okP t) : t.var.length ≤ 9223372036854775807 := ((okP_iff t).1 h).2.2.1
theorem okP.labels {t : Pr} (h : okP t) : t.labels.length ≤ 9223372036854775807 ∧ ∀ x ∈ t.labels, x.length ≤ 9223372036854775807 := ((okP_iff t).1 h).2.2.2.1
theorem okP.args {t : Pr} (h : okP t) : t.args.length ≤ 9223372036854775807 ∧ ∀ x ∈ t.args, okV x := ((okP_iff t).1 h).2.2.2.2.1
theorem okV.name {v : Vl} (h : okV v) : v.name.length ≤ 9223372036854775807 := h.2.1
structure okPg (p : Pg) : Prop where
  main : okP p.main
  len : inL p.defs
  defs : ∀ d ∈ p.defs, inS d.name ∧ okP d.body ∧ inL d.params ∧ ∀ x ∈ d.params, inS x.name ∧ okT x.t
theorem leftTs_step {l : List Ty} {i : Nat} {a : Int} (h : i < l.length) (ha : 0 ≤ a) : leftTs (l.drop i) a = leftTs (l.drop (i + 1)) (leftT l[i] a) := by
  rw [List.drop_eq_getElem_cons h, leftTs, if_pos ha]
theorem leftTs_neg {l : List Ty} {a : Int} (ha : a < 0) : leftTs l a = a := by
  cases l with
  | nil => rfl
  | cons t l => rw [leftTs, if_neg (by omega)]
theorem leftTs_end {l : List Ty} {i : Nat} {a : Int} (h : l.length ≤ i) : leftTs (l.drop i) a = a := by rw [List.drop_eq_nil_of_le h, leftTs]
theorem leftPrs_step {l : List Pr} {i : Nat} {a : Int} (h : i < l.length) (ha : 0 ≤ a) : leftPrs (l.drop i) a = leftPrs (l.drop (i + 1)) (leftPr l[i] a) := by
  rw [List.drop_eq_getElem_cons h, leftPrs, if_pos ha]
theorem leftPrs_neg {l : List Pr} {a : Int} (ha : a < 0) : leftPrs l a = a := by
  cases l with
  | nil => rfl
  | cons t l => rw [leftPrs, if_neg (by omega)]
theorem leftPrs_end {l : List Pr} {i : Nat} {a : Int} (h : l.length ≤ i) : leftPrs (l.drop i) a = a := by rw [List.drop_eq_nil_of_le h, leftPrs]
theorem fewTy_sz {t : Ty} {m : Int} (hm : 0 ≤ m) (h : 0 ≤ leftT t m) : (t.sz : Int) ≤ m := by have h1 := (leftT_spec t m hm).2.2 h; omega
theorem leftPr_spec : ∀ t : Pr, ∀ m : Int, 0 ≤ m → -1 ≤ leftPr t m ∧ leftPr t m < m ∧ (0 ≤ leftPr t m → leftPr t m = m - t.sz) := Pr.ind' fun t ih m hm => by
  rw [leftPr_eq, Pr.sz_eq]
  have key : ∀ l : List Pr, (∀ u ∈ l, ∀ m : Int, 0 ≤ m → -1 ≤ leftPr u m ∧ leftPr u m < m ∧ (0 ≤ leftPr u m → leftPr u m = m - u.sz)) → ∀ m : Int, -1 ≤ m → -1 ≤ leftPrs l m ∧ leftPrs l m ≤ m ∧ (0 ≤ leftPrs l m → leftPrs l m = m - Pr.szs l) := by
    intro l; induction l with
    | nil => intro _ m hm; simp only [leftPrs, Pr.szs]; omega
    | cons u l ihl =>
      intro h m hm
      rw [leftPrs, Pr.szs]
      split
      · rename_i h0
        have h1 := h u (List.mem_cons_self ..) m h0
        have h2 := ihl (fun v hv => h v (List.mem_cons_of_mem _ hv)) (leftPr u m) h1.1
        refine ⟨h2.1, by omega, fun h3 => ?_⟩
        have h4 := h2.2.2 h3
        have h5 : 0 ≤ leftPr u m := by omega
        have h6 := h1.2.2 h5
        omega
      · omega
  split
  · have h := key t.kids ih (m - 1) (by omega)
    refine ⟨h.1, by omega, fun h3 => ?_⟩
    have h4 := h.2.2 h3
    omega
  · refine ⟨by omega, by omega, fun h => by omega⟩
theorem fewPr_sz {t : Pr} {m : Int} (hm : 0 ≤ m) (h : 0 ≤ leftPr t m) : (t.sz : Int) ≤ m := by have h1 := (leftPr_spec t m hm).2.2 h; omega
mutual
def tyS : Pr → Prop
  | .mk _ _ _ _ _ t ks => t.sz ≤ 300 ∧ tySs ks
def tySs : List Pr → Prop
  | [] => True
  | t :: ts => tyS t ∧ tySs ts
end
theorem tySs_iff (l : List Pr) : tySs l ↔ ∀ t ∈ l, tyS t := by induction l with | nil => simp [tySs] | cons t l ih => simp [tySs, ih]
theorem tyS_iff (p : Pr) : tyS p ↔ p.typ.sz ≤ 300 ∧ ∀ u ∈ p.kids, tyS u := by cases p; rw [tyS, tySs_iff]; rfl
theorem leftPrs_ge : ∀ (l : List Pr) (m : Int), -1 ≤ m → leftPrs l m ≤ m := by
  intro l; induction l with
  | nil => intro m _; rw [leftPrs]; omega
  | cons u l ih =>
    intro m hm; rw [leftPrs]; split
    · rename_i h0; have h1 := leftPr_spec u m h0; have := ih (leftPr u m) h1.1; omega
    · omega
theorem leftPr_tyS : ∀ t : Pr, ∀ m : Int, 0 ≤ m → 0 ≤ leftPr t m → tyS t := Pr.ind' fun t ih m hm h => by
  rw [leftPr_eq] at h
  split at h
  · rename_i hf
    rw [tyS_iff]
    simp only [fewTy, Bool.and_eq_true, decide_eq_true_eq] at hf
    have h300 := fewTy_sz (m := 300) (by omega) hf.1
    refine ⟨by omega, ?_⟩
    have key : ∀ l : List Pr, (∀ u ∈ l, ∀ m : Int, 0 ≤ m → 0 ≤ leftPr u m → tyS u) → ∀ m : Int, -1 ≤ m → 0 ≤ leftPrs l m → ∀ u ∈ l, tyS u := by
      intro l; induction l with
      | nil => intro _ _ _ _ u hu; cases hu
      | cons v l ihl =>
        intro hl m hm h u hu
        rw [leftPrs] at h
        split at h
        · rename_i h0
          have h1 := leftPr_spec v m h0
          have h2 := leftPrs_ge l (leftPr v m) h1.1
          rcases List.mem_cons.1 hu with rfl | hu
          · exact hl _ (List.mem_cons_self ..) m h0 (by omega)
          · exact ihl (fun w hw => hl w (List.mem_cons_of_mem _ hw)) _ h1.1 h u hu
        · omega
    exact key t.kids ih (m - 1) (by omega) h
  · omega
section
variable {α : Type}
theorem gall_at {p : α → Bool} {l : List α} {i : Nat} (h : i < l.length) : (l.drop i).all p = (p l[i] && (l.drop (i + 1)).all p) := by rw [List.drop_eq_getElem_cons h, List.all_cons]
theorem gall_yes {p : α → Bool} {l : List α} {i : Nat} {b : Bool} (hb : b = (l.drop i).all p) (h : i < l.length) (hp : p l[i] = true) : b = (l.drop (i + 1)).all p := by rw [hb, gall_at h, hp, Bool.true_and]
theorem gall_no {p : α → Bool} {l : List α} {i : Nat} {b : Bool} (hb : b = (l.drop i).all p) (h : i < l.length) (hp : p l[i] = false) : b = false := by rw [hb, gall_at h, hp, Bool.false_and]
theorem gall_end {p : α → Bool} {l : List α} {i : Nat} {b : Bool} (hb : b = (l.drop i).all p) (h : l.length ≤ i) : b = true := by rw [hb, List.drop_eq_nil_of_le h]; rfl
def sumN (f : α → Nat) (l : List α) : Nat := (l.map f).sum
theorem sumN_app (f : α → Nat) (a b : List α) : sumN f (a ++ b) = sumN f a + sumN f b := by simp [sumN]
theorem sumN_nil (f : α → Nat) : sumN f [] = 0 := rfl
theorem sumN_take {f : α → Nat} {l : List α} {i : Nat} (h : i < l.length) : sumN f (l.take (i + 1)) = sumN f (l.take i) + f l[i] := by rw [take_snoc h, sumN_app]; simp [sumN]
theorem sumN_le (f : α → Nat) (l : List α) (i : Nat) : sumN f (l.take i) ≤ sumN f l := by have h := sumN_app f (l.take i) (l.drop i); rw [List.take_append_drop] at h; omega
theorem sumN_bound {f : α → Nat} {c : Nat} : ∀ {l : List α}, (∀ x ∈ l, f x ≤ c) → sumN f l ≤ l.length * c := by
  intro l; induction l with
  | nil => intro _; simp [sumN]
  | cons a l ih =>
    intro h
    have h1 := ih fun x hx => h x (List.mem_cons_of_mem _ hx)
    have h2 := h a (List.mem_cons_self ..)
    simp only [sumN, List.map_cons, List.sum_cons, List.length_cons] at h1 ⊢
    rw [Nat.succ_mul]; omega
end
theorem hd_at {α : Type} {l : List α} {d : α} (h : 0 < l.length) : l.head?.getD d = l[0] := by cases l with | nil => simp at h | cons a l => rfl
def Pm.sz (x : Pm) : Nat := x.t.sz
def Df.wz (d : Df) : Nat := d.body.sz + d.body.tz + sumN Pm.sz d.params
theorem Pg.total_eq (p : Pg) : p.total = p.main.sz + p.main.tz + sumN Df.wz p.defs := rfl
theorem tyS_tz : ∀ t : Pr, tyS t → t.tz ≤ 300 * t.sz := Pr.ind' fun t ih h => by
  rw [tyS_iff] at h
  rw [Pr.tz_eq, Pr.sz_eq]
  have key : ∀ l : List Pr, (∀ u ∈ l, tyS u → u.tz ≤ 300 * u.sz) → (∀ u ∈ l, tyS u) → Pr.tzs l ≤ 300 * Pr.szs l := by
    intro l; induction l with
    | nil => intro _ _; simp [Pr.tzs]
    | cons u l ihl =>
      intro h1 h2
      rw [Pr.tzs, Pr.szs]
      have := h1 u (List.mem_cons_self ..) (h2 u (List.mem_cons_self ..))
      have := ihl (fun v hv => h1 v (List.mem_cons_of_mem _ hv)) fun v hv => h2 v (List.mem_cons_of_mem _ hv)
      omega
  have := key t.kids ih h.2
  split <;> omega
/-- The program is small. -/
structure smPg (p : Pg) : Prop where
  main : p.main.sz ≤ 1000 ∧ tyS p.main
  len : p.defs.length ≤ 20
  defs : ∀ d ∈ p.defs, (d.body.sz ≤ 1000 ∧ tyS d.body) ∧ d.params.length ≤ 20 ∧ ∀ x ∈ d.params, x.t.sz ≤ 300
theorem smPg.wz {p : Pg} (h : smPg p) {d : Df} (hd : d ∈ p.defs) : d.body.tz ≤ 300000 ∧ sumN Pm.sz d.params ≤ 6000 ∧ d.wz ≤ 307000 := by
  obtain ⟨h1, h2, h3⟩ := h.defs d hd
  have h4 := tyS_tz _ h1.2
  have h5 := sumN_bound (f := Pm.sz) (c := 300) h3
  have h6 : d.params.length * 300 ≤ 20 * 300 := Nat.mul_le_mul_right _ h2
  refine ⟨by omega, by omega, ?_⟩
  unfold Df.wz; omega
theorem smPg.tz {p : Pg} (h : smPg p) : p.main.tz ≤ 300000 ∧ sumN Df.wz p.defs ≤ 6140000 := by
  have h4 := tyS_tz _ h.main.2
  have h5 := sumN_bound (f := Df.wz) (c := 307000) fun d hd => (h.wz hd).2.2
  have h6 : p.defs.length * 307000 ≤ 20 * 307000 := Nat.mul_le_mul_right _ h.len
  have h7 := h.main.1
  exact ⟨by omega, by omega⟩
theorem progE_big {p : Pg} (h : 10000 < p.total) : progE p = 2 := by unfold progE; rw [if_pos h]
theorem progE_body {p : Pg} (h : ¬ 10000 < p.total) {i : Nat} (hi : i < p.defs.length) (hb : ∀ (j : Nat) (hj : j < p.defs.length), j < i → rightP (p.defs[j]).body = 0) (he : ¬ rightP (p.defs[i]).body = 0) : progE p = rightP (p.defs[i]).body := by
  have h1 := firstE_at (f := fun d : Df => rightP d.body) hi (fun j hj => hb j (by omega) hj) he
  unfold progE; rw [if_neg h, h1, if_pos he]
theorem progE_main {p : Pg} (h : ¬ 10000 < p.total) {i : Nat} (hi : p.defs.length ≤ i) (hb : ∀ (j : Nat) (hj : j < p.defs.length), j < i → rightP (p.defs[j]).body = 0) (he : ¬ rightP p.main = 0) : progE p = rightP p.main := by
  have h1 := firstE_all (f := fun d : Df => rightP d.body) hi hb
  unfold progE; rw [if_neg h, h1, if_neg (by simp), if_pos he]
theorem progE_defs {p : Pg} (h : ¬ 10000 < p.total) {i : Nat} (hi : p.defs.length ≤ i) (hb : ∀ (j : Nat) (hj : j < p.defs.length), j < i → rightP (p.defs[j]).body = 0) (he : rightP p.main = 0) : progE p = if p.defs.all defE = true then 0 else 3 := by
  have h1 := firstE_all (f := fun d : Df => rightP d.body) hi hb
  unfold progE; rw [if_neg h, h1, if_neg (by simp), if_neg (by rw [he]; simp)]
theorem defE_all (d : Df) : defE d = (nameB d.name && d.params.all paramE) := rfl
theorem paramE_eq (x : Pm) : paramE x = (nameB x.name && decide (rightT x.t = 0)) := rfl
def littleD (m : Int) (d : Df) : Bool := fewPr d.body m && (decide (d.params.length ≤ 20) && d.params.all fun x => fewTy x.t 300)
theorem littleB_eq (p : Pg) (m : Int) : littleB p m = (decide (p.defs.length ≤ 20) && (fewPr p.main m && p.defs.all (littleD m))) := rfl
section
variable {α : Type}
theorem gany_at {p : α → Bool} {l : List α} {i : Nat} (h : i < l.length) : (l.drop i).any p = (p l[i] || (l.drop (i + 1)).any p) := by rw [List.drop_eq_getElem_cons h, List.any_cons]
theorem gany_no {p : α → Bool} {l : List α} {i : Nat} {b : Bool} (hb : b = (l.drop i).any p) (h : i < l.length) (hp : p l[i] = false) : b = (l.drop (i + 1)).any p := by rw [hb, gany_at h, hp, Bool.false_or]
theorem gany_yes {p : α → Bool} {l : List α} {i : Nat} {b : Bool} (hb : b = (l.drop i).any p) (h : i < l.length) (hp : p l[i] = true) : b = true := by rw [hb, gany_at h, hp, Bool.true_or]
theorem gany_end {p : α → Bool} {l : List α} {i : Nat} {b : Bool} (hb : b = (l.drop i).any p) (h : l.length ≤ i) : b = false := by rw [hb, List.drop_eq_nil_of_le h]; rfl
end
theorem findI_some {l : List Df} {s : Str} {i : Nat} (hi : i < l.length) (h : ∀ (j : Nat) (hj : j < l.length), j < i → ¬ (l[j]).name = s) (he : (l[i]).name = s) : findI l s = (i : Int) := by
  have : l.findIdx? (fun d => decide (d.name = s)) = some i := by
    rw [List.findIdx?_eq_some_iff_getElem]
    exact ⟨hi, by simpa using he, fun j hj => by simpa using h j (by omega) hj⟩
  unfold findI; rw [this]
theorem findI_none {l : List Df} {s : Str} {i : Nat} (hi : l.length ≤ i) (h : ∀ (j : Nat) (hj : j < l.length), j < i → ¬ (l[j]).name = s) : findI l s = -1 := by
  have : l.findIdx? (fun d => decide (d.name = s)) = none := by
    rw [List.findIdx?_eq_none_iff]
    intro x hx
    obtain ⟨j, hj, rfl⟩ := List.mem_iff_getElem.1 hx
    simpa using h j hj (by omega)
  unfold findI; rw [this]
theorem findI_cases (l : List Df) (s : Str) : (findI l s = -1 ∧ l.findIdx? (fun d => decide (d.name = s)) = none) ∨ ∃ i : Nat, i < l.length ∧ findI l s = (i : Int) ∧ l.findIdx? (fun d => decide (d.name = s)) = some i := by
  unfold findI
  cases h : l.findIdx? (fun d => decide (d.name = s)) with
  | none => exact .inl ⟨rfl, rfl⟩
  | some i => exact .inr ⟨i, (List.findIdx?_eq_some_iff_getElem.1 h).1, rfl, rfl⟩
theorem findI_lt (l : List Df) (s : Str) : findI l s < l.length ∧ -1 ≤ findI l s := by
  rcases findI_cases l s with ⟨h, _⟩ | ⟨i, h1, h2, _⟩ <;> omega
theorem callE_neg {w : Pg} {c : Str} {n : Nat} {g : Bool} (h : findI w.defs c < 0) : callE w c n g = 4 := by
  rcases findI_cases w.defs c with ⟨_, h2⟩ | ⟨i, h1, h2, _⟩
  · unfold callE; rw [h2]
  · omega
theorem callE_pos {w : Pg} {c : Str} {n : Nat} {g : Bool} (h : 0 ≤ findI w.defs c) (hl : (findI w.defs c).toNat < w.defs.length) : callE w c n g = if (w.defs[(findI w.defs c).toNat]).params.length ≠ n then 6 else if g = false then 7 else 0 := by
  rcases findI_cases w.defs c with ⟨h1, _⟩ | ⟨i, h1, h2, h3⟩
  · omega
  · have h4 : (findI w.defs c).toNat = i := by omega
    unfold callE; rw [h3]; simp only [List.getElem?_eq_getElem h1]; simp only [h4]
theorem innerL_3 {t : Pr} (h : t.kind = 3) : innerL t = [t.var] := by unfold innerL; rw [if_pos h]
theorem innerL_6 {t : Pr} (h : t.kind = 6) : innerL t = [t.chan, t.var] := by unfold innerL; rw [if_neg (by omega), if_pos h]
theorem innerL_0 {t : Pr} (h : ¬ t.kind = 3) (h2 : ¬ t.kind = 6) : innerL t = [] := by unfold innerL; rw [if_neg h, if_neg h2]
theorem innerL_len (t : Pr) : (innerL t).length ≤ 2 := by unfold innerL; split <;> (try split) <;> simp
theorem inn_no {sc inn l : List Str} (hin : inn = sc ++ l) {i : Nat} (hi : inn.length ≤ i) (h : ∀ (k : Nat) (hk : k < inn.length), sc.length ≤ k → k < i → inn[k] ∉ sc) : (l.any fun x => decide (x ∈ sc)) = false := by
  subst hin
  rw [List.any_eq_false]
  intro x hx
  obtain ⟨j, hj, rfl⟩ := List.mem_iff_getElem.1 hx
  have h1 := h (sc.length + j) (by rw [List.length_append]; omega) (by omega) (by rw [List.length_append] at hi; omega)
  rw [List.getElem_append_right (by omega)] at h1
  simpa using h1
theorem inn_yes {sc inn l : List Str} (hin : inn = sc ++ l) {i : Nat} (hs : sc.length ≤ i) (hi : i < inn.length) (h : inn[i] ∈ sc) : (l.any fun x => decide (x ∈ sc)) = true := by
  subst hin
  rw [List.any_eq_true]
  rw [List.getElem_append_right hs] at h
  exact ⟨_, List.getElem_mem _, by simpa using h⟩
theorem nodeC_k1 {w : Pg} {t : Pr} {sc : List Str} {g : Bool} (h : 2 ≤ t.kind) (h2 : t.kind ≤ 5) (h3 : t.chan ∉ sc) : nodeC w t sc g = 4 := by
  rw [nodeC_eq, if_pos ⟨by unfold preK; simp [h, h2], h3⟩]
/-- The tests ahead of the last. -/
def okC (t : Pr) (sc : List Str) : Prop := ¬ (preK t.kind = true ∧ t.chan ∉ sc)
def argE (sc : List Str) (x : Vl) : Bool := decide (x.kind = 1) && decide (x.name ∉ sc)
theorem nodeC_eq2 (w : Pg) (p : Pr) (sc : List Str) (g : Bool) : nodeC w p sc g = if preK p.kind = true ∧ p.chan ∉ sc then 4
    else if p.args.any (argE sc) = true then 4
    else if ((innerL p).any fun x => decide (x ∈ sc)) = true then 5
    else if p.kind = 8 ∧ callE w p.chan p.args.length g ≠ 0 then callE w p.chan p.args.length g
    else nodeCs w p.kids (sc ++ innerL p) (g || preK p.kind) := nodeC_eq w p sc g
theorem nodeC_k2 {w : Pg} {t : Pr} {sc : List Str} {g : Bool} (h : okC t sc) (h2 : t.args.any (argE sc) = true) : nodeC w t sc g = 4 := by
  rw [nodeC_eq2, if_neg h, if_pos h2]
theorem nodeC_k3 {w : Pg} {t : Pr} {sc : List Str} {g : Bool} (h : okC t sc) (h2 : t.args.any (argE sc) = false) (h3 : ((innerL t).any fun x => decide (x ∈ sc)) = true) : nodeC w t sc g = 5 := by
  rw [nodeC_eq2, if_neg h, if_neg (by rw [h2]; simp), if_pos h3]
theorem nodeC_k4 {w : Pg} {t : Pr} {sc : List Str} {g : Bool} (h : okC t sc) (h2 : t.args.any (argE sc) = false) (h3 : ((innerL t).any fun x => decide (x ∈ sc)) = false) : nodeC w t sc g = if t.kind = 8 ∧ callE w t.chan t.args.length g ≠ 0 then callE w t.chan t.args.length g else firstE (t.kids.map fun p => nodeC w p (sc ++ innerL t) (g || preK t.kind)) := by
  rw [nodeC_eq2, if_neg h, if_neg (by rw [h2]; simp), if_neg (by rw [h3]; simp), nodeCs_eq]
theorem tfB {g : Bool} (h : g = true) (h2 : g = false) : False := by rw [h] at h2; cases h2
theorem gpre_lo {g : Bool} {k : Int} (hg : g = false) (h : k < 2) : (g || preK k) = false := by subst hg; unfold preK; rw [decide_eq_false (by omega)]; rfl
theorem gpre_mid {g : Bool} {k : Int} (hg : g = false) (h : 2 ≤ k) : (g || preK k) = decide (k ≤ 5) := by subst hg; unfold preK; rw [decide_eq_true h]; rfl
theorem gpre_t {g : Bool} {k : Int} (hg : g = true) : (g || preK k) = true := by subst hg; rfl
theorem nodeC_kid {w : Pg} {t : Pr} {sc inn : List Str} {g X : Bool} {m : Nat} (h : okC t sc) (h2 : t.args.any (argE sc) = false) (h3 : ((innerL t).any fun x => decide (x ∈ sc)) = false) (hin : inn = sc ++ innerL t) (h8 : t.kind = 8 → callE w t.chan t.args.length g = 0)
    (hX : (g || preK t.kind) = X) (hm : m < t.kids.length) (hp : ∀ (j : Nat) (hj : j < t.kids.length), j < m → nodeC w t.kids[j] inn (g || preK t.kind) = 0) (hb : ¬ nodeC w t.kids[m] inn X = 0) : nodeC w t sc g = nodeC w t.kids[m] inn X := by
  subst hin hX
  rw [nodeC_k4 h h2 h3, if_neg (fun ⟨a, b⟩ => b (h8 a))]
  exact firstE_at (f := fun p => nodeC w p (sc ++ innerL t) (g || preK t.kind)) hm (fun j hj => hp j (by omega) hj) hb
theorem nodeC_end {w : Pg} {t : Pr} {sc inn : List Str} {g : Bool} {m : Nat} (h : okC t sc) (h2 : t.args.any (argE sc) = false) (h3 : ((innerL t).any fun x => decide (x ∈ sc)) = false) (hin : inn = sc ++ innerL t) (h8 : t.kind = 8 → callE w t.chan t.args.length g = 0)
    (hm : t.kids.length ≤ m) (hp : ∀ (j : Nat) (hj : j < t.kids.length), j < m → nodeC w t.kids[j] inn (g || preK t.kind) = 0) : nodeC w t sc g = 0 := by
  subst hin
  rw [nodeC_k4 h h2 h3, if_neg (fun ⟨a, b⟩ => b (h8 a))]
  exact firstE_all (f := fun p => nodeC w p (sc ++ innerL t) (g || preK t.kind)) hm hp
theorem sameT_eq (a b : Ty) : sameT a b = (decide (a.kind = b.kind) && decide (a.prio = b.prio) && decide (a.name = b.name) && decide (a.shift = b.shift) && decide (a.labels = b.labels) && decide (a.kids.length = b.kids.length) && sameTs a.kids b.kids) := by
  cases a; cases b; rw [sameT]; rfl
theorem sameTs_at {a b : List Ty} {i : Nat} (h : i < a.length) (h2 : i < b.length) : sameTs (a.drop i) (b.drop i) = (sameT a[i] b[i] && sameTs (a.drop (i + 1)) (b.drop (i + 1))) := by
  rw [List.drop_eq_getElem_cons h, List.drop_eq_getElem_cons h2, sameTs]
theorem sameTs_end {a b : List Ty} {i : Nat} (h : a.length ≤ i) : sameTs (a.drop i) (b.drop i) = true := by
  rw [List.drop_eq_nil_of_le h]; cases b.drop i <;> rfl
theorem take_eq_step {α : Type} {a b : List α} {i : Nat} (h : a.take i = b.take i) (h1 : i < a.length) (h2 : i < b.length) (h3 : a[i] = b[i]) : a.take (i + 1) = b.take (i + 1) := by rw [take_snoc h1, take_snoc h2, h, h3]
theorem take_eq_end {α : Type} {a b : List α} {i : Nat} (h : a.take i = b.take i) (hl : a.length = b.length) (hi : a.length ≤ i) : a = b := by
  rwa [List.take_of_length_le hi, List.take_of_length_le (by omega)] at h
theorem ne_at {α : Type} {a b : List α} {i : Nat} (h1 : i < a.length) (h2 : i < b.length) (h3 : ¬ a[i] = b[i]) : ¬ a = b := by rintro rfl; exact h3 rfl
theorem all_str (l : List Str) : ((l.map V.str).all fun e => e.cells.length == 1) = true := by simp [V.cells]
theorem all_encT (l : List Ty) : ((l.map encT).all fun e => e.cells.length == 6) = true := by simp [encT_len]
theorem all_encP (l : List Pr) : ((l.map encP).all fun e => e.cells.length == 12) = true := by simp [encP_len]
theorem all_encV (l : List Vl) : ((l.map encV).all fun e => e.cells.length == 3) = true := by simp [encV_len]
theorem take_map_str (l : List Str) (i : Nat) : (l.map V.str).take i = (l.take i).map V.str := List.map_take.symm
theorem drop_map_str (l : List Str) (i : Nat) : (l.map V.str).drop i = (l.drop i).map V.str := List.map_drop.symm
theorem varE_hit {names : List Str} {n : Str} {g j : Nat} (h : j < names.length) (he : names[j] = n) : varE names n g (j + 1) = if j < g then 0 else 3 := by rw [varE, List.getElem?_eq_getElem h, he, if_pos rfl]
theorem varE_miss {names : List Str} {n : Str} {g j : Nat} (h : j < names.length) (he : ¬ names[j] = n) : varE names n g (j + 1) = varE names n g j := by rw [varE, List.getElem?_eq_getElem h, if_neg (by simpa using he)]
theorem shapeB_8 {t : Ty} (h : shapeB t = true) (h8 : t.kind = 8) : t.kids.length = 1 := by
  unfold shapeB at h; simp [h8] at h; exact h.2.2.2.2
theorem nodeT1_at {l : List Ty} {names : List Str} {g : Nat} (h : 0 < l.length) : nodeT1 l names g = nodeT l[0] names g true := by
  cases l with
  | nil => simp at h
  | cons t l => rw [nodeT1]; rfl
theorem kid_dp {t : Ty} {i : Nat} (h : i < t.kids.length) : (t.kids[i]).dp < t.dp := by have := Ty.dps_mem (List.getElem_mem h); rw [Ty.dp_eq t]; omega
theorem kid_sz {t : Ty} {i : Nat} (h : i < t.kids.length) : (t.kids[i]).sz < t.sz := by have := Ty.szs_mem (List.getElem_mem h); rw [Ty.sz_eq t]; omega
theorem kidP_dp {t : Pr} {i : Nat} (h : i < t.kids.length) : (t.kids[i]).dp < t.dp := by have := Pr.dps_mem (List.getElem_mem h); rw [Pr.dp_eq t]; omega
theorem kidP_sz {t : Pr} {i : Nat} (h : i < t.kids.length) : (t.kids[i]).sz < t.sz := by have := Pr.szs_mem (List.getElem_mem h); rw [Pr.sz_eq t]; omega
theorem ic0 (n : Nat) : ((n : Int) = 0) = (n = 0) := by simp
theorem ic1 (n : Nat) : ((n : Int) = 1) = (n = 1) := propext (by omega)
theorem ic2 (n : Nat) : ((n : Int) = 2) = (n = 2) := propext (by omega)
theorem ip0 (n : Nat) : ((0 : Int) < (n : Int)) = (0 < n) := propext (by omega)
theorem ip2 (n : Nat) : ((2 : Int) ≤ (n : Int)) = (2 ≤ n) := propext (by omega)
attribute [go_sem] ic0 ic1 ic2 ip0 ip2
attribute [go_sem] max_if max_ifI all_str all_encT all_encP all_encV take_map_str drop_map_str
end Go.Duo

namespace Go.Duo
open Go
def LETS : Str := [65, 66, 67, 68, 69, 70, 71, 72, 73, 74, 75, 76, 77, 78, 79, 80, 81, 82, 83, 84, 85, 86, 87, 88, 89, 90, 97, 98, 99, 100, 101, 102, 103, 104, 105, 106, 107, 108, 109, 110, 111, 112, 113, 114, 115, 116, 117, 118, 119, 120, 121, 122, 95]
def DIGS : Str := [48, 49, 50, 51, 52, 53, 54, 55, 56, 57]
theorem let_in (c : UInt8) : decide (c ∈ LETS) = letB c := by
  have := u8_all (fun c => decide (c ∈ LETS) == letB c) (by decide +kernel) c
  simpa using this
theorem dig_in (c : UInt8) : decide (c ∈ DIGS) = dig c := by
  have := u8_all (fun c => decide (c ∈ DIGS) == dig c) (by decide +kernel) c
  simpa using this
section
variable {s : Str} {a i : Nat}
theorem word_cons (h : 0 < s.length) (hl : letB s[0] = true) : isWord s = (s.drop 1).all wordB := by
  cases s with
  | nil => simp at h
  | cons c r => simp only [List.getElem_cons_zero] at hl; simp [isWord, hl]
theorem word_no (h : 0 < s.length) (hl : letB s[0] = false) : isWord s = false := by
  cases s with
  | nil => simp at h
  | cons c r => simp only [List.getElem_cons_zero] at hl; simp [isWord, hl]
theorem all_at {p : UInt8 → Bool} (h : i < s.length) : (s.drop i).all p = (p s[i] && (s.drop (i + 1)).all p) := by rw [drop_at h, List.all_cons]
theorem all_yes {p : UInt8 → Bool} {b : Bool} (hb : b = (s.drop i).all p) (h : i < s.length) (hp : p s[i] = true) : b = (s.drop (i + 1)).all p := by rw [hb, all_at h, hp, Bool.true_and]
theorem all_no {p : UInt8 → Bool} {b : Bool} (hb : b = (s.drop i).all p) (h : i < s.length) (hp : p s[i] = false) : b = false := by rw [hb, all_at h, hp, Bool.false_and]
theorem all_end' {p : UInt8 → Bool} {b : Bool} (hb : b = (s.drop i).all p) (h : s.length ≤ i) : b = true := by rw [hb, List.drop_eq_nil_of_le h]; rfl
end
def fd (s : Str) (a i : Nat) : Nat := foldD 0 ((s.take i).drop a)
section
variable {s : Str} {a i : Nat}
end
def inB (c : UInt8) (s : Str) : Bool := decide (c ∈ s)
theorem inB_let (c : UInt8) : inB c LETS = letB c := let_in c
theorem inB_dig (c : UInt8) : inB c DIGS = dig c := dig_in c
theorem inB_yes {c : UInt8} {s : Str} {i : Nat} (h : i < s.length) (hc : s[i] = c) : inB c s = true := by
  subst hc; unfold inB; rw [decide_eq_true_eq]; exact List.getElem_mem _
theorem inB_no {c : UInt8} {s : Str} (h : c ∉ s) : inB c s = false := by unfold inB; rw [decide_eq_false_iff_not]; exact h
theorem notin_at {α : Type} {l : List α} {c : α} {i : Nat} (h : c ∉ l.take i) (hlt : i < l.length) (hq : ¬ l[i] = c) : c ∉ l.take (i + 1) := by
  rw [take_at hlt, List.mem_append, List.mem_singleton]
  rintro (h' | h')
  · exact h h'
  · exact hq h'.symm
theorem word_nil {s : Str} (h : s.length = 0) : isWord s = false := by
  obtain rfl := List.eq_nil_of_length_eq_zero h; rfl
section
variable {s : Str} {a k : Nat}
end
section
variable {p : Bool} {a b : List Tok} {i : Nat}
end
section
variable {s : Str} {a p : Nat}
theorem map_nil (x : LexR) : x = x.map (([] : List Tok) ++ ·) := by cases x <;> simp [Except.map]
end
end Go.Duo
namespace Go.Duo
open Go
end Go.Duo

namespace Go.Duo
open Go
theorem getDu (s : Str) (i : Nat) (u : UInt8) (h : i < s.length) : s.getD i u = s[i] := getD_ltI s i u h
theorem kwT : (KW.map V.str).take 10 = KW.map V.str := rfl
theorem kwL : KW.length = 10 := rfl
theorem kwO : (KW.map V.str).all V.one = true := rfl
attribute [go_sem] kwT kwL kwO u8_45 u8_48 u8_35 u8_10 u8_43 u8_eq getDu
end Go.Duo

namespace Go.Duo
open Go
mutual
def smL : Ty → Prop
  | .mk _ _ _ _ l ks => l.length ≤ 1000000 ∧ smLs ks
def smLs : List Ty → Prop
  | [] => True
  | t :: ts => smL t ∧ smLs ts
end
theorem smLs_iff (l : List Ty) : smLs l ↔ ∀ t ∈ l, smL t := by induction l with | nil => simp [smLs] | cons t l ih => simp [smLs, ih]
theorem smL_iff (t : Ty) : smL t ↔ t.labels.length ≤ 1000000 ∧ ∀ u ∈ t.kids, smL u := by cases t; rw [smL, smLs_iff]; rfl
mutual
def smLP : Pr → Prop
  | .mk _ _ _ l a t ks => l.length ≤ 1000000 ∧ a.length ≤ 1000000 ∧ t.sz ≤ 1000000 ∧ smL t ∧ smLPs ks
def smLPs : List Pr → Prop
  | [] => True
  | t :: ts => smLP t ∧ smLPs ts
end
theorem smLPs_iff (l : List Pr) : smLPs l ↔ ∀ t ∈ l, smLP t := by induction l with | nil => simp [smLPs] | cons t l ih => simp [smLPs, ih]
theorem smLP_iff (p : Pr) : smLP p ↔ p.labels.length ≤ 1000000 ∧ p.args.length ≤ 1000000 ∧ p.typ.sz ≤ 1000000 ∧ smL p.typ ∧ ∀ u ∈ p.kids, smLP u := by cases p; rw [smLP, smLPs_iff]; rfl
theorem take_T7 (t : Ty) (a : V) : ((encT t).cells ++ [a]).take 7 = (encT t).cells ++ [a] := List.take_of_length_le (by rw [len_T]; exact Nat.le_refl _)
theorem drop_T7 (t : Ty) (a : V) : ((encT t).cells ++ [a]).drop 7 = [] := List.drop_of_length_le (by rw [len_T]; exact Nat.le_refl _)
attribute [go_sem] take_T7 drop_T7
/-- The zero process. -/
def ZP : List V := [.int .i64 0, .str [], .str [], .nil, .nil, .int .i64 0, .int .i64 0, .str [], .int .i64 0, .nil, .nil, .nil]
theorem zpE : ZP = [.int .i64 0, .str [], .str [], .nil, .nil, .int .i64 0, .int .i64 0, .str [], .int .i64 0, .nil, .nil, .nil] := rfl
attribute [go_sem] zpE
theorem c_ref (i v : Nat) : (V.ref i v).cells = [.ref i v] := rfl
theorem c_rptr (i v o : Nat) : (V.rptr i v o).cells = [.rptr i v o] := rfl
attribute [go_sem] c_ref c_rptr
theorem CLe.app {S : List O} {a l l' : List V} (h : CLe S l l') : CLe S (a ++ l) (a ++ l') := by
  induction a with
  | nil => exact h
  | cons x a ih => exact ⟨V.le_refl _ _, ih⟩
theorem trimL_app (k : Nat) (a b : List V) : V.trim.trimL k (a ++ b) = V.trim.trimL k a ++ V.trim.trimL k b := by rw [trimL_map, trimL_map, trimL_map, List.map_append]
theorem trimL_T (k : Nat) (t : Ty) : V.trim.trimL k (encT t).cells = (encT t).cells := by rw [trimL_map, encT_trimL]
theorem trimL_P (k : Nat) (t : Pr) : V.trim.trimL k (encP t).cells = (encP t).cells := by rw [trimL_map, encP_trimL]
attribute [go_sem] trimL_app trimL_T trimL_P
theorem faL_app (i v : Nat) (es a b : List V) : V.fa.faL i v es (a ++ b) = V.fa.faL i v es a ++ V.fa.faL i v es b := by rw [faL_eq, faL_eq, faL_eq, List.map_append]
theorem faL_T (i v : Nat) (es : List V) (t : Ty) : V.fa.faL i v es (encT t).cells = (encT t).cells := by rw [encT_cells']; rfl
mutual
theorem fa_of_trim (k : Nat) (v : Nat) (es : List V) (n : Nat) (hn : n ≤ k) : ∀ x : V, x.trim n = x → x.fa k v es = x
  | .agg xs, h => by simp only [V.trim, V.agg.injEq] at h; simp only [V.fa, fa_of_trimL k v es n hn xs h]
  | .tuple xs, h => by simp only [V.trim, V.tuple.injEq] at h; simp only [V.fa, fa_of_trimL k v es n hn xs h]
  | .func fn a b, h => by simp only [V.trim, V.func.injEq, true_and] at h; simp only [V.fa, fa_of_trimL k v es n hn a h.1, fa_of_trimL k v es n hn b h.2]
  | .iface t y, h => by simp only [V.trim, V.iface.injEq, true_and] at h; simp only [V.fa, fa_of_trim k v es n hn y h]
  | .ref j w, h => by
    simp only [V.trim] at h
    split at h
    · simp only [V.fa]; rw [if_neg (by omega)]
    · cases h
  | .rptr j w o, h => by
    simp only [V.trim] at h
    split at h
    · simp only [V.fa]; rw [if_neg (by omega)]
    · cases h
  | .undef, _ | .int _ _, _ | .bool _, _ | .str _, _ | .sl _ _, _ | .nil, _ | .ptr _ _, _ | .dptr _, _ | .nilptr, _ | .pmap _ _, _ | .map _, _ | .nilfunc, _ | .niliface, _ | .yld _, _ => rfl
theorem fa_of_trimL (k : Nat) (v : Nat) (es : List V) (n : Nat) (hn : n ≤ k) : ∀ xs : List V, V.trim.trimL n xs = xs → V.fa.faL k v es xs = xs
  | [], _ => rfl
  | x :: xs, h => by simp only [V.trim.trimL, List.cons.injEq] at h; simp only [V.fa.faL, fa_of_trim k v es n hn x h.1, fa_of_trimL k v es n hn xs h.2]
end
theorem fa_clo {st : List O} (h : Clo st) {k : Nat} (hk : st.length ≤ k) (v : Nat) (es : List V) : st.map (O.fa k v es) = st := by
  have h1 := h st.length (Nat.le_refl _)
  have : ∀ o ∈ st, O.fa k v es o = o := fun o ho => by
    obtain ⟨i, hi, rfl⟩ := List.mem_iff_getElem.1 ho
    have h2 : (st[i]).trim st.length = st[i] := by
      have h3 : (st.map (O.trim st.length))[i]'(by simpa using hi) = st[i] := by simp only [h1]
      rwa [List.getElem_map] at h3
    generalize st[i] = o at h2 ⊢
    cases o with
    | box t xs =>
      simp only [O.trim, O.box.injEq, true_and] at h2
      simp only [O.fa, O.box.injEq, true_and]
      rw [← faL_eq]
      exact fa_of_trimL k v es st.length hk xs (by rw [trimL_map]; exact h2)
    | _ => rfl
  exact (List.map_congr_left this).trans (List.map_id _)
theorem fa_st0 {st : List O} (hst : Clo st) {v : Nat} {es : List V} {a b : O} (hb : ∀ k v es, b.fa k v es = b) : ((st ++ [a, b]).set st.length .dead).map (O.fa st.length v es) = st ++ [.dead, b] := by
  rw [List.set_append_right _ _ (Nat.le_refl _), Nat.sub_self, List.map_append, fa_clo hst (Nat.le_refl _)]
  simp only [List.set_cons_zero, List.map_cons, List.map_nil, hb]; rfl
theorem fa_st1 {st : List O} (hst : Clo st) {v : Nat} {es : List V} {b : O} : ((st ++ [.dead, b]).set (st.length + 1) .dead).map (O.fa (st.length + 1) v es) = st ++ [.dead, .dead] := by
  rw [List.set_append_right _ _ (by omega), Nat.add_sub_cancel_left, List.map_append, fa_clo hst (by omega)]
  simp [O.fa]
theorem cellsP (p : Pr) : (encP p).cells = .int .i64 p.kind :: .str p.chan :: .str p.var :: .sl (p.labels.map .str) none :: .sl (p.args.map encV) none :: ((encT p.typ).cells ++ [.sl (p.kids.map encP) none]) := encP_cells' p
def raisePrio (n : Int) (t : Ty) : Int := if 4 ≤ t.kind ∧ t.kind ≤ 7 then IntKind.wrap .i64 (t.prio + n) else t.prio
theorem raiseT_eq (n : Int) (t : Ty) : raiseT n t = .mk t.kind (raisePrio n t) t.name t.shift t.labels (t.kids.map (raiseT n)) := by cases t; rw [raiseT, raiseTs_eq]; rfl
theorem raisePrio_1 {n : Int} {t : Ty} (h : 4 ≤ t.kind) (h2 : t.kind ≤ 7) : raisePrio n t = IntKind.wrap .i64 (t.prio + n) := if_pos ⟨h, h2⟩
theorem raisePrio_2 {n : Int} {t : Ty} (h : t.kind < 4) : raisePrio n t = t.prio := if_neg (by omega)
theorem raisePrio_3 {n : Int} {t : Ty} (h : 7 < t.kind) : raisePrio n t = t.prio := if_neg (by omega)
mutual
def copyP : Pr → Pr
  | .mk k c v l a t ks => .mk k c v l a (raiseT 0 t) (copyPs ks)
def copyPs : List Pr → List Pr
  | [] => []
  | p :: ps => copyP p :: copyPs ps
end
theorem copyPs_eq (l : List Pr) : copyPs l = l.map copyP := by induction l with | nil => rfl | cons p l ih => rw [copyPs, ih]; rfl
theorem copyP_eq (p : Pr) : copyP p = .mk p.kind p.chan p.var p.labels p.args (raiseT 0 p.typ) (p.kids.map copyP) := by cases p; rw [copyP, copyPs_eq]; rfl
theorem foldP (p : Pr) : V.agg (.int .i64 p.kind :: .str p.chan :: .str p.var :: .sl (p.labels.map .str) none :: .sl (p.args.map encV) none :: ((encT p.typ).cells ++ [.sl (p.kids.map encP) none])) = encP p := (encP_all p).symm
def idxI (l : List Str) (s : Str) : Int := match l.findIdx? (fun d => decide (d = s)) with | some i => (i : Int) | none => -1
theorem idxI_some {l : List Str} {s : Str} {i : Nat} (hi : i < l.length) (h : ∀ (j : Nat) (hj : j < l.length), j < i → ¬ l[j] = s) (he : l[i] = s) : idxI l s = (i : Int) := by
  have : l.findIdx? (fun d => decide (d = s)) = some i := by
    rw [List.findIdx?_eq_some_iff_getElem]
    exact ⟨hi, by simpa using he, fun j hj => by simpa using h j (by omega) hj⟩
  unfold idxI; rw [this]
theorem idxI_none {l : List Str} {s : Str} {i : Nat} (hi : l.length ≤ i) (h : ∀ (j : Nat) (hj : j < l.length), j < i → ¬ l[j] = s) : idxI l s = -1 := by
  have : l.findIdx? (fun d => decide (d = s)) = none := by
    rw [List.findIdx?_eq_none_iff]
    intro x hx
    obtain ⟨j, hj, rfl⟩ := List.mem_iff_getElem.1 hx
    simpa using h j hj (by omega)
  unfold idxI; rw [this]
theorem idxI_lt (l : List Str) (s : Str) : idxI l s < l.length ∧ -1 ≤ idxI l s := by
  unfold idxI
  cases h : l.findIdx? (fun d => decide (d = s)) with
  | none => simp only; omega
  | some i => have := (List.findIdx?_eq_some_iff_getElem.1 h).1; simp only; omega
def valueS (v : Vl) : Str := if v.kind = 2 then Lib.itoa v.n else if v.kind = 3 ∧ v.n = 1 then [116, 114, 117, 101] else if v.kind = 3 then [102, 97, 108, 115, 101] else v.name
def Vl.zero : Vl := ⟨0, [], 0⟩
def putC (names : List Str) (values : List Vl) (bound : List Str) (k : Int) (c : Str) : Str :=
  if 2 ≤ k ∧ k ≤ 5 ∧ c ∉ bound ∧ 0 ≤ idxI names c then valueS (values.getD (idxI names c).toNat Vl.zero) else c
def putA (names : List Str) (values : List Vl) (bound : List Str) (x : Vl) : Vl :=
  if x.kind = 1 ∧ 0 ≤ idxI names x.name ∧ x.name ∉ bound then values.getD (idxI names x.name).toNat Vl.zero else x
mutual
def putP (names : List Str) (values : List Vl) : Pr → List Str → Pr
  | .mk k c v l a t ks, bound => .mk k (putC names values bound k c) v l (a.map (putA names values bound)) (raiseT 0 t) (putPs names values ks (bound ++ innerL (.mk k c v l a t ks)))
def putPs (names : List Str) (values : List Vl) : List Pr → List Str → List Pr
  | [], _ => []
  | p :: ps, bound => putP names values p bound :: putPs names values ps bound
end
theorem putPs_eq (names : List Str) (values : List Vl) (l : List Pr) (bound : List Str) : putPs names values l bound = l.map fun p => putP names values p bound := by induction l with | nil => rfl | cons p l ih => rw [putPs, ih]; rfl
theorem putP_eq (names : List Str) (values : List Vl) (p : Pr) (bound : List Str) : putP names values p bound = .mk p.kind (putC names values bound p.kind p.chan) p.var p.labels (p.args.map (putA names values bound)) (raiseT 0 p.typ) (p.kids.map fun q => putP names values q (bound ++ innerL p)) := by cases p; rw [putP, putPs_eq]; rfl
section
variable {names : List Str} {values : List Vl} {bound : List Str}
theorem putC_yes {k : Int} {c : Str} (h1 : 2 ≤ k) (h2 : k ≤ 5) (h3 : c ∉ bound) (h4 : 0 ≤ idxI names c) (h5 : (idxI names c).toNat < values.length) : putC names values bound k c = valueS values[(idxI names c).toNat] := by
  unfold putC; rw [if_pos ⟨h1, h2, h3, h4⟩, getD_ltI _ _ _ h5]
theorem putC_n1 {k : Int} {c : Str} (h1 : k < 2) : putC names values bound k c = c := if_neg (by omega)
theorem putC_n2 {k : Int} {c : Str} (h1 : 5 < k) : putC names values bound k c = c := if_neg (by omega)
theorem putC_n3 {k : Int} {c : Str} (h1 : c ∈ bound) : putC names values bound k c = c := if_neg (fun h => h.2.2.1 h1)
theorem putC_n4 {k : Int} {c : Str} (h1 : idxI names c < 0) : putC names values bound k c = c := if_neg (by omega)
theorem putA_yes {x : Vl} (h1 : x.kind = 1) (h2 : 0 ≤ idxI names x.name) (h3 : x.name ∉ bound) (h5 : (idxI names x.name).toNat < values.length) : putA names values bound x = values[(idxI names x.name).toNat] := by
  unfold putA; rw [if_pos ⟨h1, h2, h3⟩, getD_ltI _ _ _ h5]
theorem putA_n1 {x : Vl} (h1 : ¬ x.kind = 1) : putA names values bound x = x := if_neg (fun h => h1 h.1)
theorem putA_n2 {x : Vl} (h1 : idxI names x.name < 0) : putA names values bound x = x := if_neg (fun h => by have := h.2.1; omega)
theorem putA_n3 {x : Vl} (h1 : x.name ∈ bound) : putA names values bound x = x := if_neg (fun h => h.2.2 h1)
end
theorem fa_stj {st : List O} (hst : Clo st) (j v : Nat) (es : List V) (l : List O) : ((st ++ l).set (st.length + j) .dead).map (O.fa (st.length + j) v es) = st ++ (l.set j .dead).map (O.fa (st.length + j) v es) := by
  rw [List.set_append_right _ _ (by omega), Nat.add_sub_cancel_left, List.map_append, fa_clo hst (by omega)]
theorem md12 (n : Nat) : n * 12 / 12 = n := Nat.mul_div_cancel n (by decide)
theorem md3 (n : Nat) : n * 3 / 3 = n := Nat.mul_div_cancel n (by decide)
attribute [go_sem] md12 md3
/-- Part done, part to do. -/
def halfL {α β : Type} (f g : α → β) (i : Nat) (l : List α) : List β := (l.take i).map f ++ (l.drop i).map g
theorem halfL_zero {α β : Type} (f g : α → β) (l : List α) : halfL f g 0 l = l.map g := by simp [halfL]
theorem halfL_end {α β : Type} (f g : α → β) {l : List α} {i : Nat} (h : l.length ≤ i) : halfL f g i l = l.map f := by simp [halfL, List.take_of_length_le h, List.drop_eq_nil_of_le h]
theorem halfL_len {α β : Type} (f g : α → β) (i : Nat) (l : List α) : (halfL f g i l).length = l.length := by simp [halfL]; omega
theorem halfL_cons {α β : Type} (f g : α → β) (a : α) (l : List α) (i : Nat) : halfL f g (i + 1) (a :: l) = f a :: halfL f g i l := rfl
theorem halfL_set {α β : Type} (f g : α → β) : ∀ {l : List α} {i : Nat} (h : i < l.length), (halfL f g i l).set i (f l[i]) = halfL f g (i + 1) l := by
  intro l; induction l with
  | nil => intro i h; simp at h
  | cons a l ih =>
    intro i h
    cases i with
    | zero => simp [halfL]
    | succ i => rw [halfL_cons, halfL_cons, List.set_cons_succ]; congr 1; exact ih (by simpa using h)
theorem halfL_keep {α β : Type} (f g : α → β) : ∀ {l : List α} {i : Nat} (h : i < l.length) (he : g l[i] = f l[i]), halfL f g (i + 1) l = halfL f g i l := by
  intro l; induction l with
  | nil => intro i h; simp at h
  | cons a l ih =>
    intro i h he
    cases i with
    | zero => simp [halfL] at he ⊢; exact he.symm
    | succ i => rw [halfL_cons, halfL_cons]; congr 1; exact ih (by simpa using h) (by simpa using he)
end Go.Duo

namespace Go.Duo
open Go
section
variable {p : Pg}
theorem dup_1 {i : Nat} (h : i < p.defs.length) (hf : findI p.defs p.defs[i].name < i) : dupD p i = true := by
  unfold dupD; rw [List.getElem?_eq_getElem h]; simp only [decide_eq_true hf, Bool.true_or]
theorem dup_2 {i j k : Nat} (h : i < p.defs.length) (hk : k < p.defs[i].params.length) (hj : j < k) (he : (p.defs[i].params[j]'(by omega)).name = p.defs[i].params[k].name) : dupD p i = true := by
  unfold dupD; rw [List.getElem?_eq_getElem h]
  have : ¬ (p.defs[i].params.map Pm.name).Nodup := fun hn => by
    have h1 := List.getElem_inj (h₀ := (by simp; omega : j < (p.defs[i].params.map Pm.name).length)) (h₁ := (by simp; omega : k < (p.defs[i].params.map Pm.name).length)) hn
    simp only [List.getElem_map] at h1
    have := h1.1 he; omega
  simp only [decide_eq_true this, Bool.or_true]
theorem dup_no {i : Nat} (h : i < p.defs.length) (hf : ¬ findI p.defs p.defs[i].name < i) (hn : ∀ (b : Nat) (hb : b < p.defs[i].params.length) (a : Nat) (ha : a < b), ¬ (p.defs[i].params[a]'(by omega)).name = p.defs[i].params[b].name) : dupD p i = false := by
  unfold dupD; rw [List.getElem?_eq_getElem h]
  have : (p.defs[i].params.map Pm.name).Nodup := by
    rw [List.nodup_iff_pairwise_ne, List.pairwise_iff_getElem]
    intro a b ha hb hab
    simp only [List.length_map] at ha hb
    simp only [List.getElem_map]
    exact hn b hb a hab
  simp only [decide_eq_false hf, Bool.false_or, decide_eq_false (fun h => h this : ¬ ¬ (p.defs[i].params.map Pm.name).Nodup)]
theorem bodyE_eq {i : Nat} (h : i < p.defs.length) : bodyE p i = nodeC p p.defs[i].body (p.defs[i].params.map Pm.name) false := by
  unfold bodyE; rw [List.getElem?_eq_getElem h]
theorem bodyE_take {i k : Nat} (h : i < p.defs.length) (hk : p.defs[i].params.length ≤ k) : bodyE p i = nodeC p p.defs[i].body ((p.defs[i].params.take k).map Pm.name) false := by rw [bodyE_eq h, List.take_of_length_le hk]
theorem check_1 (h : ¬ progE p = 0) : checkL p = (progE p, 0) := if_pos h
theorem check_2 (h : progE p = 0) {i : Nat} (hi : i < p.defs.length) (h1 : ∀ j, j < i → dupD p j = false) (h2 : dupD p i = true) : checkL p = (5, (i : Int)) := by
  unfold checkL; rw [if_neg (fun hc => hc h), firstN_some hi h1 h2]
theorem check_3 (h : progE p = 0) {i k : Nat} (hi : p.defs.length ≤ i) (h1 : ∀ j, j < i → dupD p j = false) (hk : k < p.defs.length) (h2 : ∀ j, j < k → bodyE p j = 0) (h3 : ¬ bodyE p k = 0) : checkL p = (bodyE p k, (k : Int)) := by
  unfold checkL; rw [if_neg (fun hc => hc h), firstN_none hi h1]
  rw [firstN_some (f := fun i => decide (bodyE p i ≠ 0)) hk (fun j hj => by simp [h2 j hj]) (by simp [h3])]
theorem check_4 (h : progE p = 0) {i k : Nat} (hi : p.defs.length ≤ i) (h1 : ∀ j, j < i → dupD p j = false) (hk : p.defs.length ≤ k) (h2 : ∀ j, j < k → bodyE p j = 0) : checkL p = (nodeC p p.main [] true, (p.defs.length : Int)) := by
  unfold checkL; rw [if_neg (fun hc => hc h), firstN_none hi h1]
  rw [firstN_none (f := fun i => decide (bodyE p i ≠ 0)) hk (fun j hj => by simp [h2 j hj])]
end
theorem fewPr_sm {t : Pr} {m : Int} (hm : 0 ≤ m) (h1 : m ≤ 1000) (h : fewPr t m = true) : t.sz ≤ 1000 ∧ tyS t := by
  unfold fewPr at h
  simp only [Bool.and_eq_true, decide_eq_true_eq] at h
  have h2 := fewPr_sz hm h.1
  exact ⟨by omega, leftPr_tyS t m hm h.1⟩
theorem little_sm {p : Pg} {m : Int} (hm : 0 ≤ m) (h1 : m ≤ 1000) (h : littleB p m = true) : smPg p := by
  rw [littleB_eq] at h
  simp only [Bool.and_eq_true, decide_eq_true_eq, List.all_eq_true] at h
  obtain ⟨h2, h3, h4⟩ := h
  refine ⟨fewPr_sm hm h1 h3, h2, fun d hd => ?_⟩
  have h5 := h4 d hd
  unfold littleD at h5
  simp only [Bool.and_eq_true, decide_eq_true_eq, List.all_eq_true] at h5
  refine ⟨fewPr_sm hm h1 h5.1, h5.2.1, fun x hx => ?_⟩
  have h6 := h5.2.2 x hx
  unfold fewTy at h6
  simp only [Bool.and_eq_true, decide_eq_true_eq] at h6
  have := fewTy_sz (t := x.t) (m := 300) (by omega) (by first | exact h6.1 | exact h6)
  omega
theorem idxI_nodup {l : List Str} (h : l.Nodup) {i : Nat} (hi : i < l.length) : idxI l l[i] = (i : Int) :=
  idxI_some hi (fun j hj hji he => by
    have := (List.getElem_inj (h₀ := hj) (h₁ := hi) h).1 he; omega) rfl
structure Cf where
  th : List Pr
  ch : List Ty
def epN (k : Nat) (b : Bool) : Vl := ⟨1, nameL k b, 0⟩
def Pr.zero : Pr := .mk 0 [] [] [] [] Ty.zero []
def instL (p : Pg) (s : Str) (vs : List Vl) : Option Pr := match p.defs[(findI p.defs s).toNat]? with
  | some d => if 0 ≤ findI p.defs s then some (putP (d.params.map Pm.name) vs d.body []) else none
  | none => none
theorem hdD_at {l : List Pr} {z : Pr} (h0 : 0 < l.length) : l.headD z = l[0] := by
  cases l with
  | nil => simp at h0
  | cons a l => rfl
def openL (k : Nat) (q : Pr) : Pr := putP [q.chan, q.var] [epN k true, epN k false] (q.kids.headD Pr.zero) []
def addF (p : Pg) : Nat → Cf → Pr → Cf
  | 0, c, _ => c
  | n + 1, c, q =>
    if 2 ≤ q.kind ∧ q.kind ≤ 5 then ⟨c.th ++ [copyP q], c.ch⟩
    else if q.kind = 6 then addF p n ⟨c.th, c.ch ++ [raiseT 0 q.typ]⟩ (openL c.ch.length q)
    else if q.kind = 7 then q.kids.foldl (addF p n) c
    else if q.kind = 8 then match instL p q.chan q.args with
      | some b => addF p n c b
      | none => c
    else c
/-- What the walk asks of a process that is added: n: how deep the calls may go. -/
def okF (p : Pg) : Nat → Cf → Pr → Prop
  | 0, _, _ => False
  | n + 1, c, q => (c.th.length ≤ 100000 ∧ c.ch.length ≤ 100000 ∧ q.sz ≤ 1000 ∧ smLP q) ∧
    (q.kind = 6 → 0 < q.kids.length ∧ ¬ q.chan = q.var ∧ inS q.chan ∧ inS q.var ∧ okF p n ⟨c.th, c.ch ++ [raiseT 0 q.typ]⟩ (openL c.ch.length q)) ∧
    (q.kind = 7 → ∀ (i : Nat) (h : i < q.kids.length), okF p n ((q.kids.take i).foldl (addF p n) c) q.kids[i]) ∧
    (q.kind = 8 → ∃ (i : Nat) (h : i < p.defs.length), findI p.defs q.chan = i ∧ (p.defs[i]).params.length = q.args.length ∧ (∀ x ∈ q.args, okV x) ∧ (p.defs[i]).body.sz ≤ 1000 ∧ smLP (p.defs[i]).body ∧ okF p n c (putP ((p.defs[i]).params.map Pm.name) q.args (p.defs[i]).body []))
section
variable {p : Pg} {n : Nat} {c : Cf} {q : Pr}
theorem addF_pre (h : 2 ≤ q.kind) (h2 : q.kind ≤ 5) : addF p (n + 1) c q = ⟨c.th ++ [copyP q], c.ch⟩ := by rw [addF, if_pos ⟨h, h2⟩]
theorem addF_6 (h : q.kind = 6) (h0 : 0 < q.kids.length) : addF p (n + 1) c q = addF p n ⟨c.th, c.ch ++ [raiseT 0 q.typ]⟩ (putP [q.chan, q.var] [epN c.ch.length true, epN c.ch.length false] q.kids[0] []) := by
  rw [addF, if_neg (by omega), if_pos h, openL, hdD_at h0]
theorem openL_eq {k : Nat} (h0 : 0 < q.kids.length) : openL k q = putP [q.chan, q.var] [epN k true, epN k false] q.kids[0] [] := by
  rw [openL, hdD_at h0]
theorem addF_7 (h : q.kind = 7) : addF p (n + 1) c q = q.kids.foldl (addF p n) c := by rw [addF, if_neg (by omega), if_neg (by omega), if_pos h]
theorem instL_at {s : Str} {vs : List Vl} {i : Nat} (hi : i < p.defs.length) (hf : findI p.defs s = i) : instL p s vs = some (putP ((p.defs[i]).params.map Pm.name) vs (p.defs[i]).body []) := by
  unfold instL; rw [hf]; simp [List.getElem?_eq_getElem hi]
theorem addF_8 (h : q.kind = 8) {i : Nat} (hi : i < p.defs.length) (hf : findI p.defs q.chan = i) : addF p (n + 1) c q = addF p n c (putP ((p.defs[i]).params.map Pm.name) q.args (p.defs[i]).body []) := by
  rw [addF, if_neg (by omega), if_neg (by omega), if_neg (by omega), if_pos h, instL_at hi hf]
theorem addF_no (h : ¬ (2 ≤ q.kind ∧ q.kind ≤ 8)) : addF p (n + 1) c q = c := by
  rw [addF, if_neg (by omega), if_neg (by omega), if_neg (by omega), if_neg (by omega)]
theorem foldl_at {α β : Type} (f : β → α → β) (b : β) {l : List α} {i : Nat} (h : i < l.length) : (l.take (i + 1)).foldl f b = f ((l.take i).foldl f b) l[i] := by
  rw [take_snoc h, List.foldl_append]; rfl
theorem epN_ok {k : Nat} (h : k ≤ 1000000) (b : Bool) : okV (epN k b) := by
  refine ⟨by unfold inI epN; simp only []; omega, ?_, by unfold inI epN; simp only []; omega⟩
  unfold inS epN nameL
  have := Lib.itoa_length_le (k : Int) (by omega) (by omega)
  simp only [List.length_append, List.length_cons, List.length_nil]
  omega
end
theorem kidP0_sz {q : Pr} (h0 : 0 < q.kids.length) : (q.kids[0]).sz < q.sz := by
  have h1 := Pr.szs_mem (List.getElem_mem h0); have h2 := Pr.sz_eq q; omega
end Go.Duo

namespace Go.Duo
open Go
def short (s : Str) : Prop := s.length ≤ 30
theorem itoa_short {n : Int} (h : inI n) : short (Lib.itoa n) := by
  have := Lib.itoa_length_le n h.1 h.2
  unfold short; omega
theorem epN_short {k : Nat} (h : k ≤ 1000000) (b : Bool) : short (valueS (epN k b)) := by
  have := Lib.itoa_length_le (k : Int) (by omega) (by omega)
  simp only [valueS, epN, nameL, short, Int.reduceEq, reduceIte, false_and, List.length_append, List.length_cons, List.length_nil]
  omega
theorem shape_labels {t : Ty} (h : shapeB t = true) : t.labels.length ≤ t.kids.length := by
  unfold shapeB at h
  split at h
  · simp only [Bool.and_eq_true, decide_eq_true_eq] at h; omega
  split at h
  · simp only [Bool.and_eq_true, decide_eq_true_eq] at h; omega
  split at h
  · simp only [Bool.and_eq_true, decide_eq_true_eq] at h; omega
  split at h
  · simp only [Bool.and_eq_true, decide_eq_true_eq] at h; omega
  split at h
  · simp only [Bool.and_eq_true, decide_eq_true_eq] at h; omega
  · cases h
theorem nodeTs_all : ∀ (l : List Ty) (names : List Str) (b : Bool), nodeTs l names b = 0 → ∀ u ∈ l, ∃ b', nodeT u names names.length b' = 0 := by
  intro l; induction l with
  | nil => intro names b _ u hu; simp at hu
  | cons t l ih =>
    intro names b h u hu
    rw [nodeTs] at h
    by_cases h0 : nodeT t names names.length b = 0
    · rw [if_pos h0] at h
      rcases List.mem_cons.1 hu with rfl | hu
      · exact ⟨b, h0⟩
      · exact ih names true h u hu
    · rw [if_neg h0] at h; exact absurd h h0
theorem shape_8 {t : Ty} (h : shapeB t = true) (hk : t.kind = 8) : t.kids.length = 1 := by
  unfold shapeB at h
  rw [if_neg (by omega), if_neg (by omega), if_neg (by omega), if_pos hk] at h
  simp only [Bool.and_eq_true, decide_eq_true_eq] at h; omega
theorem shape_9 {t : Ty} (h : shapeB t = true) (hk : t.kind = 9) : t.kids.length = 0 := by
  unfold shapeB at h
  rw [if_neg (by omega), if_neg (by omega), if_neg (by omega), if_neg (by omega), if_pos hk] at h
  simp only [Bool.and_eq_true, decide_eq_true_eq] at h; omega
theorem nodeT_smL : ∀ (t : Ty) (names : List Str) (g : Nat) (se : Bool), t.sz ≤ 1000000 → nodeT t names g se = 0 → smL t := Ty.ind' fun t ih names g se hsz h => by
  rw [nodeT_eq] at h
  have hz := Ty.sz_eq t
  have hzl := Ty.szs_len t.kids
  by_cases hs : shapeB t = false ∨ (se = true ∧ sessB t = false)
  · rw [if_pos hs] at h; cases h
  rw [if_neg hs] at h
  have hsh : shapeB t = true := by
    cases hc : shapeB t with
    | true => rfl
    | false => exact absurd (.inl hc) hs
  have hl := shape_labels hsh
  have hkid : ∀ u ∈ t.kids, u.sz ≤ 1000000 := fun u hu => by have := Ty.szs_mem hu; omega
  refine (smL_iff t).2 ⟨by omega, fun u hu => ?_⟩
  by_cases h9 : t.kind = 9
  · have := shape_9 hsh h9
    rw [List.eq_nil_of_length_eq_zero this] at hu; simp at hu
  rw [if_neg h9] at h
  by_cases h8 : t.kind = 8
  · rw [if_pos h8] at h
    have h1 := shape_8 hsh h8
    match hk : t.kids, h1 with
    | [k], _ =>
      rw [hk] at h hu
      rw [nodeT1] at h
      rw [List.mem_singleton.1 hu]
      exact ih k (by rw [hk]; simp) _ _ _ (hkid k (by rw [hk]; simp)) h
  · rw [if_neg h8] at h
    obtain ⟨b', h2⟩ := nodeTs_all _ _ _ h u hu
    exact ih u hu _ _ _ (hkid u hu) h2
theorem plain_smL {q : Pr} (h : plainB q = true) : smL q.typ := by
  unfold plainB at h
  rw [sameT_eq] at h
  simp only [Bool.and_eq_true, decide_eq_true_eq] at h
  obtain ⟨⟨⟨_, h1⟩, h2⟩, _⟩ := h
  have h3 : q.typ.labels = [] := h1
  have h4 : q.typ.kids.length = 0 := h2
  refine (smL_iff _).2 ⟨by rw [h3]; simp, fun u hu => ?_⟩
  rw [List.eq_nil_of_length_eq_zero h4] at hu; simp at hu
theorem raiseT_sz (n : Int) : ∀ t : Ty, (raiseT n t).sz = t.sz := Ty.ind' fun t ih => by
  rw [raiseT_eq, Ty.sz_eq, Ty.sz_eq t]
  show 1 + Ty.szs (t.kids.map (raiseT n)) = _
  congr 1
  have : ∀ l : List Ty, (∀ u ∈ l, (raiseT n u).sz = u.sz) → Ty.szs (l.map (raiseT n)) = Ty.szs l := by
    intro l; induction l with
    | nil => intro _; rfl
    | cons u l ihl => intro h; rw [List.map_cons, Ty.szs, Ty.szs, h u (List.mem_cons_self ..), ihl fun v hv => h v (List.mem_cons_of_mem _ hv)]
  exact this _ ih
theorem raiseT_smL (n : Int) : ∀ t : Ty, smL t → smL (raiseT n t) := Ty.ind' fun t ih h => by
  obtain ⟨h1, h2⟩ := (smL_iff t).1 h
  rw [raiseT_eq]
  refine (smL_iff _).2 ⟨h1, fun u hu => ?_⟩
  obtain ⟨v, hv, rfl⟩ := List.mem_map.1 hu
  exact ih v hv (h2 v hv)
structure nodeG (p : Pg) (g u : Bool) (bd : List Str) (q : Pr) : Prop where
  chan : preK q.kind = true → q.chan ∈ bd ∨ short q.chan
  args : ∀ x ∈ q.args, okV x ∧ ((x.kind = 1 ∧ x.name ∈ bd) ∨ short (valueS x))
  sm : q.labels.length ≤ 1000000 ∧ q.args.length ≤ 1000000 ∧ q.typ.sz ≤ 1000000 ∧ smL q.typ
  sel : q.kind = 4 → q.labels ≠ []
  new : q.kind = 6 → 0 < q.kids.length ∧ ¬ q.chan = q.var ∧ inS q.chan ∧ inS q.var
  call : q.kind = 8 → u = true → g = true ∧ ∃ i, ∃ h : i < p.defs.length, findI p.defs q.chan = i ∧ (p.defs[i]).params.length = q.args.length
mutual
def goodP (p : Pg) (g : Bool) : Pr → Bool → List Str → Prop
  | .mk k c v l a t ks, u, bd => nodeG p g u bd (.mk k c v l a t ks) ∧ goodPs p g ks (u && !preK k) (bd ++ innerL (.mk k c v l a t ks))
def goodPs (p : Pg) (g : Bool) : List Pr → Bool → List Str → Prop
  | [], _, _ => True
  | q :: qs, u, bd => goodP p g q u bd ∧ goodPs p g qs u bd
end
theorem goodPs_iff {p : Pg} {g u : Bool} {bd : List Str} (l : List Pr) : goodPs p g l u bd ↔ ∀ q ∈ l, goodP p g q u bd := by
  induction l with
  | nil => simp [goodPs]
  | cons q l ih => simp [goodPs, ih]
theorem goodP_iff {p : Pg} {g u : Bool} {bd : List Str} (q : Pr) : goodP p g q u bd ↔ nodeG p g u bd q ∧ ∀ k ∈ q.kids, goodP p g k (u && !preK q.kind) (bd ++ innerL q) := by
  cases q; rw [goodP, goodPs_iff]; rfl
theorem goodP_smLP {p : Pg} {g : Bool} : ∀ (q : Pr) (u : Bool) (bd : List Str), goodP p g q u bd → smLP q := Pr.ind' fun q ih u bd h => by
  obtain ⟨h1, h2⟩ := (goodP_iff q).1 h
  exact (smLP_iff q).2 ⟨h1.sm.1, h1.sm.2.1, h1.sm.2.2.1, h1.sm.2.2.2, fun k hk => ih k hk _ _ (h2 k hk)⟩
section
variable {ns : List Str} {vs : List Vl}
theorem putP_kind (q : Pr) (bd : List Str) : (putP ns vs q bd).kind = q.kind := by rw [putP_eq]; rfl
theorem putP_chan (q : Pr) (bd : List Str) : (putP ns vs q bd).chan = putC ns vs bd q.kind q.chan := by rw [putP_eq]; rfl
theorem putP_var (q : Pr) (bd : List Str) : (putP ns vs q bd).var = q.var := by rw [putP_eq]; rfl
theorem putP_labels (q : Pr) (bd : List Str) : (putP ns vs q bd).labels = q.labels := by rw [putP_eq]; rfl
theorem putP_args (q : Pr) (bd : List Str) : (putP ns vs q bd).args = q.args.map (putA ns vs bd) := by rw [putP_eq]; rfl
theorem putP_typ (q : Pr) (bd : List Str) : (putP ns vs q bd).typ = raiseT 0 q.typ := by rw [putP_eq]; rfl
theorem putP_kids (q : Pr) (bd : List Str) : (putP ns vs q bd).kids = q.kids.map fun k => putP ns vs k (bd ++ innerL q) := by rw [putP_eq]; rfl
theorem putC_same {bd : List Str} {k : Int} {c : Str} (h : preK k = false) : putC ns vs bd k c = c := by
  unfold preK at h
  refine if_neg fun ⟨h1, h2, _⟩ => ?_
  simp [h1, h2] at h
theorem putP_inner (q : Pr) (bd : List Str) : innerL (putP ns vs q bd) = innerL q := by
  unfold innerL
  rw [putP_kind, putP_var, putP_chan]
  by_cases h6 : q.kind = 6
  · rw [putC_same (by rw [h6]; rfl)]
  · rw [if_neg h6, if_neg h6]
theorem putP_sz : ∀ (q : Pr) (bd : List Str), (putP ns vs q bd).sz = q.sz := Pr.ind' fun q ih bd => by
  rw [Pr.sz_eq, Pr.sz_eq q, putP_kids]
  congr 1
  have : ∀ l : List Pr, (∀ u ∈ l, ∀ bd, (putP ns vs u bd).sz = u.sz) → Pr.szs (l.map fun k => putP ns vs k (bd ++ innerL q)) = Pr.szs l := by
    intro l; induction l with
    | nil => intro _; rfl
    | cons u l ihl => intro h; rw [List.map_cons, Pr.szs, Pr.szs, h u (List.mem_cons_self ..), ihl fun v hv => h v (List.mem_cons_of_mem _ hv)]
  exact this _ ih
theorem putP_dp : ∀ (q : Pr) (bd : List Str), (putP ns vs q bd).dp = q.dp := Pr.ind' fun q ih bd => by
  rw [Pr.dp_eq, Pr.dp_eq q, putP_kids]
  congr 1
  have : ∀ l : List Pr, (∀ u ∈ l, ∀ bd, (putP ns vs u bd).dp = u.dp) → Pr.dps (l.map fun k => putP ns vs k (bd ++ innerL q)) = Pr.dps l := by
    intro l; induction l with
    | nil => intro _; rfl
    | cons u l ihl => intro h; rw [List.map_cons, Pr.dps, Pr.dps, h u (List.mem_cons_self ..), ihl fun v hv => h v (List.mem_cons_of_mem _ hv)]
  exact this _ ih
theorem idxI_mem {l : List Str} {s : Str} (h : s ∈ l) : 0 ≤ idxI l s ∧ (idxI l s).toNat < l.length := by
  have h2 := idxI_lt l s
  have : 0 ≤ idxI l s := by
    unfold idxI
    cases h3 : l.findIdx? (fun d => decide (d = s)) with
    | none =>
      rw [List.findIdx?_eq_none_iff] at h3
      have := h3 s h
      simp at this
    | some i => simp only; omega
  omega
theorem idxI_not {l : List Str} {s : Str} (h : s ∉ l) : idxI l s < 0 := by
  have : idxI l s = -1 := idxI_none (Nat.le_refl _) fun j hj _ he => h (he ▸ List.getElem_mem hj)
  omega
theorem put_good {p : Pg} {g : Bool} (hl : ns.length = vs.length) (hv : ∀ x ∈ vs, okV x ∧ short (valueS x)) : ∀ (q : Pr) (u : Bool) (bd : List Str), goodP p g q u (ns ++ bd) → goodP p g (putP ns vs q bd) u bd := Pr.ind' fun q ih u bd h => by
  obtain ⟨h1, h2⟩ := (goodP_iff q).1 h
  refine (goodP_iff _).2 ⟨⟨fun hk => ?_, fun x hx => ?_, ?_, fun hk => ?_, fun hk => ?_, fun hk hu => ?_⟩, fun k hk => ?_⟩
  · rw [putP_kind] at hk
    have hk2 := hk
    unfold preK at hk2
    simp only [Bool.and_eq_true, decide_eq_true_eq] at hk2
    rw [putP_chan]
    by_cases hb : q.chan ∈ bd
    · rw [putC_n3 hb]; exact .inl hb
    by_cases hn : q.chan ∈ ns
    · obtain ⟨h3, h4⟩ := idxI_mem hn
      rw [putC_yes hk2.1 hk2.2 hb h3 (by omega)]
      exact .inr (hv _ (List.getElem_mem _)).2
    · rw [putC_n4 (idxI_not hn)]
      rcases h1.chan hk with h3 | h3
      · rcases List.mem_append.1 h3 with h3 | h3
        · exact absurd h3 hn
        · exact absurd h3 hb
      · exact .inr h3
  · rw [putP_args] at hx
    obtain ⟨y, hy, rfl⟩ := List.mem_map.1 hx
    obtain ⟨h3, h4⟩ := h1.args y hy
    by_cases hyk : y.kind = 1
    · by_cases hb : y.name ∈ bd
      · rw [putA_n3 hb]; exact ⟨h3, .inl ⟨hyk, hb⟩⟩
      by_cases hn : y.name ∈ ns
      · obtain ⟨h5, h6⟩ := idxI_mem hn
        rw [putA_yes hyk h5 hb (by omega)]
        have h7 := hv _ (List.getElem_mem (l := vs) (n := (idxI ns y.name).toNat) (by omega))
        exact ⟨h7.1, .inr h7.2⟩
      · rw [putA_n2 (idxI_not hn)]
        refine ⟨h3, ?_⟩
        rcases h4 with ⟨_, h4⟩ | h4
        · rcases List.mem_append.1 h4 with h4 | h4
          · exact absurd h4 hn
          · exact absurd h4 hb
        · exact .inr h4
    · rw [putA_n1 hyk]
      refine ⟨h3, ?_⟩
      rcases h4 with ⟨h4, _⟩ | h4
      · exact absurd h4 hyk
      · exact .inr h4
  · rw [putP_labels, putP_args, putP_typ, List.length_map, raiseT_sz]
    exact ⟨h1.sm.1, h1.sm.2.1, h1.sm.2.2.1, raiseT_smL 0 _ h1.sm.2.2.2⟩
  · rw [putP_kind] at hk; rw [putP_labels]; exact h1.sel hk
  · rw [putP_kind] at hk
    rw [putP_kids, putP_chan, putP_var, putC_same (by rw [hk]; rfl), List.length_map]
    exact h1.new hk
  · rw [putP_kind] at hk
    rw [putP_chan, putC_same (by rw [hk]; rfl), putP_args, List.length_map]
    exact h1.call hk hu
  · rw [putP_kids] at hk
    obtain ⟨k', hk', rfl⟩ := List.mem_map.1 hk
    rw [putP_kind, putP_inner]
    refine ih k' hk' _ _ ?_
    have h3 := h2 k' hk'
    rwa [List.append_assoc] at h3
end
def wgt (g : Bool) (n : Nat) : Nat := if g = true then 100 * n else n
theorem wgt_le (g : Bool) {a b : Nat} (h : a + 1 ≤ b) : wgt g a + 1 ≤ wgt g b := by
  unfold wgt; split <;> omega
theorem wgt_mono (g : Bool) {a b : Nat} (h : a ≤ b) : wgt g a ≤ wgt g b := by
  unfold wgt; split <;> omega
theorem wgt_add (g : Bool) (a b : Nat) : wgt g (a + b) = wgt g a + wgt g b := by
  unfold wgt; split <;> omega
theorem copyP_f (q : Pr) : (copyP q).kind = q.kind ∧ (copyP q).chan = q.chan ∧ (copyP q).labels = q.labels := by
  rw [copyP_eq]; exact ⟨rfl, rfl, rfl⟩
def addG (p : Pg) (g : Bool) (n : Nat) : Prop := ∀ (q : Pr) (c : Cf), goodP p g q true [] → q.dp + (if g = true then 101 else 0) ≤ n → q.sz ≤ 1000 → c.th.length + wgt g q.sz ≤ 100000 → c.ch.length + wgt g q.sz ≤ 100000 →
  okF p n c q ∧ ∃ a b, addF p n c q = ⟨c.th ++ a, c.ch ++ b⟩ ∧ a.length ≤ wgt g q.sz ∧ b.length ≤ wgt g q.sz ∧ ∀ x ∈ a, hasL x ∧ short x.chan
theorem fold_good {p : Pg} {g : Bool} {n : Nat} (ih : addG p g n) : ∀ (l : List Pr) (c : Cf), (∀ k ∈ l, goodP p g k true [] ∧ k.dp + (if g = true then 101 else 0) ≤ n ∧ k.sz ≤ 1000) → c.th.length + wgt g (Pr.szs l) ≤ 100000 → c.ch.length + wgt g (Pr.szs l) ≤ 100000 →
    (∀ (i : Nat) (h : i < l.length), okF p n ((l.take i).foldl (addF p n) c) l[i]) ∧ ∃ a b, l.foldl (addF p n) c = ⟨c.th ++ a, c.ch ++ b⟩ ∧ a.length ≤ wgt g (Pr.szs l) ∧ b.length ≤ wgt g (Pr.szs l) ∧ ∀ x ∈ a, hasL x ∧ short x.chan := by
  intro l; induction l with
  | nil =>
    intro c _ _ _
    exact ⟨fun i h => by simp at h, [], [], by simp, by simp, by simp, by simp⟩
  | cons k l ihl =>
    intro c hk h1 h2
    rw [Pr.szs, wgt_add] at h1 h2
    obtain ⟨hg, hd, hs⟩ := hk k (List.mem_cons_self ..)
    obtain ⟨hok, a, b, he, ha, hb, hx⟩ := ih k c hg hd hs (by omega) (by omega)
    have hl1 : (addF p n c k).th.length = c.th.length + a.length := by rw [he]; simp
    have hl2 : (addF p n c k).ch.length = c.ch.length + b.length := by rw [he]; simp
    obtain ⟨h3, a', b', he', ha', hb', hx'⟩ := ihl (addF p n c k) (fun x hx => hk x (List.mem_cons_of_mem _ hx)) (by omega) (by omega)
    refine ⟨fun i h => ?_, a ++ a', b ++ b', ?_, ?_, ?_, ?_⟩
    · cases i with
      | zero => exact hok
      | succ i => exact h3 i (by simpa using h)
    · rw [List.foldl_cons, he', he]; simp
    · rw [Pr.szs, wgt_add, List.length_append]; omega
    · rw [Pr.szs, wgt_add, List.length_append]; omega
    · intro x hx2
      rcases List.mem_append.1 hx2 with h | h
      · exact hx x h
      · exact hx' x h
structure defOK (p : Pg) : Prop where
  defs : ∀ d ∈ p.defs, d.body.sz ≤ 100 ∧ goodP p false d.body true (d.params.map Pm.name)
theorem add_good {p : Pg} (hd : defOK p) : ∀ (n : Nat) (g : Bool), addG p g n := by
  intro n; induction n with
  | zero => intro g q c _ h; rw [Pr.dp_eq] at h; omega
  | succ n ih =>
    intro g q c hg hdp hsz h1 h2
    obtain ⟨hn, hk⟩ := (goodP_iff q).1 hg
    have hz := Pr.sz_eq q
    have hdq := Pr.dp_eq q
    have hw : 1 ≤ wgt g q.sz := by unfold wgt; split <;> omega
    have hb : (c.th.length ≤ 100000 ∧ c.ch.length ≤ 100000 ∧ q.sz ≤ 1000 ∧ smLP q) := ⟨by omega, by omega, hsz, goodP_smLP q _ _ hg⟩
    by_cases hp : 2 ≤ q.kind ∧ q.kind ≤ 5
    · refine ⟨⟨hb, fun h => by omega, fun h => by omega, fun h => by omega⟩, [copyP q], [], ?_, by simpa using hw, by simp, ?_⟩
      · rw [addF_pre hp.1 hp.2, List.append_nil]
      · intro x hx
        rw [List.mem_singleton.1 hx]
        obtain ⟨c1, c2, c3⟩ := copyP_f q
        refine ⟨fun h4 => ?_, ?_⟩
        · rw [c3]; rw [c1] at h4; exact hn.sel h4
        · rw [c2]
          rcases hn.chan (by unfold preK; simp [hp.1, hp.2]) with h | h
          · simp at h
          · exact h
    by_cases h6 : q.kind = 6
    · obtain ⟨h0, hne, hic, hiv⟩ := hn.new h6
      have hk0 := hk _ (List.getElem_mem h0)
      have hkz := kidP0_sz h0
      have hkd : (q.kids[0]).dp < q.dp := by have := Pr.dps_mem (List.getElem_mem h0); omega
      have hin : innerL q = [q.chan, q.var] := by unfold innerL; rw [if_neg (by omega), if_pos h6]
      rw [hin, h6, show (true && !preK 6) = true from rfl, List.nil_append] at hk0
      have hp2 := put_good (ns := [q.chan, q.var]) (vs := [epN c.ch.length true, epN c.ch.length false]) (p := p) (g := g) rfl (fun x hx => by
        simp only [List.mem_cons, List.not_mem_nil, or_false] at hx
        rcases hx with rfl | rfl <;> exact ⟨epN_ok (by omega) _, epN_short (by omega) _⟩) q.kids[0] true [] (by rw [List.append_nil]; exact hk0)
      rw [← openL_eq h0] at hp2
      have hoz : (openL c.ch.length q).sz = (q.kids[0]).sz := by rw [openL_eq h0, putP_sz]
      have hod : (openL c.ch.length q).dp = (q.kids[0]).dp := by rw [openL_eq h0, putP_dp]
      have hwl := wgt_le g (show (q.kids[0]).sz + 1 ≤ q.sz by omega)
      obtain ⟨hok, a, b, he, ha, hb', hx⟩ := ih g (openL c.ch.length q) ⟨c.th, c.ch ++ [raiseT 0 q.typ]⟩ hp2 (by omega) (by omega) (by rw [hoz]; simp only []; omega) (by rw [hoz]; simp only [List.length_append, List.length_cons, List.length_nil]; omega)
      rw [hoz] at ha hb'
      refine ⟨⟨hb, fun _ => ⟨h0, hne, hic, hiv, hok⟩, fun h => by omega, fun h => by omega⟩, a, raiseT 0 q.typ :: b, ?_, by omega, by rw [List.length_cons]; omega, hx⟩
      rw [addF_6 h6 h0, ← openL_eq h0, he]
      simp
    by_cases h7 : q.kind = 7
    · have hin : innerL q = [] := by unfold innerL; rw [if_neg (by omega), if_neg (by omega)]
      have hwm := wgt_mono g (show Pr.szs q.kids ≤ q.sz by omega)
      obtain ⟨hok, a, b, he, ha, hb', hx⟩ := fold_good (ih g) q.kids c (fun k hk' => by
        have h3 := hk k hk'
        rw [hin, h7, show (true && !preK 7) = true from rfl, List.append_nil] at h3
        have h4 := Pr.dps_mem hk'
        have h5 := Pr.szs_mem hk'
        exact ⟨h3, by omega, by omega⟩) (by omega) (by omega)
      exact ⟨⟨hb, fun h => by omega, fun _ => hok, fun h => by omega⟩, a, b, by rw [addF_7 h7, he], by omega, by omega, hx⟩
    by_cases h8 : q.kind = 8
    · obtain ⟨hgt, i, hi, hf, hpl⟩ := hn.call h8 rfl
      subst hgt
      obtain ⟨hbz, hbg⟩ := hd.defs _ (List.getElem_mem hi)
      have hbd := Pr.dp_le (p.defs[i]).body
      have hbs := goodP_smLP _ _ _ hbg
      have hp2 := put_good (ns := (p.defs[i]).params.map Pm.name) (vs := q.args) (p := p) (g := false) (by rw [List.length_map]; exact hpl) (fun x hx => by
        obtain ⟨h3, h4⟩ := hn.args x hx
        rcases h4 with ⟨_, h4⟩ | h4
        · simp at h4
        · exact ⟨h3, h4⟩) (p.defs[i]).body true [] (by rw [List.append_nil]; exact hbg)
      have hwt : wgt true q.sz = 100 * q.sz := rfl
      have hwf : ∀ z, wgt false z = z := fun z => rfl
      have hdp' : q.dp + 101 ≤ n + 1 := by simpa using hdp
      obtain ⟨hok, a, b, he, ha, hb', hx⟩ := ih false _ c hp2 (by rw [putP_dp]; simp only [Bool.false_eq_true, reduceIte]; omega) (by rw [putP_sz]; omega) (by rw [putP_sz, hwf]; omega) (by rw [putP_sz, hwf]; omega)
      rw [putP_sz, hwf] at ha hb'
      refine ⟨⟨hb, fun h => by omega, fun h => by omega, fun _ => ⟨i, hi, hf, hpl, fun x hx => (hn.args x hx).1, by omega, hbs, hok⟩⟩, a, b, ?_, by omega, by omega, hx⟩
      rw [addF_8 h8 hi hf, he]
    · refine ⟨⟨hb, fun h => by omega, fun h => by omega, fun h => by omega⟩, [], [], ?_, by simp, by simp, by simp⟩
      rw [addF_no (by omega), List.append_nil, List.append_nil]
theorem valueB_short {x : Vl} (h : valueB x = true) (ho : okV x) (hk : ¬ x.kind = 1) : short (valueS x) := by
  unfold valueB at h
  simp only [Bool.or_eq_true, Bool.and_eq_true, decide_eq_true_eq] at h
  rcases h with (⟨h, _⟩ | ⟨h, _⟩) | ⟨h, hn, _⟩
  · exact absurd h hk
  · unfold valueS; rw [if_pos h]; exact itoa_short ho.2.2
  · unfold valueS
    rw [if_neg (by omega)]
    by_cases h1 : x.n = 1
    · rw [if_pos ⟨h, h1⟩]; unfold short; simp
    · rw [if_neg (fun hc => h1 hc.2), if_pos h]; unfold short; simp
/-- What the forms of a node tell. -/
theorem nodeB_sm {q : Pr} (h : nodeB q = true) (hz : q.sz ≤ 1000) (ht : q.typ.sz ≤ 300) : q.labels.length ≤ 1000000 ∧ (¬ q.kind = 8 → q.args.length ≤ 1) ∧ smL q.typ ∧ (q.kind = 4 → q.labels ≠ []) ∧ (q.kind = 6 → 0 < q.kids.length ∧ ¬ q.chan = q.var) ∧ (∀ x ∈ q.args, valueB x = true) := by
  have hzl := Pr.szs_len q.kids
  have hzz := Pr.sz_eq q
  unfold nodeB at h
  rw [Bool.and_eq_true] at h
  obtain ⟨ha, h⟩ := h
  have hva : ∀ x ∈ q.args, valueB x = true := fun x hx => List.all_eq_true.1 ha x hx
  by_cases h1 : q.kind = 1
  · rw [if_pos h1] at h
    simp only [Bool.and_eq_true, decide_eq_true_eq] at h
    exact ⟨by omega, fun _ => by omega, plain_smL h.2.2.2.2.2, fun _ => by omega, fun _ => by omega, hva⟩
  rw [if_neg h1] at h
  by_cases h2 : q.kind = 2
  · rw [if_pos h2] at h
    simp only [Bool.and_eq_true, decide_eq_true_eq] at h
    exact ⟨by omega, fun _ => by omega, plain_smL h.2.2.2.2.2, fun _ => by omega, fun _ => by omega, hva⟩
  rw [if_neg h2] at h
  by_cases h3 : q.kind = 3
  · rw [if_pos h3] at h
    simp only [Bool.and_eq_true, decide_eq_true_eq] at h
    exact ⟨by omega, fun _ => by omega, plain_smL h.2.2.2.2.2, fun _ => by omega, fun _ => by omega, hva⟩
  rw [if_neg h3] at h
  by_cases h4 : q.kind = 4
  · rw [if_pos h4] at h
    simp only [Bool.and_eq_true, decide_eq_true_eq] at h
    exact ⟨by omega, fun _ => by omega, plain_smL h.2.2.2.2.2.2, fun _ hc => by rw [hc] at h; simp at h, fun _ => by omega, hva⟩
  rw [if_neg h4] at h
  by_cases h5 : q.kind = 5
  · rw [if_pos h5] at h
    simp only [Bool.and_eq_true, decide_eq_true_eq] at h
    exact ⟨by omega, fun _ => by omega, plain_smL h.2.2.2.2.2.2, fun _ => by omega, fun _ => by omega, hva⟩
  rw [if_neg h5] at h
  by_cases h6 : q.kind = 6
  · rw [if_pos h6] at h
    simp only [Bool.and_eq_true, decide_eq_true_eq, ne_eq] at h
    have hr := h.2.2.2.2.2.2.1
    unfold rightT at hr
    have hsm : smL q.typ := by
      split at hr
      · cases hr
      · exact nodeT_smL _ _ _ _ (by omega) hr
    exact ⟨by omega, fun _ => by omega, hsm, fun _ => by omega, fun _ => ⟨by omega, h.2.2.1⟩, hva⟩
  rw [if_neg h6] at h
  by_cases h7 : q.kind = 7
  · rw [if_pos h7] at h
    simp only [Bool.and_eq_true, decide_eq_true_eq] at h
    exact ⟨by omega, fun _ => by omega, plain_smL h.2.2.2.2.2.2, fun _ => by omega, fun _ => by omega, hva⟩
  rw [if_neg h7] at h
  by_cases h8 : q.kind = 8
  · rw [if_pos h8] at h
    simp only [Bool.and_eq_true, decide_eq_true_eq] at h
    exact ⟨by omega, fun hn => absurd h8 hn, plain_smL h.2.2.2.2, fun _ => by omega, fun _ => by omega, hva⟩
  · rw [if_neg h8] at h; cases h
theorem callE_zero {w : Pg} {c : Str} {n : Nat} {g : Bool} (h : callE w c n g = 0) : g = true ∧ ∃ i, ∃ h : i < w.defs.length, findI w.defs c = i ∧ (w.defs[i]).params.length = n := by
  by_cases hf : findI w.defs c < 0
  · rw [callE_neg hf] at h; cases h
  have hlt := findI_lt w.defs c
  have hl : (findI w.defs c).toNat < w.defs.length := by omega
  rw [callE_pos (by omega) hl] at h
  by_cases h1 : (w.defs[(findI w.defs c).toNat]).params.length ≠ n
  · rw [if_pos h1] at h; cases h
  rw [if_neg h1] at h
  have h2 : (w.defs[(findI w.defs c).toNat]).params.length = n := Classical.not_not.1 h1
  refine ⟨?_, _, hl, by omega, h2⟩
  cases g with
  | true => rfl
  | false => rw [if_pos rfl] at h; cases h
theorem node_good {p : Pg} {g : Bool} (hpl : ∀ d ∈ p.defs, d.params.length ≤ 20) : ∀ (q : Pr) (sc : List Str) (gd u : Bool), nodeC p q sc gd = 0 → nodesB q = true → okP q → tyS q → q.sz ≤ 1000 → (u = true → gd = g) → goodP p g q u sc := Pr.ind' fun q ih sc gd u hc hb ho ht hz hu => by
  have hzl := Pr.szs_len q.kids
  have hzz := Pr.sz_eq q
  rw [nodeC_eq] at hc
  by_cases c1 : preK q.kind = true ∧ q.chan ∉ sc
  · rw [if_pos c1] at hc; cases hc
  rw [if_neg c1] at hc
  by_cases c2 : (q.args.any fun x => decide (x.kind = 1) && decide (x.name ∉ sc)) = true
  · rw [if_pos c2] at hc; cases hc
  rw [if_neg c2] at hc
  by_cases c3 : ((innerL q).any fun x => decide (x ∈ sc)) = true
  · rw [if_pos c3] at hc; cases hc
  rw [if_neg c3] at hc
  by_cases c4 : q.kind = 8 ∧ callE p q.chan q.args.length gd ≠ 0
  · rw [if_pos c4] at hc; exact absurd hc c4.2
  rw [if_neg c4, nodeCs_eq, firstE_zero] at hc
  rw [nodesB_eq, Bool.and_eq_true, nodesBs_eq, List.all_eq_true] at hb
  obtain ⟨t1, t2⟩ := (tyS_iff q).1 ht
  obtain ⟨b1, b2, b3, b4, b5, b6⟩ := nodeB_sm hb.1 hz t1
  have h8 : q.kind = 8 → gd = true ∧ ∃ i, ∃ h : i < p.defs.length, findI p.defs q.chan = i ∧ (p.defs[i]).params.length = q.args.length := fun hk =>
    callE_zero (Classical.byContradiction fun h => c4 ⟨hk, h⟩)
  refine (goodP_iff q).2 ⟨⟨fun hk => ?_, fun x hx => ?_, ⟨b1, ?_, by omega, b3⟩, b4, fun hk => ⟨(b5 hk).1, (b5 hk).2, ho.chan, ho.var⟩, fun hk hut => ?_⟩, fun k hk => ?_⟩
  · exact .inl (Classical.byContradiction fun h => c1 ⟨hk, h⟩)
  · have hox := ho.args.2 x hx
    refine ⟨hox, ?_⟩
    by_cases hk : x.kind = 1
    · refine .inl ⟨hk, Classical.byContradiction fun h => c2 (List.any_eq_true.2 ⟨x, hx, ?_⟩)⟩
      simp [hk, h]
    · exact .inr (valueB_short (b6 x hx) hox hk)
  · by_cases hk : q.kind = 8
    · obtain ⟨_, i, hi, _, h2⟩ := h8 hk
      have := hpl _ (List.getElem_mem hi)
      omega
    · have := b2 hk; omega
  · obtain ⟨h1, h2⟩ := h8 hk
    exact ⟨by rw [← hu hut, h1], h2⟩
  · have h1 := hc _ (List.mem_map.2 ⟨k, hk, rfl⟩)
    have h2 := Pr.szs_mem hk
    refine ih k hk _ _ _ h1 (hb.2 k hk) (ho.kid hk) (t2 k hk) (by omega) fun hut => ?_
    simp only [Bool.and_eq_true, Bool.not_eq_true'] at hut
    rw [hut.2, Bool.or_false]
    exact hu hut.1
theorem findN {n : Nat} {f : Nat → Bool} (h : firstN n f = none) : ∀ i, i < n → f i = false := fun i hi => by
  unfold firstN at h
  rw [List.find?_eq_none] at h
  have := h i (List.mem_range.2 hi)
  simpa using this
theorem check_zero {p : Pg} (h : (checkL p).1 = 0) : progE p = 0 ∧ (∀ i (hi : i < p.defs.length), nodeC p p.defs[i].body (p.defs[i].params.map Pm.name) false = 0) ∧ nodeC p p.main [] true = 0 := by
  unfold checkL at h
  by_cases h1 : progE p ≠ 0
  · rw [if_pos h1] at h; exact absurd h h1
  rw [if_neg h1] at h
  cases h2 : firstN p.defs.length (dupD p) with
  | some i => rw [h2] at h; cases h
  | none =>
    rw [h2] at h
    simp only at h
    cases h3 : firstN p.defs.length (fun i => decide (bodyE p i ≠ 0)) with
    | some i =>
      rw [h3] at h
      simp only at h
      have := (List.find?_eq_some_iff_append.1 h3).1
      simp [h] at this
    | none =>
      rw [h3] at h
      refine ⟨Classical.not_not.1 h1, fun i hi => ?_, h⟩
      have := findN h3 i hi
      rw [← bodyE_eq hi]
      simpa using this
theorem rightP_nodes {q : Pr} (h : rightP q = 0) : nodesB q = true := by
  unfold rightP at h
  split at h
  · cases h
  split at h
  · assumption
  · cases h
theorem progE_zero {p : Pg} (h : progE p = 0) : nodesB p.main = true ∧ ∀ d ∈ p.defs, nodesB d.body = true := by
  unfold progE at h
  split at h
  · cases h
  split at h
  · rename_i h1; exact absurd h h1
  rename_i h1
  split at h
  · rename_i h2; exact absurd h h2
  rename_i h2
  have h3 := Classical.not_not.1 h1
  rw [firstE_zero] at h3
  exact ⟨rightP_nodes (Classical.not_not.1 h2), fun d hd => rightP_nodes (h3 _ (List.mem_map.2 ⟨d, hd, rfl⟩))⟩
theorem fewPr_100 {t : Pr} (h : fewPr t 100 = true) : t.sz ≤ 100 ∧ tyS t := by
  have h2 := fewPr_sm (by omega) (by omega) h
  unfold fewPr at h
  simp only [Bool.and_eq_true, decide_eq_true_eq] at h
  have h3 := fewPr_sz (by omega) h.1
  exact ⟨by omega, h2.2⟩
theorem little_100 {p : Pg} (h : littleB p 100 = true) : p.defs.length ≤ 20 ∧ (p.main.sz ≤ 100 ∧ tyS p.main) ∧ ∀ d ∈ p.defs, (d.body.sz ≤ 100 ∧ tyS d.body) ∧ d.params.length ≤ 20 := by
  rw [littleB_eq] at h
  simp only [Bool.and_eq_true, decide_eq_true_eq, List.all_eq_true] at h
  obtain ⟨h2, h3, h4⟩ := h
  refine ⟨h2, fewPr_100 h3, fun d hd => ?_⟩
  have h5 := h4 d hd
  unfold littleD at h5
  simp only [Bool.and_eq_true, decide_eq_true_eq, List.all_eq_true] at h5
  exact ⟨fewPr_100 h5.1, h5.2.1⟩
/-- How deep the calls go. -/
def startN : Nat := 300
def startC (p : Pg) : Cf := addF p startN ⟨[], []⟩ p.main
theorem start_all {p : Pg} (hp : okPg p) (h : rightPg p 100 = true) : p.defs.length ≤ 1000000 ∧ okF p startN ⟨[], []⟩ p.main ∧ (startC p).th.length ≤ 1000000 ∧ (∀ x ∈ (startC p).th, hasL x) ∧ ∀ x ∈ (startC p).th, x.chan.length ≤ 2147483647 := by
  unfold rightPg at h
  simp only [Bool.and_eq_true, decide_eq_true_eq] at h
  obtain ⟨hl, hc⟩ := h
  obtain ⟨l1, ⟨l2, l3⟩, l4⟩ := little_100 hl
  obtain ⟨c1, c2, c3⟩ := check_zero hc
  obtain ⟨e1, e2⟩ := progE_zero c1
  have hpl : ∀ d ∈ p.defs, d.params.length ≤ 20 := fun d hd => (l4 d hd).2
  have hd : defOK p := ⟨fun d hdm => by
    obtain ⟨i, hi, rfl⟩ := List.mem_iff_getElem.1 hdm
    obtain ⟨⟨h1, h2⟩, _⟩ := l4 _ hdm
    exact ⟨h1, node_good hpl _ _ false true (c2 i hi) (e2 _ hdm) (hp.defs _ hdm).2.1 h2 (by omega) fun _ => rfl⟩⟩
  have hg : goodP p true p.main true [] := node_good hpl _ _ true true c3 e1 hp.main l3 (by omega) fun _ => rfl
  have hdp := Pr.dp_le p.main
  have hw : wgt true p.main.sz = 100 * p.main.sz := rfl
  obtain ⟨hok, a, b, he, ha, _, hx⟩ := add_good hd startN true p.main ⟨[], []⟩ hg (by simp only [reduceIte, startN]; omega) (by omega) (by simp only [List.length_nil]; omega) (by simp only [List.length_nil]; omega)
  have hs : (startC p).th = a := by unfold startC; rw [he]; rfl
  rw [hs]
  refine ⟨by omega, hok, by omega, fun x hm => (hx x hm).1, fun x hm => ?_⟩
  have := (hx x hm).2
  unfold short at this
  omega
end Go.Duo
