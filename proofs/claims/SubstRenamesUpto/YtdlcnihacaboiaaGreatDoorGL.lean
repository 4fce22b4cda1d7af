/-
  A part of the proof.
-/
import Derived.Test.YtdlcnihacaboiaaGreatDoorGK
import Derived.Test.YtdlcnihacaboiaaGreatDoorGI
import Derived.Test.YtdlcnihacaboiaaGreatDoorGD
set_option linter.all false
namespace Go.Duo
open Go
def Ty.kind : Ty → Int | .mk k _ _ _ _ _ => k
def Ty.prio : Ty → Int | .mk _ p _ _ _ _ => p
def Ty.name : Ty → Str | .mk _ _ n _ _ _ => n
def Ty.shift : Ty → Int | .mk _ _ _ s _ _ => s
def Ty.labels : Ty → List Str | .mk _ _ _ _ l _ => l
def Ty.kids : Ty → List Ty | .mk _ _ _ _ _ ks => ks
def Pr.var : Pr → Str | .mk _ _ v _ _ _ _ => v
def Pr.args : Pr → List Vl | .mk _ _ _ _ a _ _ => a
def Pr.typ : Pr → Ty | .mk _ _ _ _ _ t _ => t
def Pr.kids : Pr → List Pr | .mk _ _ _ _ _ _ ks => ks
theorem encT_f0 (t : Ty) (u : V) : (encT t).cells.headD u = .int .i64 t.kind := by cases t; rw [encT_mk]; rfl
theorem encT_f1 (t : Ty) (u : V) : ((encT t).cells.drop 1).headD u = .int .i64 t.prio := by cases t; rw [encT_mk]; rfl
theorem encT_f2 (t : Ty) (u : V) : ((encT t).cells.drop 2).headD u = .str t.name := by cases t; rw [encT_mk]; rfl
theorem encT_f3 (t : Ty) (u : V) : ((encT t).cells.drop 3).headD u = .int .i64 t.shift := by cases t; rw [encT_mk]; rfl
theorem encT_f4 (t : Ty) (u : V) : ((encT t).cells.drop 4).headD u = .sl (t.labels.map .str) none := by cases t; rw [encT_mk]; rfl
theorem encT_f5 (t : Ty) (u : V) : ((encT t).cells.drop 5).headD u = .sl (t.kids.map encT) none := by cases t; rw [encT_mk]; rfl
theorem encP_f2 (p : Pr) (u : V) : ((encP p).cells.drop 2).headD u = .str p.var := by cases p; rw [encP_mk]; rfl
theorem encP_f4 (p : Pr) (u : V) : ((encP p).cells.drop 4).headD u = .sl (p.args.map encV) none := by cases p; rw [encP_mk]; rfl
theorem encP_f5 (p : Pr) : ((encP p).cells.drop 5).take 6 = (encT p.typ).cells := by
  cases p; rw [encP_mk, c_agg]; exact take_T _ _
theorem encP_f11 (p : Pr) (u : V) : ((encP p).cells.drop 11).headD u = .sl (p.kids.map encP) none := by
  obtain ⟨k, c, v, l, a, t, ks⟩ := p
  rw [encP_mk, c_agg]
  have h := drop_T t [.sl (ks.map encP) none]
  show (List.drop 6 ((encT t).cells ++ [.sl (ks.map encP) none])).headD u = _
  rw [h]; rfl
theorem encT_dlen (p : Ty) (n : Nat) : ((encT p).cells.drop n).length = 6 - n := by rw [List.length_drop, encT_len]
theorem encP_all (p : Pr) : encP p = .agg (.int .i64 p.kind :: .str p.chan :: .str p.var :: .sl (p.labels.map .str) none :: .sl (p.args.map encV) none :: ((encT p.typ).cells ++ [.sl (p.kids.map encP) none])) := by cases p; rw [encP_mk]; rfl
theorem encT_all (t : Ty) : encT t = .agg [.int .i64 t.kind, .int .i64 t.prio, .str t.name, .int .i64 t.shift, .sl (t.labels.map .str) none, .sl (t.kids.map encT) none] := by cases t; rw [encT_mk]; rfl
theorem encP_cells' (p : Pr) : (encP p).cells = .int .i64 p.kind :: .str p.chan :: .str p.var :: .sl (p.labels.map .str) none :: .sl (p.args.map encV) none :: ((encT p.typ).cells ++ [.sl (p.kids.map encP) none]) := by rw [encP_all]; rfl
theorem encT_cells' (t : Ty) : (encT t).cells = [.int .i64 t.kind, .int .i64 t.prio, .str t.name, .int .i64 t.shift, .sl (t.labels.map .str) none, .sl (t.kids.map encT) none] := by rw [encT_all]; rfl
theorem fieldE_T (P : Program) (t : TypeId) (f : Nat) (x : Ty) : fieldE P t f (encT x) = match fld P t f with | none => none | some (off, n, g) => if off + n ≤ 6 then some (pack g n ((encT x).cells.drop off)) else none := by
  rw [← encT_cells x]; unfold fieldE; simp only [c_agg, encT_len]; cases fld P t f <;> rfl
theorem fieldE_P (P : Program) (t : TypeId) (f : Nat) (x : Pr) : fieldE P t f (encP x) = match fld P t f with | none => none | some (off, n, g) => if off + n ≤ 12 then some (pack g n ((encP x).cells.drop off)) else none := by
  rw [← encP_cells x]; unfold fieldE; simp only [c_agg, encP_len]; cases fld P t f <;> rfl
theorem fieldE_V (P : Program) (t : TypeId) (f : Nat) (x : Vl) : fieldE P t f (encV x) = match fld P t f with | none => none | some (off, n, g) => if off + n ≤ 3 then some (pack g n ((encV x).cells.drop off)) else none := by
  unfold encV fieldE; simp only [c_agg, List.length_cons, List.length_nil]; rfl
theorem encV_len (v : Vl) : (encV v).cells.length = 3 := rfl
theorem encV_one (v : Vl) : (encV v).cells.all V.one = true := rfl
theorem encV_pureB (v : Vl) : (encV v).cells.all pureB = true := rfl
theorem encV_bare (v : Vl) : (encV v).bare = encV v := rfl
theorem encV_fold (v : Vl) : V.agg [.int .i64 v.kind, .str v.name, .int .i64 v.n] = encV v := rfl
theorem encV_take (v : Vl) (l : List V) : ((encV v).cells ++ l).take 3 = (encV v).cells := by rw [encV_cells]; rfl
theorem encV_at (l : List Vl) (i : Nat) (h : i < (l.map encV).length) : (l.map encV)[i] = encV (l[i]'(by simpa using h)) := List.getElem_map ..
theorem str_at (l : List Str) (i : Nat) (h : i < (l.map V.str).length) : (l.map V.str)[i] = V.str (l[i]'(by simpa using h)) := List.getElem_map ..
theorem encT_trim (t : Ty) (k : Nat) : (encT t).trim k = encT t := by cases t; rw [encT_mk]; rfl
theorem encT_trimL (t : Ty) (k : Nat) : (encT t).cells.map (V.trim k) = (encT t).cells := by cases t; rw [encT_mk]; rfl
theorem encP_trimL (p : Pr) (k : Nat) : (encP p).cells.map (V.trim k) = (encP p).cells := by
  rw [encP_cells', List.map_cons, List.map_cons, List.map_cons, List.map_cons, List.map_cons, List.map_append, encT_trimL]; rfl
theorem trimL_map (k : Nat) (l : List V) : V.trim.trimL k l = l.map (V.trim k) := by
  induction l with
  | nil => rfl
  | cons x l ih => rw [V.trim.trimL, ih]; rfl
theorem encP_trim (p : Pr) (k : Nat) : (encP p).trim k = encP p := by
  rw [← encP_cells p]; show V.agg (V.trim.trimL k (encP p).cells) = _; rw [trimL_map, encP_trimL]
structure Pm where
  name : Str
  t : Ty
structure Df where
  name : Str
  params : List Pm
  body : Pr
structure Pg where
  defs : List Df
  main : Pr
def encPm (x : Pm) : V := .agg (.str x.name :: (encT x.t).cells)
def encDf (d : Df) : V := .agg (.str d.name :: .sl (d.params.map encPm) none :: (encP d.body).cells)
def encPg (p : Pg) : V := .agg (.sl (p.defs.map encDf) none :: (encP p.main).cells)
theorem encPm_cells (x : Pm) : (encPm x).cells = .str x.name :: (encT x.t).cells := rfl
theorem encDf_cells (x : Df) : (encDf x).cells = .str x.name :: .sl (x.params.map encPm) none :: (encP x.body).cells := rfl
theorem encPg_cells (p : Pg) : (encPg p).cells = .sl (p.defs.map encDf) none :: (encP p.main).cells := rfl
theorem encPm_at (l : List Pm) (i : Nat) (h : i < (l.map encPm).length) : (l.map encPm)[i] = encPm (l[i]'(by simpa using h)) := List.getElem_map ..
theorem encDf_at (l : List Df) (i : Nat) (h : i < (l.map encDf).length) : (l.map encDf)[i] = encDf (l[i]'(by simpa using h)) := List.getElem_map ..
theorem encPm_agg (x : Pm) : V.agg (.str x.name :: (encT x.t).cells) = encPm x := rfl
theorem encDf_agg (x : Df) : V.agg (.str x.name :: .sl (x.params.map encPm) none :: (encP x.body).cells) = encDf x := rfl
theorem fieldE_Pg (P : Program) (t : TypeId) (f : Nat) (x : Pg) : fieldE P t f (encPg x) = match fld P t f with | none => none | some (off, n, g) => if off + n ≤ 13 then some (pack g n ((encPg x).cells.drop off)) else none := by
  unfold encPg fieldE; simp only [c_agg, List.length_cons, encP_len]; cases fld P t f <;> rfl
theorem fieldE_Df (P : Program) (t : TypeId) (f : Nat) (x : Df) : fieldE P t f (encDf x) = match fld P t f with | none => none | some (off, n, g) => if off + n ≤ 14 then some (pack g n ((encDf x).cells.drop off)) else none := by
  unfold encDf fieldE; simp only [c_agg, List.length_cons, encP_len]; cases fld P t f <;> rfl
theorem encPg_trimL (p : Pg) (k : Nat) : (encPg p).cells.map (V.trim k) = (encPg p).cells := by rw [encPg_cells, List.map_cons, encP_trimL]; rfl
theorem encDf_trimL (p : Df) (k : Nat) : (encDf p).cells.map (V.trim k) = (encDf p).cells := by rw [encDf_cells, List.map_cons, List.map_cons, encP_trimL]; rfl
theorem encPm_trimL (p : Pm) (k : Nat) : (encPm p).cells.map (V.trim k) = (encPm p).cells := by rw [encPm_cells, List.map_cons, encT_trimL]; rfl
theorem Ty.ind' {p : Ty → Prop} (h : ∀ t : Ty, (∀ u ∈ t.kids, p u) → p t) (t : Ty) : p t := Ty.ind (fun k pr n s l ks ih => h _ ih) t
theorem Pr.ind' {p : Pr → Prop} (h : ∀ t : Pr, (∀ u ∈ t.kids, p u) → p t) (t : Pr) : p t := Pr.ind (fun k c v l a t ks ih => h _ ih) t
mutual
def Ty.sz : Ty → Nat
  | .mk _ _ _ _ _ ks => 1 + Ty.szs ks
def Ty.szs : List Ty → Nat
  | [] => 0
  | t :: ts => t.sz + Ty.szs ts
end
mutual
def Ty.dp : Ty → Nat
  | .mk _ _ _ _ _ ks => Ty.dps ks + 1
def Ty.dps : List Ty → Nat
  | [] => 0
  | t :: ts => max t.dp (Ty.dps ts)
end
mutual
def Pr.sz : Pr → Nat
  | .mk _ _ _ _ _ _ ks => 1 + Pr.szs ks
def Pr.szs : List Pr → Nat
  | [] => 0
  | t :: ts => t.sz + Pr.szs ts
end
mutual
def Pr.dp : Pr → Nat
  | .mk _ _ _ _ _ _ ks => Pr.dps ks + 1
def Pr.dps : List Pr → Nat
  | [] => 0
  | t :: ts => max t.dp (Pr.dps ts)
end
mutual
def Pr.tz : Pr → Nat
  | .mk k _ _ _ _ t ks => (if k = 6 then t.sz else 0) + Pr.tzs ks
def Pr.tzs : List Pr → Nat
  | [] => 0
  | t :: ts => t.tz + Pr.tzs ts
end
theorem Ty.sz_eq (t : Ty) : t.sz = 1 + Ty.szs t.kids := by cases t; rw [Ty.sz]; rfl
theorem Ty.dp_eq (t : Ty) : t.dp = Ty.dps t.kids + 1 := by cases t; rw [Ty.dp]; rfl
theorem Pr.sz_eq (t : Pr) : t.sz = 1 + Pr.szs t.kids := by cases t; rw [Pr.sz]; rfl
theorem Pr.dp_eq (t : Pr) : t.dp = Pr.dps t.kids + 1 := by cases t; rw [Pr.dp]; rfl
theorem Pr.tz_eq (t : Pr) : t.tz = (if t.kind = 6 then t.typ.sz else 0) + Pr.tzs t.kids := by cases t; rw [Pr.tz]; rfl
section
/-- Sums and maxima along a list. -/
theorem take_snoc {α : Type} {l : List α} {i : Nat} (h : i < l.length) : l.take (i + 1) = l.take i ++ [l[i]] := by rw [List.take_succ, List.getElem?_eq_getElem h]; rfl
theorem Ty.szs_app (a b : List Ty) : Ty.szs (a ++ b) = Ty.szs a + Ty.szs b := by induction a with | nil => simp [Ty.szs] | cons x a ih => rw [List.cons_append, Ty.szs, Ty.szs, ih]; omega
theorem Ty.dps_app (a b : List Ty) : Ty.dps (a ++ b) = max (Ty.dps a) (Ty.dps b) := by induction a with | nil => simp [Ty.dps] | cons x a ih => rw [List.cons_append, Ty.dps, Ty.dps, ih]; omega
theorem Pr.szs_app (a b : List Pr) : Pr.szs (a ++ b) = Pr.szs a + Pr.szs b := by induction a with | nil => simp [Pr.szs] | cons x a ih => rw [List.cons_append, Pr.szs, Pr.szs, ih]; omega
theorem Pr.dps_app (a b : List Pr) : Pr.dps (a ++ b) = max (Pr.dps a) (Pr.dps b) := by induction a with | nil => simp [Pr.dps] | cons x a ih => rw [List.cons_append, Pr.dps, Pr.dps, ih]; omega
theorem Ty.szs_take {l : List Ty} {i : Nat} (h : i < l.length) : Ty.szs (l.take (i + 1)) = Ty.szs (l.take i) + l[i].sz := by rw [take_snoc h, Ty.szs_app]; simp [Ty.szs]
theorem Ty.dps_take {l : List Ty} {i : Nat} (h : i < l.length) : Ty.dps (l.take (i + 1)) = max (Ty.dps (l.take i)) l[i].dp := by rw [take_snoc h, Ty.dps_app]; simp [Ty.dps]
theorem Pr.szs_take {l : List Pr} {i : Nat} (h : i < l.length) : Pr.szs (l.take (i + 1)) = Pr.szs (l.take i) + l[i].sz := by rw [take_snoc h, Pr.szs_app]; simp [Pr.szs]
theorem Pr.dps_take {l : List Pr} {i : Nat} (h : i < l.length) : Pr.dps (l.take (i + 1)) = max (Pr.dps (l.take i)) l[i].dp := by rw [take_snoc h, Pr.dps_app]; simp [Pr.dps]
theorem Ty.szs_le {l : List Ty} (i : Nat) : Ty.szs (l.take i) ≤ Ty.szs l := by have h := Ty.szs_app (l.take i) (l.drop i); rw [List.take_append_drop] at h; omega
theorem Pr.szs_le {l : List Pr} (i : Nat) : Pr.szs (l.take i) ≤ Pr.szs l := by have h := Pr.szs_app (l.take i) (l.drop i); rw [List.take_append_drop] at h; omega
theorem Ty.szs_mem {l : List Ty} {t : Ty} (h : t ∈ l) : t.sz ≤ Ty.szs l := by
  obtain ⟨i, hi, rfl⟩ := List.mem_iff_getElem.1 h
  have h1 := Ty.szs_take hi; have h2 := Ty.szs_le (l := l) (i + 1); omega
theorem Pr.szs_mem {l : List Pr} {t : Pr} (h : t ∈ l) : t.sz ≤ Pr.szs l := by
  obtain ⟨i, hi, rfl⟩ := List.mem_iff_getElem.1 h
  have h1 := Pr.szs_take hi; have h2 := Pr.szs_le (l := l) (i + 1); omega
theorem Ty.dps_mem {l : List Ty} {t : Ty} (h : t ∈ l) : t.dp ≤ Ty.dps l := by
  obtain ⟨i, hi, rfl⟩ := List.mem_iff_getElem.1 h
  have h1 := Ty.dps_take hi
  have h2 : Ty.dps (l.take (i + 1)) ≤ Ty.dps l := by
    conv => rhs; rw [← List.take_append_drop (i + 1) l, Ty.dps_app]
    omega
  omega
theorem Pr.dps_mem {l : List Pr} {t : Pr} (h : t ∈ l) : t.dp ≤ Pr.dps l := by
  obtain ⟨i, hi, rfl⟩ := List.mem_iff_getElem.1 h
  have h1 := Pr.dps_take hi
  have h2 : Pr.dps (l.take (i + 1)) ≤ Pr.dps l := by
    conv => rhs; rw [← List.take_append_drop (i + 1) l, Pr.dps_app]
    omega
  omega
theorem Ty.szs_len (l : List Ty) : l.length ≤ Ty.szs l := by induction l with | nil => simp | cons t l ih => rw [Ty.szs, List.length_cons, Ty.sz_eq]; omega
theorem Pr.szs_len (l : List Pr) : l.length ≤ Pr.szs l := by induction l with | nil => simp | cons t l ih => rw [Pr.szs, List.length_cons, Pr.sz_eq]; omega
theorem Ty.dp_le : ∀ t : Ty, t.dp ≤ t.sz := Ty.ind' fun t ih => by
  rw [Ty.dp_eq, Ty.sz_eq]
  have : ∀ l : List Ty, (∀ u ∈ l, u.dp ≤ u.sz) → Ty.dps l ≤ Ty.szs l := by
    intro l; induction l with
    | nil => intro _; simp [Ty.dps]
    | cons u l ihl => intro h; rw [Ty.dps, Ty.szs]; have h1 := h u (List.mem_cons_self ..); have h2 := ihl fun v hv => h v (List.mem_cons_of_mem _ hv); omega
  have := this t.kids ih; omega
theorem Pr.dp_le : ∀ t : Pr, t.dp ≤ t.sz := Pr.ind' fun t ih => by
  rw [Pr.dp_eq, Pr.sz_eq]
  have : ∀ l : List Pr, (∀ u ∈ l, u.dp ≤ u.sz) → Pr.dps l ≤ Pr.szs l := by
    intro l; induction l with
    | nil => intro _; simp [Pr.dps]
    | cons u l ihl => intro h; rw [Pr.dps, Pr.szs]; have h1 := h u (List.mem_cons_self ..); have h2 := ihl fun v hv => h v (List.mem_cons_of_mem _ hv); omega
  have := this t.kids ih; omega
end
mutual
def leftT : Ty → Int → Int
  | .mk _ _ _ _ _ ks, m => leftTs ks (m - 1)
def leftTs : List Ty → Int → Int
  | [], m => m
  | t :: ts, m => if 0 ≤ m then leftTs ts (leftT t m) else m
end
theorem leftT_eq (t : Ty) (m : Int) : leftT t m = leftTs t.kids (m - 1) := by cases t; rw [leftT]; rfl
theorem leftT_spec : ∀ t : Ty, ∀ m : Int, 0 ≤ m → -1 ≤ leftT t m ∧ leftT t m < m ∧ (0 ≤ leftT t m → leftT t m = m - t.sz) := Ty.ind' fun t ih m hm => by
  rw [leftT_eq, Ty.sz_eq]
  have key : ∀ l : List Ty, (∀ u ∈ l, ∀ m : Int, 0 ≤ m → -1 ≤ leftT u m ∧ leftT u m < m ∧ (0 ≤ leftT u m → leftT u m = m - u.sz)) → ∀ m : Int, -1 ≤ m → -1 ≤ leftTs l m ∧ leftTs l m ≤ m ∧ (0 ≤ leftTs l m → leftTs l m = m - Ty.szs l) := by
    intro l; induction l with
    | nil => intro _ m hm; simp only [leftTs, Ty.szs]; omega
    | cons u l ihl =>
      intro h m hm
      rw [leftTs, Ty.szs]
      split
      · rename_i h0
        have h1 := h u (List.mem_cons_self ..) m h0
        have h2 := ihl (fun v hv => h v (List.mem_cons_of_mem _ hv)) (leftT u m) h1.1
        refine ⟨h2.1, by omega, fun h3 => ?_⟩
        have h4 := h2.2.2 h3
        have h5 : 0 ≤ leftT u m := by omega
        have h6 := h1.2.2 h5
        omega
      · omega
  have h := key t.kids ih (m - 1) (by omega)
  refine ⟨h.1, by omega, fun h3 => ?_⟩
  have h4 := h.2.2 h3
  omega
def fewTy (t : Ty) (m : Int) : Bool := decide (0 ≤ leftT t m) && decide (t.dp ≤ 150)
attribute [go_sem] encT_trim encT_trimL encP_trim encP_trimL encPg_trimL encDf_trimL encPm_trimL encT_f0 encT_f1 encT_f2 encT_f3 encT_f4 encT_f5 encP_f2 encP_f4 encP_f5 encP_f11 encT_dlen encV_len encV_one encV_pureB encV_bare encV_fold encV_take encV_at str_at encPm_cells encDf_cells encPm_at encDf_at encPm_agg encDf_agg encV_cells encPg_cells
attribute [go_sem high] fieldE_T fieldE_P fieldE_V fieldE_Pg fieldE_Df
end Go.Duo

namespace Go.Duo
open Go
def labelsB (l : List Str) : Bool := decide (∀ (j : Nat) (hj : j < l.length), nameB l[j] = true ∧ l[j] ∉ l.take j)
theorem labelsB_no1 {l : List Str} {i : Nat} (h : i < l.length) (hn : nameB l[i] = false) : labelsB l = false := by
  unfold labelsB; rw [decide_eq_false]; intro hh; have := (hh i h).1; rw [hn] at this; cases this
theorem labelsB_no2 {l : List Str} {i : Nat} (h : i < l.length) (hn : l[i] ∈ l.take i) : labelsB l = false := by
  unfold labelsB; rw [decide_eq_false]; intro hh; exact (hh i h).2 hn
theorem labelsB_yes {l : List Str} {i : Nat} (hi : l.length ≤ i) (h : ∀ (j : Nat) (hj : j < l.length), j < i → nameB l[j] = true ∧ l[j] ∉ l.take j) : labelsB l = true := by
  unfold labelsB; rw [decide_eq_true]; intro j hj; exact h j hj (by omega)
def prioB (n : Int) : Bool := decide (0 ≤ n) && decide (n ≤ 1000000)
def shapeB (t : Ty) : Bool :=
  if t.kind = 1 ∨ t.kind = 2 ∨ t.kind = 3 then decide (t.prio = 0) && (decide (t.name = []) && (decide (t.shift = 0) && (decide (t.labels.length = 0) && decide (t.kids.length = 0))))
  else if t.kind = 4 ∨ t.kind = 5 then prioB t.prio && (decide (t.name = []) && (decide (t.shift = 0) && (decide (t.labels.length = 0) && decide (t.kids.length = 2))))
  else if t.kind = 6 ∨ t.kind = 7 then prioB t.prio && (decide (t.name = []) && (decide (t.shift = 0) && (decide (0 < t.labels.length) && (labelsB t.labels && decide (t.kids.length = t.labels.length)))))
  else if t.kind = 8 then decide (t.prio = 0) && (nameB t.name && (decide (t.shift = 0) && (decide (t.labels.length = 0) && decide (t.kids.length = 1))))
  else if t.kind = 9 then decide (t.prio = 0) && (nameB t.name && (prioB t.shift && (decide (t.labels.length = 0) && decide (t.kids.length = 0))))
  else false
def sessB (t : Ty) : Bool := decide (t.kind ≠ 1) && decide (t.kind ≠ 2)
/-- A variable under binders: j: how many of them are looked at still. -/
def varE (names : List Str) (n : Str) (g : Nat) : Nat → Int
  | 0 => 4
  | j + 1 => if names[j]? = some n then (if j < g then 0 else 3) else varE names n g j
mutual
def nodeT : Ty → List Str → Nat → Bool → Int
  | .mk k p n s l ks, names, g, se =>
    if shapeB (.mk k p n s l ks) = false ∨ (se = true ∧ sessB (.mk k p n s l ks) = false) then 3
    else if k = 9 then varE names n g names.length
    else if k = 8 then nodeT1 ks (names ++ [n]) g
    else nodeTs ks names (decide (5 < k))
def nodeT1 : List Ty → List Str → Nat → Int
  | [], _, _ => 0
  | t :: _, names, g => nodeT t names g true
def nodeTs : List Ty → List Str → Bool → Int
  | [], _, _ => 0
  | t :: ts, names, b => if nodeT t names names.length b = 0 then nodeTs ts names true else nodeT t names names.length b
end
theorem nodeT_eq (t : Ty) (names : List Str) (g : Nat) (se : Bool) : nodeT t names g se = if shapeB t = false ∨ (se = true ∧ sessB t = false) then 3
    else if t.kind = 9 then varE names t.name g names.length else if t.kind = 8 then nodeT1 t.kids (names ++ [t.name]) g else nodeTs t.kids names (decide (5 < t.kind)) := by
  cases t; rw [nodeT]; rfl
theorem nodeTs_at {l : List Ty} {names : List Str} {b : Bool} {i : Nat} (h : i < l.length) : nodeTs (l.drop i) names b = if nodeT l[i] names names.length b = 0 then nodeTs (l.drop (i + 1)) names true else nodeT l[i] names names.length b := by
  rw [List.drop_eq_getElem_cons h, nodeTs]
theorem nodeTs_end {l : List Ty} {names : List Str} {b : Bool} {i : Nat} (h : l.length ≤ i) : nodeTs (l.drop i) names b = 0 := by
  rw [List.drop_eq_nil_of_le h, nodeTs]
def rightT (t : Ty) : Int := if 100 < t.dp ∨ 10000 < t.sz then 2 else nodeT t [] 0 false
def valueB (v : Vl) : Bool := (decide (v.kind = 1) && (nameB v.name && decide (v.n = 0))) || (decide (v.kind = 2) && decide (v.name = [])) || (decide (v.kind = 3) && (decide (v.name = []) && (decide (v.n = 0) || decide (v.n = 1))))
def Ty.zero : Ty := .mk 0 0 [] 0 [] []
def plainB (p : Pr) : Bool := sameT p.typ Ty.zero
def nodeB (p : Pr) : Bool := p.args.all valueB &&
  if p.kind = 1 then decide (p.chan = []) && (decide (p.var = []) && (decide (p.args.length = 0) && (decide (p.labels.length = 0) && (decide (p.kids.length = 0) && plainB p))))
  else if p.kind = 2 then nameB p.chan && (decide (p.var = []) && (decide (p.args.length = 1) && (decide (p.labels.length = 0) && (decide (p.kids.length = 1) && plainB p))))
  else if p.kind = 3 then nameB p.chan && (nameB p.var && (decide (p.args.length = 0) && (decide (p.labels.length = 0) && (decide (p.kids.length = 1) && plainB p))))
  else if p.kind = 4 then nameB p.chan && (decide (p.var = []) && (decide (p.args.length = 0) && (decide (p.labels.length = 1) && (nameB (p.labels.headD []) && (decide (p.kids.length = 1) && plainB p)))))
  else if p.kind = 5 then nameB p.chan && (decide (p.var = []) && (decide (p.args.length = 0) && (decide (0 < p.labels.length) && (labelsB p.labels && (decide (p.kids.length = p.labels.length) && plainB p)))))
  else if p.kind = 6 then nameB p.chan && (nameB p.var && (decide (p.chan ≠ p.var) && (decide (p.args.length = 0) && (decide (p.labels.length = 0) && (decide (p.kids.length = 1) && (decide (rightT p.typ = 0) && sessB p.typ))))))
  else if p.kind = 7 then p.kids.all (fun q => decide (q.kind ≠ 7)) && (decide (p.chan = []) && (decide (p.var = []) && (decide (p.args.length = 0) && (decide (p.labels.length = 0) && (decide (2 ≤ p.kids.length) && plainB p)))))
  else if p.kind = 8 then nameB p.chan && (decide (p.var = []) && (decide (p.labels.length = 0) && (decide (p.kids.length = 0) && plainB p)))
  else false
mutual
def nodesB : Pr → Bool
  | .mk k c v l a t ks => nodeB (.mk k c v l a t ks) && nodesBs ks
def nodesBs : List Pr → Bool
  | [] => true
  | p :: ps => nodesB p && nodesBs ps
end
theorem nodesB_eq (p : Pr) : nodesB p = (nodeB p && nodesBs p.kids) := by cases p; rw [nodesB]; rfl
theorem nodesBs_eq (l : List Pr) : nodesBs l = l.all nodesB := by induction l with | nil => rfl | cons p l ih => rw [nodesBs, List.all_cons, ih]
def rightP (p : Pr) : Int := if 100 < p.dp ∨ 10000 < p.sz then 2 else if nodesB p = true then 0 else 3
def Df.pz (d : Df) : Nat := (d.params.map fun x => x.t.sz).sum
def Pg.total (p : Pg) : Nat := p.main.sz + p.main.tz + (p.defs.map fun d => d.body.sz + d.body.tz + d.pz).sum
mutual
def leftPr : Pr → Int → Int
  | .mk _ _ _ _ _ t ks, m => if fewTy t 300 = true then leftPrs ks (m - 1) else -1
def leftPrs : List Pr → Int → Int
  | [], m => m
  | t :: ts, m => if 0 ≤ m then leftPrs ts (leftPr t m) else m
end
theorem leftPr_eq (p : Pr) (m : Int) : leftPr p m = if fewTy p.typ 300 = true then leftPrs p.kids (m - 1) else -1 := by cases p; rw [leftPr]; rfl
def fewPr (p : Pr) (m : Int) : Bool := decide (0 ≤ leftPr p m) && decide (p.dp ≤ 150)
def preK (k : Int) : Bool := decide (2 ≤ k) && decide (k ≤ 5)
end Go.Duo

namespace Go.Duo
open Go
section
variable {P : Program} {gl : Nat → V} {st : List O}
theorem Call.le {k : FuncId} {args args' : List V} {K : V → List O → Prop} (hl : args.length = args'.length) (h : ∀ (i : Nat) (c d : V), args[i]? = some c → args'[i]? = some d → V.le st c d) (hc : Call P gl k args' st K) : Call P gl k args st K := fun w s xs hst hs hxs =>
  hc w s xs hst hs ⟨by rw [← hl]; exact hxs.1, fun i d x hd hx => by
    have hi : i < args.length := by rw [hl]; exact (List.getElem?_eq_some_iff.1 hd).1
    exact h i args[i] d (List.getElem?_eq_getElem hi) hd w s x hst (hxs.2 i _ x (List.getElem?_eq_getElem hi) hx)⟩
end
end Go.Duo

namespace Go.Duo
open Go
section
variable {st : List O}
theorem V.leS {es es' : List V} {t : Option Nat} (h : es = es') : V.le st (.sl es t) (.sl es' none) := h ▸ V.le_sl _ _ _
theorem V.le_aggL {cs ds : List V} (h : CLe st cs ds) : V.le st (.agg cs) (.agg ds) := V.le_agg h.spec.1 h.spec.2
theorem Ty.dps_le {l : List Ty} (i : Nat) : Ty.dps (l.take i) ≤ Ty.dps l := by have h := Ty.dps_app (l.take i) (l.drop i); rw [List.take_append_drop] at h; omega
theorem Pr.dps_le {l : List Pr} (i : Nat) : Pr.dps (l.take i) ≤ Pr.dps l := by have h := Pr.dps_app (l.take i) (l.drop i); rw [List.take_append_drop] at h; omega
theorem max_if (a b : Nat) : (if a < b then ((b : Nat) : Int) else ((a : Nat) : Int)) = ((max a b : Nat) : Int) := by split <;> omega
theorem max_ifI (a b : Nat) : (if (a : Int) < (b : Int) then ((b : Nat) : Int) else ((a : Nat) : Int)) = ((max a b : Nat) : Int) := by split <;> omega
end
def inI (n : Int) : Prop := -9223372036854775808 ≤ n ∧ n ≤ 9223372036854775807
def inS (s : Str) : Prop := s.length ≤ 9223372036854775807
def inL {α : Type} (l : List α) : Prop := l.length ≤ 9223372036854775807
mutual
def okT : Ty → Prop
  | .mk k p n s l ks => inI k ∧ inI p ∧ inS n ∧ inI s ∧ (inL l ∧ ∀ x ∈ l, inS x) ∧ inL ks ∧ okTs ks
def okTs : List Ty → Prop
  | [] => True
  | t :: ts => okT t ∧ okTs ts
end
def okV (v : Vl) : Prop := inI v.kind ∧ inS v.name ∧ inI v.n
mutual
def okP : Pr → Prop
  | .mk k c v l a t ks => inI k ∧ inS c ∧ inS v ∧ (inL l ∧ ∀ x ∈ l, inS x) ∧ (inL a ∧ ∀ x ∈ a, okV x) ∧ okT t ∧ inL ks ∧ okPs ks
def okPs : List Pr → Prop
  | [] => True
  | t :: ts => okP t ∧ okPs ts
end
theorem okTs_iff (l : List Ty) : okTs l ↔ ∀ t ∈ l, okT t := by induction l with | nil => simp [okTs] | cons t l ih => simp [okTs, ih]
theorem okPs_iff (l : List Pr) : okPs l ↔ ∀ t ∈ l, okP t := by induction l with | nil => simp [okPs] | cons t l ih => simp [okPs, ih]
theorem okT_iff (t : Ty) : okT t ↔ inI t.kind ∧ inI t.prio ∧ inS t.name ∧ inI t.shift ∧ (inL t.labels ∧ ∀ x ∈ t.labels, inS x) ∧ inL t.kids ∧ ∀ u ∈ t.kids, okT u := by cases t; rw [okT, okTs_iff]; rfl
theorem okP_iff (p : Pr) : okP p ↔ inI p.kind ∧ inS p.chan ∧ inS p.var ∧ (inL p.labels ∧ ∀ x ∈ p.labels, inS x) ∧ (inL p.args ∧ ∀ x ∈ p.args, okV x) ∧ okT p.typ ∧ inL p.kids ∧ ∀ u ∈ p.kids, okP u := by cases p; rw [okP, okPs_iff]; rfl
theorem okT.kid {t u : Ty} (h : okT t) (hu : u ∈ t.kids) : okT u := ((okT_iff t).1 h).2.2.2.2.2.2 u hu
theorem okP.kid {t u : Pr} (h : okP t) (hu : u ∈ t.kids) : okP u := ((okP_iff t).1 h).2.2.2.2.2.2.2 u hu
theorem okP.typ {t : Pr} (h : okP t) : okT t.typ := ((okP_iff t).1 h).2.2.2.2.2.1
theorem okT.name {t : Ty} (h : okT t) : t.name.length ≤ 9223372036854775807 := ((okT_iff t).1 h).2.2.1
theorem okT.labels {t : Ty} (h : okT t) : t.labels.length ≤ 9223372036854775807 ∧ ∀ x ∈ t.labels, x.length ≤ 9223372036854775807 := ((okT_iff t).1 h).2.2.2.2.1
theorem okP.chan {t : Pr} (h : okP t) : t.chan.length ≤ 9223372036854775807 := ((okP_iff t).1 h).2.1
theorem okP.var {t : Pr} (h : okP t) : t.var.length ≤ 9223372036854775807 := ((okP_iff t).1 h).2.2.1
theorem okP.labels {t : Pr} (h : okP t) : t.labels.length ≤ 9223372036854775807 ∧ ∀ x ∈ t.labels, x.length ≤ 9223372036854775807 := ((okP_iff t).1 h).2.2.2.1
theorem okP.args {t : Pr} (h : okP t) : t.args.length ≤ 9223372036854775807 ∧ ∀ x ∈ t.args, okV x := ((okP_iff t).1 h).2.2.2.2.1
theorem okV.name {v : Vl} (h : okV v) : v.name.length ≤ 9223372036854775807 := h.2.1
theorem leftTs_step {l : List Ty} {i : Nat} {a : Int} (h : i < l.length) (ha : 0 ≤ a) : leftTs (l.drop i) a = leftTs (l.drop (i + 1)) (leftT l[i] a) := by
  rw [List.drop_eq_getElem_cons h, leftTs, if_pos ha]
theorem leftTs_neg {l : List Ty} {a : Int} (ha : a < 0) : leftTs l a = a := by
  cases l with
  | nil => rfl
  | cons t l => rw [leftTs, if_neg (by omega)]
theorem leftTs_end {l : List Ty} {i : Nat} {a : Int} (h : l.length ≤ i) : leftTs (l.drop i) a = a := by rw [List.drop_eq_nil_of_le h, leftTs]
theorem leftPrs_step {l : List Pr} {i : Nat} {a : Int} (h : i < l.length) (ha : 0 ≤ a) : leftPrs (l.drop i) a = leftPrs (l.drop (i + 1)) (leftPr l[i] a) := by
  rw [List.drop_eq_getElem_cons h, leftPrs, if_pos ha]
theorem leftPrs_neg {l : List Pr} {a : Int} (ha : a < 0) : leftPrs l a = a := by
  cases l with
  | nil => rfl
  | cons t l => rw [leftPrs, if_neg (by omega)]
theorem leftPrs_end {l : List Pr} {i : Nat} {a : Int} (h : l.length ≤ i) : leftPrs (l.drop i) a = a := by rw [List.drop_eq_nil_of_le h, leftPrs]
theorem fewTy_sz {t : Ty} {m : Int} (hm : 0 ≤ m) (h : 0 ≤ leftT t m) : (t.sz : Int) ≤ m := by have h1 := (leftT_spec t m hm).2.2 h; omega
theorem leftPr_spec : ∀ t : Pr, ∀ m : Int, 0 ≤ m → -1 ≤ leftPr t m ∧ leftPr t m < m ∧ (0 ≤ leftPr t m → leftPr t m = m - t.sz) := Pr.ind' fun t ih m hm => by
  rw [leftPr_eq, Pr.sz_eq]
  have key : ∀ l : List Pr, (∀ u ∈ l, ∀ m : Int, 0 ≤ m → -1 ≤ leftPr u m ∧ leftPr u m < m ∧ (0 ≤ leftPr u m → leftPr u m = m - u.sz)) → ∀ m : Int, -1 ≤ m → -1 ≤ leftPrs l m ∧ leftPrs l m ≤ m ∧ (0 ≤ leftPrs l m → leftPrs l m = m - Pr.szs l) := by
    intro l; induction l with
    | nil => intro _ m hm; simp only [leftPrs, Pr.szs]; omega
    | cons u l ihl =>
      intro h m hm
      rw [leftPrs, Pr.szs]
      split
      · rename_i h0
        have h1 := h u (List.mem_cons_self ..) m h0
        have h2 := ihl (fun v hv => h v (List.mem_cons_of_mem _ hv)) (leftPr u m) h1.1
        refine ⟨h2.1, by omega, fun h3 => ?_⟩
        have h4 := h2.2.2 h3
        have h5 : 0 ≤ leftPr u m := by omega
        have h6 := h1.2.2 h5
        omega
      · omega
  split
  · have h := key t.kids ih (m - 1) (by omega)
    refine ⟨h.1, by omega, fun h3 => ?_⟩
    have h4 := h.2.2 h3
    omega
  · refine ⟨by omega, by omega, fun h => by omega⟩
theorem fewPr_sz {t : Pr} {m : Int} (hm : 0 ≤ m) (h : 0 ≤ leftPr t m) : (t.sz : Int) ≤ m := by have h1 := (leftPr_spec t m hm).2.2 h; omega
mutual
def tyS : Pr → Prop
  | .mk _ _ _ _ _ t ks => t.sz ≤ 300 ∧ tySs ks
def tySs : List Pr → Prop
  | [] => True
  | t :: ts => tyS t ∧ tySs ts
end
theorem tySs_iff (l : List Pr) : tySs l ↔ ∀ t ∈ l, tyS t := by induction l with | nil => simp [tySs] | cons t l ih => simp [tySs, ih]
theorem tyS_iff (p : Pr) : tyS p ↔ p.typ.sz ≤ 300 ∧ ∀ u ∈ p.kids, tyS u := by cases p; rw [tyS, tySs_iff]; rfl
theorem leftPrs_ge : ∀ (l : List Pr) (m : Int), -1 ≤ m → leftPrs l m ≤ m := by
  intro l; induction l with
  | nil => intro m _; rw [leftPrs]; omega
  | cons u l ih =>
    intro m hm; rw [leftPrs]; split
    · rename_i h0; have h1 := leftPr_spec u m h0; have := ih (leftPr u m) h1.1; omega
    · omega
theorem leftPr_tyS : ∀ t : Pr, ∀ m : Int, 0 ≤ m → 0 ≤ leftPr t m → tyS t := Pr.ind' fun t ih m hm h => by
  rw [leftPr_eq] at h
  split at h
  · rename_i hf
    rw [tyS_iff]
    simp only [fewTy, Bool.and_eq_true, decide_eq_true_eq] at hf
    have h300 := fewTy_sz (m := 300) (by omega) hf.1
    refine ⟨by omega, ?_⟩
    have key : ∀ l : List Pr, (∀ u ∈ l, ∀ m : Int, 0 ≤ m → 0 ≤ leftPr u m → tyS u) → ∀ m : Int, -1 ≤ m → 0 ≤ leftPrs l m → ∀ u ∈ l, tyS u := by
      intro l; induction l with
      | nil => intro _ _ _ _ u hu; cases hu
      | cons v l ihl =>
        intro hl m hm h u hu
        rw [leftPrs] at h
        split at h
        · rename_i h0
          have h1 := leftPr_spec v m h0
          have h2 := leftPrs_ge l (leftPr v m) h1.1
          rcases List.mem_cons.1 hu with rfl | hu
          · exact hl _ (List.mem_cons_self ..) m h0 (by omega)
          · exact ihl (fun w hw => hl w (List.mem_cons_of_mem _ hw)) _ h1.1 h u hu
        · omega
    exact key t.kids ih (m - 1) (by omega) h
  · omega
section
variable {α : Type}
theorem gall_at {p : α → Bool} {l : List α} {i : Nat} (h : i < l.length) : (l.drop i).all p = (p l[i] && (l.drop (i + 1)).all p) := by rw [List.drop_eq_getElem_cons h, List.all_cons]
theorem gall_yes {p : α → Bool} {l : List α} {i : Nat} {b : Bool} (hb : b = (l.drop i).all p) (h : i < l.length) (hp : p l[i] = true) : b = (l.drop (i + 1)).all p := by rw [hb, gall_at h, hp, Bool.true_and]
theorem gall_no {p : α → Bool} {l : List α} {i : Nat} {b : Bool} (hb : b = (l.drop i).all p) (h : i < l.length) (hp : p l[i] = false) : b = false := by rw [hb, gall_at h, hp, Bool.false_and]
theorem gall_end {p : α → Bool} {l : List α} {i : Nat} {b : Bool} (hb : b = (l.drop i).all p) (h : l.length ≤ i) : b = true := by rw [hb, List.drop_eq_nil_of_le h]; rfl
def sumN (f : α → Nat) (l : List α) : Nat := (l.map f).sum
theorem sumN_bound {f : α → Nat} {c : Nat} : ∀ {l : List α}, (∀ x ∈ l, f x ≤ c) → sumN f l ≤ l.length * c := by
  intro l; induction l with
  | nil => intro _; simp [sumN]
  | cons a l ih =>
    intro h
    have h1 := ih fun x hx => h x (List.mem_cons_of_mem _ hx)
    have h2 := h a (List.mem_cons_self ..)
    simp only [sumN, List.map_cons, List.sum_cons, List.length_cons] at h1 ⊢
    rw [Nat.succ_mul]; omega
end
theorem hd_at {α : Type} {l : List α} {d : α} (h : 0 < l.length) : l.head?.getD d = l[0] := by cases l with | nil => simp at h | cons a l => rfl
def Pm.sz (x : Pm) : Nat := x.t.sz
def Df.wz (d : Df) : Nat := d.body.sz + d.body.tz + sumN Pm.sz d.params
theorem tyS_tz : ∀ t : Pr, tyS t → t.tz ≤ 300 * t.sz := Pr.ind' fun t ih h => by
  rw [tyS_iff] at h
  rw [Pr.tz_eq, Pr.sz_eq]
  have key : ∀ l : List Pr, (∀ u ∈ l, tyS u → u.tz ≤ 300 * u.sz) → (∀ u ∈ l, tyS u) → Pr.tzs l ≤ 300 * Pr.szs l := by
    intro l; induction l with
    | nil => intro _ _; simp [Pr.tzs]
    | cons u l ihl =>
      intro h1 h2
      rw [Pr.tzs, Pr.szs]
      have := h1 u (List.mem_cons_self ..) (h2 u (List.mem_cons_self ..))
      have := ihl (fun v hv => h1 v (List.mem_cons_of_mem _ hv)) fun v hv => h2 v (List.mem_cons_of_mem _ hv)
      omega
  have := key t.kids ih h.2
  split <;> omega
/-- The program is small. -/
structure smPg (p : Pg) : Prop where
  main : p.main.sz ≤ 1000 ∧ tyS p.main
  len : p.defs.length ≤ 20
  defs : ∀ d ∈ p.defs, (d.body.sz ≤ 1000 ∧ tyS d.body) ∧ d.params.length ≤ 20 ∧ ∀ x ∈ d.params, x.t.sz ≤ 300
theorem smPg.wz {p : Pg} (h : smPg p) {d : Df} (hd : d ∈ p.defs) : d.body.tz ≤ 300000 ∧ sumN Pm.sz d.params ≤ 6000 ∧ d.wz ≤ 307000 := by
  obtain ⟨h1, h2, h3⟩ := h.defs d hd
  have h4 := tyS_tz _ h1.2
  have h5 := sumN_bound (f := Pm.sz) (c := 300) h3
  have h6 : d.params.length * 300 ≤ 20 * 300 := Nat.mul_le_mul_right _ h2
  refine ⟨by omega, by omega, ?_⟩
  unfold Df.wz; omega
theorem smPg.tz {p : Pg} (h : smPg p) : p.main.tz ≤ 300000 ∧ sumN Df.wz p.defs ≤ 6140000 := by
  have h4 := tyS_tz _ h.main.2
  have h5 := sumN_bound (f := Df.wz) (c := 307000) fun d hd => (h.wz hd).2.2
  have h6 : p.defs.length * 307000 ≤ 20 * 307000 := Nat.mul_le_mul_right _ h.len
  have h7 := h.main.1
  exact ⟨by omega, by omega⟩
theorem sameT_eq (a b : Ty) : sameT a b = (decide (a.kind = b.kind) && decide (a.prio = b.prio) && decide (a.name = b.name) && decide (a.shift = b.shift) && decide (a.labels = b.labels) && decide (a.kids.length = b.kids.length) && sameTs a.kids b.kids) := by
  cases a; cases b; rw [sameT]; rfl
theorem sameTs_at {a b : List Ty} {i : Nat} (h : i < a.length) (h2 : i < b.length) : sameTs (a.drop i) (b.drop i) = (sameT a[i] b[i] && sameTs (a.drop (i + 1)) (b.drop (i + 1))) := by
  rw [List.drop_eq_getElem_cons h, List.drop_eq_getElem_cons h2, sameTs]
theorem sameTs_end {a b : List Ty} {i : Nat} (h : a.length ≤ i) : sameTs (a.drop i) (b.drop i) = true := by
  rw [List.drop_eq_nil_of_le h]; cases b.drop i <;> rfl
theorem take_eq_step {α : Type} {a b : List α} {i : Nat} (h : a.take i = b.take i) (h1 : i < a.length) (h2 : i < b.length) (h3 : a[i] = b[i]) : a.take (i + 1) = b.take (i + 1) := by rw [take_snoc h1, take_snoc h2, h, h3]
theorem take_eq_end {α : Type} {a b : List α} {i : Nat} (h : a.take i = b.take i) (hl : a.length = b.length) (hi : a.length ≤ i) : a = b := by
  rwa [List.take_of_length_le hi, List.take_of_length_le (by omega)] at h
theorem ne_at {α : Type} {a b : List α} {i : Nat} (h1 : i < a.length) (h2 : i < b.length) (h3 : ¬ a[i] = b[i]) : ¬ a = b := by rintro rfl; exact h3 rfl
theorem all_str (l : List Str) : ((l.map V.str).all fun e => e.cells.length == 1) = true := by simp [V.cells]
theorem all_encT (l : List Ty) : ((l.map encT).all fun e => e.cells.length == 6) = true := by simp [encT_len]
theorem all_encP (l : List Pr) : ((l.map encP).all fun e => e.cells.length == 12) = true := by simp [encP_len]
theorem all_encV (l : List Vl) : ((l.map encV).all fun e => e.cells.length == 3) = true := by simp [encV_len]
theorem take_map_str (l : List Str) (i : Nat) : (l.map V.str).take i = (l.take i).map V.str := List.map_take.symm
theorem drop_map_str (l : List Str) (i : Nat) : (l.map V.str).drop i = (l.drop i).map V.str := List.map_drop.symm
theorem varE_hit {names : List Str} {n : Str} {g j : Nat} (h : j < names.length) (he : names[j] = n) : varE names n g (j + 1) = if j < g then 0 else 3 := by rw [varE, List.getElem?_eq_getElem h, he, if_pos rfl]
theorem varE_miss {names : List Str} {n : Str} {g j : Nat} (h : j < names.length) (he : ¬ names[j] = n) : varE names n g (j + 1) = varE names n g j := by rw [varE, List.getElem?_eq_getElem h, if_neg (by simpa using he)]
theorem shapeB_8 {t : Ty} (h : shapeB t = true) (h8 : t.kind = 8) : t.kids.length = 1 := by
  unfold shapeB at h; simp [h8] at h; exact h.2.2.2.2
theorem nodeT1_at {l : List Ty} {names : List Str} {g : Nat} (h : 0 < l.length) : nodeT1 l names g = nodeT l[0] names g true := by
  cases l with
  | nil => simp at h
  | cons t l => rw [nodeT1]; rfl
theorem kid_dp {t : Ty} {i : Nat} (h : i < t.kids.length) : (t.kids[i]).dp < t.dp := by have := Ty.dps_mem (List.getElem_mem h); rw [Ty.dp_eq t]; omega
theorem kid_sz {t : Ty} {i : Nat} (h : i < t.kids.length) : (t.kids[i]).sz < t.sz := by have := Ty.szs_mem (List.getElem_mem h); rw [Ty.sz_eq t]; omega
theorem kidP_dp {t : Pr} {i : Nat} (h : i < t.kids.length) : (t.kids[i]).dp < t.dp := by have := Pr.dps_mem (List.getElem_mem h); rw [Pr.dp_eq t]; omega
theorem kidP_sz {t : Pr} {i : Nat} (h : i < t.kids.length) : (t.kids[i]).sz < t.sz := by have := Pr.szs_mem (List.getElem_mem h); rw [Pr.sz_eq t]; omega
theorem ic0 (n : Nat) : ((n : Int) = 0) = (n = 0) := by simp
theorem ic1 (n : Nat) : ((n : Int) = 1) = (n = 1) := propext (by omega)
theorem ic2 (n : Nat) : ((n : Int) = 2) = (n = 2) := propext (by omega)
theorem ip0 (n : Nat) : ((0 : Int) < (n : Int)) = (0 < n) := propext (by omega)
theorem ip2 (n : Nat) : ((2 : Int) ≤ (n : Int)) = (2 ≤ n) := propext (by omega)
attribute [go_sem] ic0 ic1 ic2 ip0 ip2
attribute [go_sem] max_if max_ifI all_str all_encT all_encP all_encV take_map_str drop_map_str
end Go.Duo

namespace Go.Duo
open Go
theorem take_T7 (t : Ty) (a : V) : ((encT t).cells ++ [a]).take 7 = (encT t).cells ++ [a] := List.take_of_length_le (by rw [len_T]; exact Nat.le_refl _)
theorem drop_T7 (t : Ty) (a : V) : ((encT t).cells ++ [a]).drop 7 = [] := List.drop_of_length_le (by rw [len_T]; exact Nat.le_refl _)
attribute [go_sem] take_T7 drop_T7
/-- The zero process. -/
def ZP : List V := [.int .i64 0, .str [], .str [], .nil, .nil, .int .i64 0, .int .i64 0, .str [], .int .i64 0, .nil, .nil, .nil]
theorem zpE : ZP = [.int .i64 0, .str [], .str [], .nil, .nil, .int .i64 0, .int .i64 0, .str [], .int .i64 0, .nil, .nil, .nil] := rfl
attribute [go_sem] zpE
theorem c_ref (i v : Nat) : (V.ref i v).cells = [.ref i v] := rfl
theorem c_rptr (i v o : Nat) : (V.rptr i v o).cells = [.rptr i v o] := rfl
attribute [go_sem] c_ref c_rptr
theorem CLe.app {S : List O} {a l l' : List V} (h : CLe S l l') : CLe S (a ++ l) (a ++ l') := by
  induction a with
  | nil => exact h
  | cons x a ih => exact ⟨V.le_refl _ _, ih⟩
theorem trimL_app (k : Nat) (a b : List V) : V.trim.trimL k (a ++ b) = V.trim.trimL k a ++ V.trim.trimL k b := by rw [trimL_map, trimL_map, trimL_map, List.map_append]
theorem trimL_T (k : Nat) (t : Ty) : V.trim.trimL k (encT t).cells = (encT t).cells := by rw [trimL_map, encT_trimL]
theorem trimL_P (k : Nat) (t : Pr) : V.trim.trimL k (encP t).cells = (encP t).cells := by rw [trimL_map, encP_trimL]
attribute [go_sem] trimL_app trimL_T trimL_P
theorem cellsP (p : Pr) : (encP p).cells = .int .i64 p.kind :: .str p.chan :: .str p.var :: .sl (p.labels.map .str) none :: .sl (p.args.map encV) none :: ((encT p.typ).cells ++ [.sl (p.kids.map encP) none]) := encP_cells' p
theorem foldP (p : Pr) : V.agg (.int .i64 p.kind :: .str p.chan :: .str p.var :: .sl (p.labels.map .str) none :: .sl (p.args.map encV) none :: ((encT p.typ).cells ++ [.sl (p.kids.map encP) none])) = encP p := (encP_all p).symm
def valueS (v : Vl) : Str := if v.kind = 2 then Lib.itoa v.n else if v.kind = 3 ∧ v.n = 1 then [116, 114, 117, 101] else if v.kind = 3 then [102, 97, 108, 115, 101] else v.name
def Vl.zero : Vl := ⟨0, [], 0⟩
theorem md12 (n : Nat) : n * 12 / 12 = n := Nat.mul_div_cancel n (by decide)
theorem md3 (n : Nat) : n * 3 / 3 = n := Nat.mul_div_cancel n (by decide)
attribute [go_sem] md12 md3
end Go.Duo

namespace Go.Duo
open Go
abbrev Tb := List (Str × Vl)
def tget : Tb → Str → Option Vl
  | [], _ => none
  | (k, v) :: t, s => if s = k then some v else tget t s
def tdel : Tb → Str → Tb
  | [], _ => []
  | (k, v) :: t, s => if s = k then t else (k, v) :: tdel t s
def tput : Tb → Str → Vl → Tb
  | [], s, x => [(s, x)]
  | (k, v) :: t, s, x => if s = k then (k, x) :: t else (k, v) :: tput t s x
def keysT (t : Tb) : List V := t.map fun p => .str p.1
def valsT (t : Tb) : List V := t.map fun p => encV p.2
theorem keysT_cons (k : Str) (v : Vl) (t : Tb) : keysT ((k, v) :: t) = .str k :: keysT t := rfl
theorem valsT_cons (k : Str) (v : Vl) (t : Tb) : valsT ((k, v) :: t) = encV v :: valsT t := rfl
theorem keyEq_str (a b : Str) : keyEq (.str a) (.str b) = decide (a = b) := rfl
theorem keysT_all (t : Tb) : (keysT t).all (keyD .string) = true := by simp [keysT, keyD]
theorem getT (t : Tb) (s : Str) (z : V) : getK (.str s) (keysT t) (valsT t) z = match tget t s with | some v => encV v | none => z := by
  induction t with
  | nil => rfl
  | cons p t ih =>
    obtain ⟨k, v⟩ := p
    simp only [keysT_cons, valsT_cons, getK, idxK, keyEq_str, tget, decide_eq_true_eq] at ih ⊢
    by_cases h : s = k
    · simp [h]
    · rw [if_neg h, if_neg h, ← ih]
      cases idxK (.str s) (keysT t) <;> simp
theorem hasT (t : Tb) (s : Str) : hasK (.str s) (keysT t) = (tget t s).isSome := by
  induction t with
  | nil => rfl
  | cons p t ih =>
    obtain ⟨k, v⟩ := p
    simp only [keysT_cons, hasK, idxK, keyEq_str, tget, decide_eq_true_eq] at ih ⊢
    by_cases h : s = k
    · simp [h]
    · rw [if_neg h, if_neg h, ← ih]
      cases idxK (.str s) (keysT t) <;> simp
theorem delT (t : Tb) (s : Str) : delK (.str s) (keysT t) (valsT t) = .map (keysT (tdel t s)) (valsT (tdel t s)) := by
  induction t with
  | nil => rfl
  | cons p t ih =>
    obtain ⟨k, v⟩ := p
    simp only [keysT_cons, valsT_cons, delK, idxK, keyEq_str, tdel, decide_eq_true_eq] at ih ⊢
    by_cases h : s = k
    · simp [h]
    · rw [if_neg h, if_neg h, keysT_cons, valsT_cons]
      cases hi : idxK (.str s) (keysT t) with
      | none => rw [hi] at ih; simp only [Option.map_none, O.map.injEq] at ih ⊢; rw [← ih.1, ← ih.2]; exact ⟨rfl, rfl⟩
      | some i => rw [hi] at ih; simp only [Option.map_some, O.map.injEq, List.eraseIdx_cons_succ] at ih ⊢; rw [ih.1, ih.2]; exact ⟨rfl, rfl⟩
theorem setT (t : Tb) (s : Str) (x : Vl) : setK (.str s) (encV x) (keysT t) (valsT t) = .map (keysT (tput t s x)) (valsT (tput t s x)) := by
  induction t with
  | nil => rfl
  | cons p t ih =>
    obtain ⟨k, v⟩ := p
    simp only [keysT_cons, valsT_cons, setK, idxK, keyEq_str, tput, decide_eq_true_eq] at ih ⊢
    by_cases h : s = k
    · simp [h, keysT_cons, valsT_cons]
    · rw [if_neg h, if_neg h, keysT_cons, valsT_cons]
      cases hi : idxK (.str s) (keysT t) with
      | none => rw [hi] at ih; simp only [Option.map_none, O.map.injEq, List.cons_append] at ih ⊢; rw [ih.1, ih.2]; exact ⟨rfl, rfl⟩
      | some i => rw [hi] at ih; simp only [Option.map_some, O.map.injEq, List.set_cons_succ] at ih ⊢; rw [← ih.1, ← ih.2]; exact ⟨rfl, rfl⟩
def chanS (t : Tb) (c : Str) : Str := match tget t c with
  | some v => valueS v
  | none => c
def valS (t : Tb) (v : Vl) : Vl := match tget t v.name with
  | some b => if v.kind = 1 then b else v
  | none => v
def innerS (t : Tb) (k : Int) (c v : Str) : Tb := if preK k = true then (if k = 3 then tdel t v else t) else if k = 6 then tdel (tdel t c) v else t
mutual
def subP (t : Tb) : Pr → Pr
  | .mk k c v l a ty ks => .mk k (if preK k = true then chanS t c else c) v l (a.map (valS t)) ty (subPs (innerS t k c v) ks)
def subPs (t : Tb) : List Pr → List Pr
  | [] => []
  | p :: ps => subP t p :: subPs t ps
end
theorem subPs_eq (t : Tb) (l : List Pr) : subPs t l = l.map (subP t) := by induction l with | nil => rfl | cons p l ih => rw [subPs, ih]; rfl
theorem subP_eq (t : Tb) (p : Pr) : subP t p = .mk p.kind (if preK p.kind = true then chanS t p.chan else p.chan) p.var p.labels (p.args.map (valS t)) p.typ (p.kids.map (subP (innerS t p.kind p.chan p.var))) := by
  cases p; rw [subP, subPs_eq]; rfl
theorem map_id' {α : Type} {f : α → α} {l : List α} (h : ∀ x ∈ l, f x = x) : l.map f = l := (List.map_congr_left h).trans (List.map_id _)
theorem sub_nil (p : Pr) : subP [] p = p := by
  induction p using Pr.ind with
  | _ k c v l a ty ks ih =>
    rw [subP, subPs_eq]
    have h1 : innerS [] k c v = [] := by simp [innerS, tdel]
    have h2 : a.map (valS []) = a := map_id' fun x _ => rfl
    rw [h1, h2, map_id' ih]
    simp [chanS, tget]
/-- A name stands nowhere in a process. -/
inductive noN (d : Str) : Pr → Prop
  | mk (k : Int) (c v : Str) (l : List Str) (a : List Vl) (ty : Ty) (ks : List Pr) (hc : c ≠ d) (hv : v ≠ d) (ha : ∀ x ∈ a, x.kind = 1 → x.name ≠ d) (hk : ∀ q ∈ ks, noN d q) : noN d (.mk k c v l a ty ks)
theorem sub_no {d : Str} {y : Vl} {p : Pr} (h : noN d p) : subP [(d, y)] p = p := by
  induction h with
  | mk k c v l a ty ks hc hv ha hk ih =>
    rw [subP, subPs_eq]
    have h1 : innerS [(d, y)] k c v = [(d, y)] := by simp [innerS, tdel, hc, hv]
    have h2 : a.map (valS [(d, y)]) = a := map_id' fun x hx => by
      unfold valS
      simp only [tget]
      split
      · rename_i b hb
        by_cases hk1 : x.kind = 1
        · simp [ha x hx hk1] at hb
        · rw [if_neg hk1]
      · rfl
    rw [h1, h2, map_id' ih]
    simp [chanS, tget, hc]
theorem valS_n {t : Tb} {x : Vl} (h : ¬ x.kind = 1) : valS t x = x := by
  unfold valS
  split
  · rw [if_neg h]
  · rfl
/-- Through a new name. -/
theorem sub_two {d old new : Str} {p : Pr} (h : noN d p) : subP [(d, ⟨1, new, 0⟩)] (subP [(old, ⟨1, d, 0⟩)] p) = subP [(old, ⟨1, new, 0⟩)] p := by
  induction h with
  | mk k c v l a ty ks hc hv ha hk ih =>
    have hargs : (a.map (valS [(old, ⟨1, d, 0⟩)])).map (valS [(d, ⟨1, new, 0⟩)]) = a.map (valS [(old, ⟨1, new, 0⟩)]) := by
      rw [List.map_map]
      refine List.map_congr_left fun x hx => ?_
      simp only [Function.comp]
      by_cases hk1 : x.kind = 1
      · have hd := ha x hx hk1
        by_cases hn : x.name = old
        · simp [valS, tget, hn, hk1]
        · simp [valS, tget, hn, hd]
      · rw [valS_n hk1, valS_n hk1, valS_n hk1]
    have hchan : ∀ c', (if preK k = true then chanS [(old, ⟨1, d, 0⟩)] c else c) = c' → (if preK k = true then chanS [(d, ⟨1, new, 0⟩)] c' else c') = if preK k = true then chanS [(old, ⟨1, new, 0⟩)] c else c := fun c' he => by
      subst he
      by_cases hp : preK k = true
      · simp only [hp, if_true, chanS, tget]
        by_cases hn : c = old
        · subst hn; simp [valueS]
        · simp [hn, hc]
      · simp [hp]
    -- the tables within
    have hin : ∀ c', (k = 6 → c' = c) → innerS [(d, ⟨1, new, 0⟩)] k c' v = [(d, ⟨1, new, 0⟩)] := fun c' hcc => by
      unfold innerS
      split
      · simp [tdel, hv]
      · split
        · rename_i h6; rw [hcc h6]; simp [tdel, hc, hv]
        · rfl
    have hin2 : (innerS [(old, ⟨1, d, 0⟩)] k c v = [(old, ⟨1, d, 0⟩)] ∧ innerS [(old, ⟨1, new, 0⟩)] k c v = [(old, ⟨1, new, 0⟩)]) ∨ (innerS [(old, ⟨1, d, 0⟩)] k c v = [] ∧ innerS [(old, ⟨1, new, 0⟩)] k c v = []) := by
      unfold innerS
      by_cases hp : preK k = true
      · by_cases h3 : k = 3
        · by_cases hvo : v = old <;> simp [hp, h3, tdel, hvo]
        · simp [hp, h3]
      · by_cases h6 : k = 6
        · by_cases hco : c = old
          · simp [hp, h6, tdel, hco]
          · by_cases hvo : v = old
            · simp [hp, h6, tdel, hco, hvo]
            · simp [hp, h6, tdel, hco, hvo]
        · simp [hp, h6]
    have hk6 : k = 6 → ¬ preK k = true := fun h => by subst h; decide
    rw [subP_eq [(old, ⟨1, new, 0⟩)], subP_eq [(old, ⟨1, d, 0⟩)], subP_eq]
    simp only [Pr.kind, Pr.chan, Pr.var, Pr.labels, Pr.args, Pr.typ, Pr.kids]
    rw [Pr.mk.injEq]
    refine ⟨rfl, hchan _ rfl, rfl, rfl, hargs, rfl, ?_⟩
    erw [hin (if preK k = true then chanS [(old, ⟨1, d, 0⟩)] c else c) (fun h => by rw [if_neg (hk6 h)])]
    rw [List.map_map]
    refine List.map_congr_left fun q hq => ?_
    simp only [Function.comp]
    rcases hin2 with ⟨e1, e2⟩ | ⟨e1, e2⟩
    · rw [e1, e2]; exact ih q hq
    · rw [e1, e2, sub_nil, sub_no (hk q hq)]
/-- The values are as they should be: a name has no number. -/
inductive okN : Pr → Prop
  | mk (k : Int) (c v : Str) (l : List Str) (a : List Vl) (ty : Ty) (ks : List Pr) (ha : ∀ x ∈ a, x.kind = 1 → x.n = 0) (hk : ∀ q ∈ ks, okN q) : okN (.mk k c v l a ty ks)
theorem sub_self {old : Str} {p : Pr} (h : okN p) : subP [(old, ⟨1, old, 0⟩)] p = p := by
  induction h with
  | mk k c v l a ty ks ha hk ih =>
    rw [subP, subPs_eq]
    have hin : innerS [(old, ⟨1, old, 0⟩)] k c v = [(old, ⟨1, old, 0⟩)] ∨ innerS [(old, ⟨1, old, 0⟩)] k c v = [] := by
      unfold innerS
      by_cases hp : preK k = true
      · by_cases h3 : k = 3
        · by_cases hvo : v = old <;> simp [hp, h3, tdel, hvo]
        · simp [hp, h3]
      · by_cases h6 : k = 6
        · by_cases hco : c = old
          · simp [hp, h6, tdel, hco]
          · by_cases hvo : v = old
            · simp [hp, h6, tdel, hco, hvo]
            · simp [hp, h6, tdel, hco, hvo]
        · simp [hp, h6]
    have h2 : a.map (valS [(old, ⟨1, old, 0⟩)]) = a := map_id' fun x hx => by
      unfold valS
      simp only [tget]
      by_cases hn : x.name = old
      · simp only [hn, if_true]
        by_cases hk1 : x.kind = 1
        · rw [if_pos hk1]
          have := ha x hx hk1
          cases x; simp_all
        · rw [if_neg hk1]
      · rw [if_neg hn]
    have h3 : ks.map (subP (innerS [(old, ⟨1, old, 0⟩)] k c v)) = ks := by
      rcases hin with e | e
      · rw [e]; exact map_id' ih
      · rw [e]; exact map_id' fun q _ => sub_nil q
    rw [h2, h3]
    congr 1
    split
    · unfold chanS
      simp only [tget]
      by_cases hn : c = old
      · subst hn; simp [valueS]
      · simp [hn]
    · rfl
mutual
def usesP : Pr → List Str → List Str
  | .mk k c v _ a _ ks, b => ((if preK k = true then [c] else []) ++ (a.filter fun x => decide (x.kind = 1)).map Vl.name).filter (fun s => decide (s ∉ b)) ++ usesPs ks (b ++ (if k = 3 then [v] else if k = 6 then [c, v] else []))
def usesPs : List Pr → List Str → List Str
  | [], _ => []
  | p :: ps, b => usesP p b ++ usesPs ps b
end
theorem usesPs_mem {ks : List Pr} {b : List Str} {s : Str} : s ∈ usesPs ks b ↔ ∃ q ∈ ks, s ∈ usesP q b := by
  induction ks with
  | nil => simp [usesPs]
  | cons q ks ih => rw [usesPs, List.mem_append, ih]; simp
/-- A name that is not free. -/
theorem sub_free {old : Str} {y : Vl} {p : Pr} : ∀ {b : List Str}, old ∉ b → old ∉ usesP p b → subP [(old, y)] p = p := by
  induction p using Pr.ind with
  | _ k c v l a ty ks ih =>
    intro b hb hu
    rw [usesP] at hu
    simp only [List.mem_append, List.mem_filter, decide_eq_true_eq, List.mem_map, not_or, not_and, Classical.not_not] at hu
    obtain ⟨hu1, hu2⟩ := hu
    rw [subP, subPs_eq]
    have h2 : a.map (valS [(old, y)]) = a := map_id' fun x hx => by
      unfold valS
      simp only [tget]
      by_cases hn : x.name = old
      · simp only [hn, if_true]
        by_cases hk1 : x.kind = 1
        · exact absurd (hu1 (.inr ⟨x, ⟨hx, hk1⟩, hn⟩)) hb
        · rw [if_neg hk1]
      · rw [if_neg hn]
    have hin : ks.map (subP (innerS [(old, y)] k c v)) = ks := by
      by_cases hbound : (k = 3 ∧ v = old) ∨ (k = 6 ∧ (c = old ∨ v = old))
      · have : innerS [(old, y)] k c v = [] := by
          unfold innerS
          rcases hbound with ⟨rfl, rfl⟩ | ⟨rfl, h⟩
          · simp [preK, tdel]
          · by_cases hc : c = old
            · simp [preK, tdel, hc]
            · rcases h with h | h
              · exact absurd h hc
              · simp [preK, tdel, hc, h]
        rw [this]
        exact map_id' fun q _ => sub_nil q
      · have : innerS [(old, y)] k c v = [(old, y)] := by
          unfold innerS
          by_cases hp : preK k = true
          · by_cases h3 : k = 3
            · simp only [hp, h3, if_true]
              have : ¬ v = old := fun h => hbound (.inl ⟨h3, h⟩)
              simp [preK, tdel, this]
            · simp [hp, h3]
          · by_cases h6 : k = 6
            · have hc : ¬ c = old := fun h => hbound (.inr ⟨h6, .inl h⟩)
              have hv : ¬ v = old := fun h => hbound (.inr ⟨h6, .inr h⟩)
              simp [hp, h6, tdel, hc, hv]
            · simp [hp, h6]
        rw [this]
        refine map_id' fun q hq => ih q hq (b := b ++ (if k = 3 then [v] else if k = 6 then [c, v] else [])) (fun hm => ?_) (fun hm => hu2 (usesPs_mem.2 ⟨q, hq, hm⟩))
        rcases List.mem_append.1 hm with hm | hm
        · exact hb hm
        · split at hm
          · simp at hm; exact hbound (.inl ⟨by assumption, hm.symm⟩)
          · split at hm
            · simp at hm
              rcases hm with hm | hm
              · exact hbound (.inr ⟨by assumption, .inl hm.symm⟩)
              · exact hbound (.inr ⟨by assumption, .inr hm.symm⟩)
            · cases hm
    rw [h2, hin]
    congr 1
    split
    · rename_i hp
      unfold chanS
      simp only [tget]
      by_cases hn : c = old
      · exact absurd (hu1 (.inl (by simp [hp, hn]))) hb
      · simp [hn]
    · rfl
mutual
theorem fm_of_trim (k : Nat) (as bs : List V) (n : Nat) (hn : n ≤ k) : ∀ x : V, x.trim n = x → x.fm k as bs = x
  | .agg xs, h => by simp only [V.trim, V.agg.injEq] at h; simp only [V.fm, fm_of_trimL k as bs n hn xs h]
  | .tuple xs, h => by simp only [V.trim, V.tuple.injEq] at h; simp only [V.fm, fm_of_trimL k as bs n hn xs h]
  | .func fn a b, h => by simp only [V.trim, V.func.injEq, true_and] at h; simp only [V.fm, fm_of_trimL k as bs n hn a h.1, fm_of_trimL k as bs n hn b h.2]
  | .iface t y, h => by simp only [V.trim, V.iface.injEq, true_and] at h; simp only [V.fm, fm_of_trim k as bs n hn y h]
  | .map j, h => by
    simp only [V.trim] at h
    split at h
    · simp only [V.fm]; rw [if_neg (by omega)]
    · cases h
  | .undef, _ | .int _ _, _ | .bool _, _ | .str _, _ | .sl _ _, _ | .nil, _ | .ref _ _, _ | .rptr _ _ _, _ | .ptr _ _, _ | .dptr _, _ | .nilptr, _ | .pmap _ _, _ | .nilfunc, _ | .niliface, _ | .yld _, _ => rfl
theorem fm_of_trimL (k : Nat) (as bs : List V) (n : Nat) (hn : n ≤ k) : ∀ xs : List V, V.trim.trimL n xs = xs → V.fm.fmL k as bs xs = xs
  | [], _ => rfl
  | x :: xs, h => by simp only [V.trim.trimL, List.cons.injEq] at h; simp only [V.fm.fmL, fm_of_trim k as bs n hn x h.1, fm_of_trimL k as bs n hn xs h.2]
end
theorem fm_clo {st : List O} (h : Clo st) {k : Nat} (hk : st.length ≤ k) (as bs : List V) : st.map (O.fm k as bs) = st := by
  have h1 := h st.length (Nat.le_refl _)
  have : ∀ o ∈ st, O.fm k as bs o = o := fun o ho => by
    obtain ⟨i, hi, rfl⟩ := List.mem_iff_getElem.1 ho
    have h2 : (st[i]).trim st.length = st[i] := by
      have h3 : (st.map (O.trim st.length))[i]'(by simpa using hi) = st[i] := by simp only [h1]
      rwa [List.getElem_map] at h3
    generalize st[i] = o at h2 ⊢
    cases o with
    | box t xs =>
      simp only [O.trim, O.box.injEq, true_and] at h2
      simp only [O.fm, O.box.injEq, true_and]
      rw [← fmL_eq]
      exact fm_of_trimL k as bs st.length hk xs (by rw [trimL_map]; exact h2)
    | map ks xs =>
      simp only [O.trim, O.map.injEq, true_and] at h2
      simp only [O.fm, O.map.injEq, true_and]
      rw [← fmL_eq]
      exact fm_of_trimL k as bs st.length hk xs (by rw [trimL_map]; exact h2)
    | _ => rfl
  exact (List.map_congr_left this).trans (List.map_id _)
theorem fm_st0 {st : List O} (hst : Clo st) {as bs : List V} {a : O} : ((st ++ [a]).set st.length .dead).map (O.fm st.length as bs) = st ++ [.dead] := by
  rw [List.set_append_right _ _ (Nat.le_refl _), Nat.sub_self, List.map_append, fm_clo hst (Nat.le_refl _)]
  rfl
mutual
def smU : Ty → Prop
  | .mk _ _ _ _ l ks => l.length ≤ 2000000 ∧ smUs ks
def smUs : List Ty → Prop
  | [] => True
  | t :: ts => smU t ∧ smUs ts
end
theorem smUs_iff (l : List Ty) : smUs l ↔ ∀ t ∈ l, smU t := by induction l with | nil => simp [smUs] | cons t l ih => simp [smUs, ih]
theorem smU_iff (t : Ty) : smU t ↔ t.labels.length ≤ 2000000 ∧ ∀ u ∈ t.kids, smU u := by cases t; rw [smU, smUs_iff]; rfl
mutual
def smA : Pr → Prop
  | .mk _ _ _ l a ty ks => l.length ≤ 2000000 ∧ a.length ≤ 2000000 ∧ smU ty ∧ smAs ks
def smAs : List Pr → Prop
  | [] => True
  | t :: ts => smA t ∧ smAs ts
end
theorem smAs_iff (l : List Pr) : smAs l ↔ ∀ t ∈ l, smA t := by induction l with | nil => simp [smAs] | cons t l ih => simp [smAs, ih]
theorem smA_iff (p : Pr) : smA p ↔ p.labels.length ≤ 2000000 ∧ p.args.length ≤ 2000000 ∧ smU p.typ ∧ ∀ u ∈ p.kids, smA u := by cases p; rw [smA, smAs_iff]; rfl
theorem sub_sz (p : Pr) : ∀ t : Tb, (subP t p).sz = p.sz := by
  induction p using Pr.ind with
  | _ k c v l a ty ks ih =>
    intro t
    rw [subP, subPs_eq, Pr.sz_eq, Pr.sz_eq]
    simp only [Pr.kids]
    congr 1
    generalize innerS t k c v = t'
    induction ks with
    | nil => rfl
    | cons q ks ih2 =>
      simp only [List.map_cons, Pr.szs]
      rw [ih q (by simp), ih2 (fun q hq => ih q (List.mem_cons_of_mem _ hq))]
theorem sub_tyS (p : Pr) : ∀ t : Tb, tyS p → tyS (subP t p) := by
  induction p using Pr.ind with
  | _ k c v l a ty ks ih =>
    intro t h
    obtain ⟨h1, h2⟩ := (tyS_iff _).1 h
    rw [subP, subPs_eq, tyS_iff]
    refine ⟨h1, fun u hu => ?_⟩
    obtain ⟨q, hq, rfl⟩ := List.mem_map.1 hu
    exact ih q hq _ (h2 q hq)
theorem sub_smA (p : Pr) : ∀ t : Tb, smA p → smA (subP t p) := by
  induction p using Pr.ind with
  | _ k c v l a ty ks ih =>
    intro t h
    obtain ⟨h1, h2, h3, h4⟩ := (smA_iff _).1 h
    rw [subP, subPs_eq, smA_iff]
    refine ⟨h1, by simpa [Pr.args] using h2, h3, fun u hu => ?_⟩
    obtain ⟨q, hq, rfl⟩ := List.mem_map.1 hu
    exact ih q hq _ (h4 q hq)
def okTb (t : Tb) : Prop := ∀ p ∈ t, okV p.2
theorem okTb.get {t : Tb} (h : okTb t) {s : Str} {v : Vl} (hv : tget t s = some v) : okV v := by
  induction t with
  | nil => cases hv
  | cons p t ih =>
    obtain ⟨k, x⟩ := p
    simp only [tget] at hv
    split at hv
    · cases hv; exact h (k, v) (List.mem_cons_self ..)
    · exact ih (fun q hq => h q (List.mem_cons_of_mem _ hq)) hv
theorem okTb.del {t : Tb} (h : okTb t) (s : Str) : okTb (tdel t s) := by
  induction t with
  | nil => exact h
  | cons p t ih =>
    obtain ⟨k, x⟩ := p
    simp only [tdel]
    have ht : okTb t := fun q hq => h q (List.mem_cons_of_mem _ hq)
    split
    · exact ht
    · intro q hq
      rcases List.mem_cons.1 hq with he | hq
      · rw [he]; exact h (k, x) (List.mem_cons_self ..)
      · exact ih ht q hq
theorem CLe_last {st : List O} {x y : V} : ∀ (xs : List V), V.le st x y → CLe st (xs ++ [x]) (xs ++ [y])
  | [], h => ⟨h, trivial⟩
  | a :: xs, h => ⟨V.le_refl _ _, CLe_last xs h⟩
theorem fm_st2 {st : List O} (hst : Clo st) {as bs : List V} {a b c : O} : ((st ++ [a, b, c]).set (st.length + 2) .dead).map (O.fm (st.length + 2) as bs) = st ++ [a.fm (st.length + 2) as bs, b.fm (st.length + 2) as bs, .dead] := by
  rw [List.set_append_right _ _ (by omega), Nat.add_sub_cancel_left, List.map_append, fm_clo hst (by omega)]
  rfl
theorem fm_T (i : Nat) (as bs : List V) (t : Ty) : (encT t).cells.map (V.fm i as bs) = (encT t).cells := by rw [encT_cells']; rfl
theorem fm_P (i : Nat) (as bs : List V) (p : Pr) : (encP p).cells.map (V.fm i as bs) = (encP p).cells := by
  rw [cellsP]; simp only [List.map_cons, List.map_append, List.map_nil, fm_T]; rfl
theorem fm_encP (i : Nat) (as bs : List V) (p : Pr) : V.fm i as bs (encP p) = encP p := by
  rw [← foldP p]; simp only [V.fm, fmL_eq, List.map_cons, List.map_append, List.map_nil, fm_T]
end Go.Duo
