/-
  A part of the proof.
-/
import Derived.Test.YtdlcnihacaboiaaGreatDoorGL
import Derived.Test.YtdlcnihacaboiaaGreatDoorGD
import Derived.Test.YtdlcnihacaboiaaGreatDoorGI
set_option linter.all false
namespace Go.Duo
open Go
mutual
def smL : Ty → Prop
  | .mk _ _ _ _ l ks => l.length ≤ 1000000 ∧ smLs ks
def smLs : List Ty → Prop
  | [] => True
  | t :: ts => smL t ∧ smLs ts
end
theorem smLs_iff (l : List Ty) : smLs l ↔ ∀ t ∈ l, smL t := by induction l with | nil => simp [smLs] | cons t l ih => simp [smLs, ih]
theorem smL_iff (t : Ty) : smL t ↔ t.labels.length ≤ 1000000 ∧ ∀ u ∈ t.kids, smL u := by cases t; rw [smL, smLs_iff]; rfl
mutual
def smLP : Pr → Prop
  | .mk _ _ _ l a t ks => l.length ≤ 1000000 ∧ a.length ≤ 1000000 ∧ t.sz ≤ 1000000 ∧ smL t ∧ smLPs ks
def smLPs : List Pr → Prop
  | [] => True
  | t :: ts => smLP t ∧ smLPs ts
end
theorem smLPs_iff (l : List Pr) : smLPs l ↔ ∀ t ∈ l, smLP t := by induction l with | nil => simp [smLPs] | cons t l ih => simp [smLPs, ih]
theorem smLP_iff (p : Pr) : smLP p ↔ p.labels.length ≤ 1000000 ∧ p.args.length ≤ 1000000 ∧ p.typ.sz ≤ 1000000 ∧ smL p.typ ∧ ∀ u ∈ p.kids, smLP u := by cases p; rw [smLP, smLPs_iff]; rfl
theorem take_T7 (t : Ty) (a : V) : ((encT t).cells ++ [a]).take 7 = (encT t).cells ++ [a] := List.take_of_length_le (by rw [len_T]; exact Nat.le_refl _)
theorem drop_T7 (t : Ty) (a : V) : ((encT t).cells ++ [a]).drop 7 = [] := List.drop_of_length_le (by rw [len_T]; exact Nat.le_refl _)
attribute [go_sem] take_T7 drop_T7
/-- The zero process. -/
def ZP : List V := [.int .i64 0, .str [], .str [], .nil, .nil, .int .i64 0, .int .i64 0, .str [], .int .i64 0, .nil, .nil, .nil]
theorem zpE : ZP = [.int .i64 0, .str [], .str [], .nil, .nil, .int .i64 0, .int .i64 0, .str [], .int .i64 0, .nil, .nil, .nil] := rfl
attribute [go_sem] zpE
theorem c_ref (i v : Nat) : (V.ref i v).cells = [.ref i v] := rfl
theorem c_rptr (i v o : Nat) : (V.rptr i v o).cells = [.rptr i v o] := rfl
attribute [go_sem] c_ref c_rptr
theorem CLe.app {S : List O} {a l l' : List V} (h : CLe S l l') : CLe S (a ++ l) (a ++ l') := by
  induction a with
  | nil => exact h
  | cons x a ih => exact ⟨V.le_refl _ _, ih⟩
theorem trimL_app (k : Nat) (a b : List V) : V.trim.trimL k (a ++ b) = V.trim.trimL k a ++ V.trim.trimL k b := by rw [trimL_map, trimL_map, trimL_map, List.map_append]
theorem trimL_T (k : Nat) (t : Ty) : V.trim.trimL k (encT t).cells = (encT t).cells := by rw [trimL_map, encT_trimL]
theorem trimL_P (k : Nat) (t : Pr) : V.trim.trimL k (encP t).cells = (encP t).cells := by rw [trimL_map, encP_trimL]
attribute [go_sem] trimL_app trimL_T trimL_P
theorem faL_app (i v : Nat) (es a b : List V) : V.fa.faL i v es (a ++ b) = V.fa.faL i v es a ++ V.fa.faL i v es b := by rw [faL_eq, faL_eq, faL_eq, List.map_append]
theorem faL_T (i v : Nat) (es : List V) (t : Ty) : V.fa.faL i v es (encT t).cells = (encT t).cells := by rw [encT_cells']; rfl
mutual
theorem fa_of_trim (k : Nat) (v : Nat) (es : List V) (n : Nat) (hn : n ≤ k) : ∀ x : V, x.trim n = x → x.fa k v es = x
  | .agg xs, h => by simp only [V.trim, V.agg.injEq] at h; simp only [V.fa, fa_of_trimL k v es n hn xs h]
  | .tuple xs, h => by simp only [V.trim, V.tuple.injEq] at h; simp only [V.fa, fa_of_trimL k v es n hn xs h]
  | .func fn a b, h => by simp only [V.trim, V.func.injEq, true_and] at h; simp only [V.fa, fa_of_trimL k v es n hn a h.1, fa_of_trimL k v es n hn b h.2]
  | .iface t y, h => by simp only [V.trim, V.iface.injEq, true_and] at h; simp only [V.fa, fa_of_trim k v es n hn y h]
  | .ref j w, h => by
    simp only [V.trim] at h
    split at h
    · simp only [V.fa]; rw [if_neg (by omega)]
    · cases h
  | .rptr j w o, h => by
    simp only [V.trim] at h
    split at h
    · simp only [V.fa]; rw [if_neg (by omega)]
    · cases h
  | .undef, _ | .int _ _, _ | .bool _, _ | .str _, _ | .sl _ _, _ | .nil, _ | .ptr _ _, _ | .dptr _, _ | .nilptr, _ | .pmap _ _, _ | .map _, _ | .nilfunc, _ | .niliface, _ | .yld _, _ => rfl
theorem fa_of_trimL (k : Nat) (v : Nat) (es : List V) (n : Nat) (hn : n ≤ k) : ∀ xs : List V, V.trim.trimL n xs = xs → V.fa.faL k v es xs = xs
  | [], _ => rfl
  | x :: xs, h => by simp only [V.trim.trimL, List.cons.injEq] at h; simp only [V.fa.faL, fa_of_trim k v es n hn x h.1, fa_of_trimL k v es n hn xs h.2]
end
theorem fa_clo {st : List O} (h : Clo st) {k : Nat} (hk : st.length ≤ k) (v : Nat) (es : List V) : st.map (O.fa k v es) = st := by
  have h1 := h st.length (Nat.le_refl _)
  have : ∀ o ∈ st, O.fa k v es o = o := fun o ho => by
    obtain ⟨i, hi, rfl⟩ := List.mem_iff_getElem.1 ho
    have h2 : (st[i]).trim st.length = st[i] := by
      have h3 : (st.map (O.trim st.length))[i]'(by simpa using hi) = st[i] := by simp only [h1]
      rwa [List.getElem_map] at h3
    generalize st[i] = o at h2 ⊢
    cases o with
    | box t xs =>
      simp only [O.trim, O.box.injEq, true_and] at h2
      simp only [O.fa, O.box.injEq, true_and]
      rw [← faL_eq]
      exact fa_of_trimL k v es st.length hk xs (by rw [trimL_map]; exact h2)
    | map ks xs =>
      simp only [O.trim, O.map.injEq, true_and] at h2
      simp only [O.fa, O.map.injEq, true_and]
      rw [← faL_eq]
      exact fa_of_trimL k v es st.length hk xs (by rw [trimL_map]; exact h2)
    | _ => rfl
  exact (List.map_congr_left this).trans (List.map_id _)
theorem fa_st0 {st : List O} (hst : Clo st) {v : Nat} {es : List V} {a b : O} (hb : ∀ k v es, b.fa k v es = b) : ((st ++ [a, b]).set st.length .dead).map (O.fa st.length v es) = st ++ [.dead, b] := by
  rw [List.set_append_right _ _ (Nat.le_refl _), Nat.sub_self, List.map_append, fa_clo hst (Nat.le_refl _)]
  simp only [List.set_cons_zero, List.map_cons, List.map_nil, hb]; rfl
theorem fa_st1 {st : List O} (hst : Clo st) {v : Nat} {es : List V} {b : O} : ((st ++ [.dead, b]).set (st.length + 1) .dead).map (O.fa (st.length + 1) v es) = st ++ [.dead, .dead] := by
  rw [List.set_append_right _ _ (by omega), Nat.add_sub_cancel_left, List.map_append, fa_clo hst (by omega)]
  simp [O.fa]
theorem cellsP (p : Pr) : (encP p).cells = .int .i64 p.kind :: .str p.chan :: .str p.var :: .sl (p.labels.map .str) none :: .sl (p.args.map encV) none :: ((encT p.typ).cells ++ [.sl (p.kids.map encP) none]) := encP_cells' p
def raisePrio (n : Int) (t : Ty) : Int := if 4 ≤ t.kind ∧ t.kind ≤ 7 then IntKind.wrap .i64 (t.prio + n) else t.prio
theorem raiseT_eq (n : Int) (t : Ty) : raiseT n t = .mk t.kind (raisePrio n t) t.name t.shift t.labels (t.kids.map (raiseT n)) := by cases t; rw [raiseT, raiseTs_eq]; rfl
theorem raisePrio_1 {n : Int} {t : Ty} (h : 4 ≤ t.kind) (h2 : t.kind ≤ 7) : raisePrio n t = IntKind.wrap .i64 (t.prio + n) := if_pos ⟨h, h2⟩
theorem raisePrio_2 {n : Int} {t : Ty} (h : t.kind < 4) : raisePrio n t = t.prio := if_neg (by omega)
theorem raisePrio_3 {n : Int} {t : Ty} (h : 7 < t.kind) : raisePrio n t = t.prio := if_neg (by omega)
mutual
def copyP : Pr → Pr
  | .mk k c v l a t ks => .mk k c v l a (raiseT 0 t) (copyPs ks)
def copyPs : List Pr → List Pr
  | [] => []
  | p :: ps => copyP p :: copyPs ps
end
theorem copyPs_eq (l : List Pr) : copyPs l = l.map copyP := by induction l with | nil => rfl | cons p l ih => rw [copyPs, ih]; rfl
theorem copyP_eq (p : Pr) : copyP p = .mk p.kind p.chan p.var p.labels p.args (raiseT 0 p.typ) (p.kids.map copyP) := by cases p; rw [copyP, copyPs_eq]; rfl
theorem foldP (p : Pr) : V.agg (.int .i64 p.kind :: .str p.chan :: .str p.var :: .sl (p.labels.map .str) none :: .sl (p.args.map encV) none :: ((encT p.typ).cells ++ [.sl (p.kids.map encP) none])) = encP p := (encP_all p).symm
def idxI (l : List Str) (s : Str) : Int := match l.findIdx? (fun d => decide (d = s)) with | some i => (i : Int) | none => -1
theorem idxI_some {l : List Str} {s : Str} {i : Nat} (hi : i < l.length) (h : ∀ (j : Nat) (hj : j < l.length), j < i → ¬ l[j] = s) (he : l[i] = s) : idxI l s = (i : Int) := by
  have : l.findIdx? (fun d => decide (d = s)) = some i := by
    rw [List.findIdx?_eq_some_iff_getElem]
    exact ⟨hi, by simpa using he, fun j hj => by simpa using h j (by omega) hj⟩
  unfold idxI; rw [this]
theorem idxI_none {l : List Str} {s : Str} {i : Nat} (hi : l.length ≤ i) (h : ∀ (j : Nat) (hj : j < l.length), j < i → ¬ l[j] = s) : idxI l s = -1 := by
  have : l.findIdx? (fun d => decide (d = s)) = none := by
    rw [List.findIdx?_eq_none_iff]
    intro x hx
    obtain ⟨j, hj, rfl⟩ := List.mem_iff_getElem.1 hx
    simpa using h j hj (by omega)
  unfold idxI; rw [this]
theorem idxI_lt (l : List Str) (s : Str) : idxI l s < l.length ∧ -1 ≤ idxI l s := by
  unfold idxI
  cases h : l.findIdx? (fun d => decide (d = s)) with
  | none => simp only; omega
  | some i => have := (List.findIdx?_eq_some_iff_getElem.1 h).1; simp only; omega
def valueS (v : Vl) : Str := if v.kind = 2 then Lib.itoa v.n else if v.kind = 3 ∧ v.n = 1 then [116, 114, 117, 101] else if v.kind = 3 then [102, 97, 108, 115, 101] else v.name
def Vl.zero : Vl := ⟨0, [], 0⟩
def putC (names : List Str) (values : List Vl) (bound : List Str) (k : Int) (c : Str) : Str :=
  if 2 ≤ k ∧ k ≤ 5 ∧ c ∉ bound ∧ 0 ≤ idxI names c then valueS (values.getD (idxI names c).toNat Vl.zero) else c
def putA (names : List Str) (values : List Vl) (bound : List Str) (x : Vl) : Vl :=
  if x.kind = 1 ∧ 0 ≤ idxI names x.name ∧ x.name ∉ bound then values.getD (idxI names x.name).toNat Vl.zero else x
mutual
def putP (names : List Str) (values : List Vl) : Pr → List Str → Pr
  | .mk k c v l a t ks, bound => .mk k (putC names values bound k c) v l (a.map (putA names values bound)) (raiseT 0 t) (putPs names values ks (bound ++ innerL (.mk k c v l a t ks)))
def putPs (names : List Str) (values : List Vl) : List Pr → List Str → List Pr
  | [], _ => []
  | p :: ps, bound => putP names values p bound :: putPs names values ps bound
end
theorem putPs_eq (names : List Str) (values : List Vl) (l : List Pr) (bound : List Str) : putPs names values l bound = l.map fun p => putP names values p bound := by induction l with | nil => rfl | cons p l ih => rw [putPs, ih]; rfl
theorem putP_eq (names : List Str) (values : List Vl) (p : Pr) (bound : List Str) : putP names values p bound = .mk p.kind (putC names values bound p.kind p.chan) p.var p.labels (p.args.map (putA names values bound)) (raiseT 0 p.typ) (p.kids.map fun q => putP names values q (bound ++ innerL p)) := by cases p; rw [putP, putPs_eq]; rfl
section
variable {names : List Str} {values : List Vl} {bound : List Str}
theorem putC_yes {k : Int} {c : Str} (h1 : 2 ≤ k) (h2 : k ≤ 5) (h3 : c ∉ bound) (h4 : 0 ≤ idxI names c) (h5 : (idxI names c).toNat < values.length) : putC names values bound k c = valueS values[(idxI names c).toNat] := by
  unfold putC; rw [if_pos ⟨h1, h2, h3, h4⟩, getD_ltI _ _ _ h5]
theorem putC_n1 {k : Int} {c : Str} (h1 : k < 2) : putC names values bound k c = c := if_neg (by omega)
theorem putC_n2 {k : Int} {c : Str} (h1 : 5 < k) : putC names values bound k c = c := if_neg (by omega)
theorem putC_n3 {k : Int} {c : Str} (h1 : c ∈ bound) : putC names values bound k c = c := if_neg (fun h => h.2.2.1 h1)
theorem putC_n4 {k : Int} {c : Str} (h1 : idxI names c < 0) : putC names values bound k c = c := if_neg (by omega)
theorem putA_yes {x : Vl} (h1 : x.kind = 1) (h2 : 0 ≤ idxI names x.name) (h3 : x.name ∉ bound) (h5 : (idxI names x.name).toNat < values.length) : putA names values bound x = values[(idxI names x.name).toNat] := by
  unfold putA; rw [if_pos ⟨h1, h2, h3⟩, getD_ltI _ _ _ h5]
theorem putA_n1 {x : Vl} (h1 : ¬ x.kind = 1) : putA names values bound x = x := if_neg (fun h => h1 h.1)
theorem putA_n2 {x : Vl} (h1 : idxI names x.name < 0) : putA names values bound x = x := if_neg (fun h => by have := h.2.1; omega)
theorem putA_n3 {x : Vl} (h1 : x.name ∈ bound) : putA names values bound x = x := if_neg (fun h => h.2.2 h1)
end
theorem fa_stj {st : List O} (hst : Clo st) (j v : Nat) (es : List V) (l : List O) : ((st ++ l).set (st.length + j) .dead).map (O.fa (st.length + j) v es) = st ++ (l.set j .dead).map (O.fa (st.length + j) v es) := by
  rw [List.set_append_right _ _ (by omega), Nat.add_sub_cancel_left, List.map_append, fa_clo hst (by omega)]
theorem md12 (n : Nat) : n * 12 / 12 = n := Nat.mul_div_cancel n (by decide)
theorem md3 (n : Nat) : n * 3 / 3 = n := Nat.mul_div_cancel n (by decide)
attribute [go_sem] md12 md3
/-- Part done, part to do. -/
def halfL {α β : Type} (f g : α → β) (i : Nat) (l : List α) : List β := (l.take i).map f ++ (l.drop i).map g
theorem halfL_zero {α β : Type} (f g : α → β) (l : List α) : halfL f g 0 l = l.map g := by simp [halfL]
theorem halfL_end {α β : Type} (f g : α → β) {l : List α} {i : Nat} (h : l.length ≤ i) : halfL f g i l = l.map f := by simp [halfL, List.take_of_length_le h, List.drop_eq_nil_of_le h]
theorem halfL_len {α β : Type} (f g : α → β) (i : Nat) (l : List α) : (halfL f g i l).length = l.length := by simp [halfL]; omega
theorem halfL_cons {α β : Type} (f g : α → β) (a : α) (l : List α) (i : Nat) : halfL f g (i + 1) (a :: l) = f a :: halfL f g i l := rfl
theorem halfL_set {α β : Type} (f g : α → β) : ∀ {l : List α} {i : Nat} (h : i < l.length), (halfL f g i l).set i (f l[i]) = halfL f g (i + 1) l := by
  intro l; induction l with
  | nil => intro i h; simp at h
  | cons a l ih =>
    intro i h
    cases i with
    | zero => simp [halfL]
    | succ i => rw [halfL_cons, halfL_cons, List.set_cons_succ]; congr 1; exact ih (by simpa using h)
theorem halfL_keep {α β : Type} (f g : α → β) : ∀ {l : List α} {i : Nat} (h : i < l.length) (he : g l[i] = f l[i]), halfL f g (i + 1) l = halfL f g i l := by
  intro l; induction l with
  | nil => intro i h; simp at h
  | cons a l ih =>
    intro i h he
    cases i with
    | zero => simp [halfL] at he ⊢; exact he.symm
    | succ i => rw [halfL_cons, halfL_cons]; congr 1; exact ih (by simpa using h) (by simpa using he)
end Go.Duo

namespace Go.Duo
open Go
abbrev Tb := List (Str × Vl)
def tget : Tb → Str → Option Vl
  | [], _ => none
  | (k, v) :: t, s => if s = k then some v else tget t s
def tdel : Tb → Str → Tb
  | [], _ => []
  | (k, v) :: t, s => if s = k then t else (k, v) :: tdel t s
def tput : Tb → Str → Vl → Tb
  | [], s, x => [(s, x)]
  | (k, v) :: t, s, x => if s = k then (k, x) :: t else (k, v) :: tput t s x
def keysT (t : Tb) : List V := t.map fun p => .str p.1
def valsT (t : Tb) : List V := t.map fun p => encV p.2
theorem keysT_cons (k : Str) (v : Vl) (t : Tb) : keysT ((k, v) :: t) = .str k :: keysT t := rfl
theorem valsT_cons (k : Str) (v : Vl) (t : Tb) : valsT ((k, v) :: t) = encV v :: valsT t := rfl
theorem keyEq_str (a b : Str) : keyEq (.str a) (.str b) = decide (a = b) := rfl
theorem keysT_all (t : Tb) : (keysT t).all (keyD .string) = true := by simp [keysT, keyD]
theorem getT (t : Tb) (s : Str) (z : V) : getK (.str s) (keysT t) (valsT t) z = match tget t s with | some v => encV v | none => z := by
  induction t with
  | nil => rfl
  | cons p t ih =>
    obtain ⟨k, v⟩ := p
    simp only [keysT_cons, valsT_cons, getK, idxK, keyEq_str, tget, decide_eq_true_eq] at ih ⊢
    by_cases h : s = k
    · simp [h]
    · rw [if_neg h, if_neg h, ← ih]
      cases idxK (.str s) (keysT t) <;> simp
theorem hasT (t : Tb) (s : Str) : hasK (.str s) (keysT t) = (tget t s).isSome := by
  induction t with
  | nil => rfl
  | cons p t ih =>
    obtain ⟨k, v⟩ := p
    simp only [keysT_cons, hasK, idxK, keyEq_str, tget, decide_eq_true_eq] at ih ⊢
    by_cases h : s = k
    · simp [h]
    · rw [if_neg h, if_neg h, ← ih]
      cases idxK (.str s) (keysT t) <;> simp
theorem delT (t : Tb) (s : Str) : delK (.str s) (keysT t) (valsT t) = .map (keysT (tdel t s)) (valsT (tdel t s)) := by
  induction t with
  | nil => rfl
  | cons p t ih =>
    obtain ⟨k, v⟩ := p
    simp only [keysT_cons, valsT_cons, delK, idxK, keyEq_str, tdel, decide_eq_true_eq] at ih ⊢
    by_cases h : s = k
    · simp [h]
    · rw [if_neg h, if_neg h, keysT_cons, valsT_cons]
      cases hi : idxK (.str s) (keysT t) with
      | none => rw [hi] at ih; simp only [Option.map_none, O.map.injEq] at ih ⊢; rw [← ih.1, ← ih.2]; exact ⟨rfl, rfl⟩
      | some i => rw [hi] at ih; simp only [Option.map_some, O.map.injEq, List.eraseIdx_cons_succ] at ih ⊢; rw [ih.1, ih.2]; exact ⟨rfl, rfl⟩
theorem setT (t : Tb) (s : Str) (x : Vl) : setK (.str s) (encV x) (keysT t) (valsT t) = .map (keysT (tput t s x)) (valsT (tput t s x)) := by
  induction t with
  | nil => rfl
  | cons p t ih =>
    obtain ⟨k, v⟩ := p
    simp only [keysT_cons, valsT_cons, setK, idxK, keyEq_str, tput, decide_eq_true_eq] at ih ⊢
    by_cases h : s = k
    · simp [h, keysT_cons, valsT_cons]
    · rw [if_neg h, if_neg h, keysT_cons, valsT_cons]
      cases hi : idxK (.str s) (keysT t) with
      | none => rw [hi] at ih; simp only [Option.map_none, O.map.injEq, List.cons_append] at ih ⊢; rw [ih.1, ih.2]; exact ⟨rfl, rfl⟩
      | some i => rw [hi] at ih; simp only [Option.map_some, O.map.injEq, List.set_cons_succ] at ih ⊢; rw [← ih.1, ← ih.2]; exact ⟨rfl, rfl⟩
def chanS (t : Tb) (c : Str) : Str := match tget t c with
  | some v => valueS v
  | none => c
def valS (t : Tb) (v : Vl) : Vl := match tget t v.name with
  | some b => if v.kind = 1 then b else v
  | none => v
def innerS (t : Tb) (k : Int) (c v : Str) : Tb := if preK k = true then (if k = 3 then tdel t v else t) else if k = 6 then tdel (tdel t c) v else t
mutual
def subP (t : Tb) : Pr → Pr
  | .mk k c v l a ty ks => .mk k (if preK k = true then chanS t c else c) v l (a.map (valS t)) ty (subPs (innerS t k c v) ks)
def subPs (t : Tb) : List Pr → List Pr
  | [] => []
  | p :: ps => subP t p :: subPs t ps
end
theorem subPs_eq (t : Tb) (l : List Pr) : subPs t l = l.map (subP t) := by induction l with | nil => rfl | cons p l ih => rw [subPs, ih]; rfl
theorem map_id' {α : Type} {f : α → α} {l : List α} (h : ∀ x ∈ l, f x = x) : l.map f = l := (List.map_congr_left h).trans (List.map_id _)
theorem sub_nil (p : Pr) : subP [] p = p := by
  induction p using Pr.ind with
  | _ k c v l a ty ks ih =>
    rw [subP, subPs_eq]
    have h1 : innerS [] k c v = [] := by simp [innerS, tdel]
    have h2 : a.map (valS []) = a := map_id' fun x _ => rfl
    rw [h1, h2, map_id' ih]
    simp [chanS, tget]
/-- The values are as they should be: a name has no number. -/
inductive okN : Pr → Prop
  | mk (k : Int) (c v : Str) (l : List Str) (a : List Vl) (ty : Ty) (ks : List Pr) (ha : ∀ x ∈ a, x.kind = 1 → x.n = 0) (hk : ∀ q ∈ ks, okN q) : okN (.mk k c v l a ty ks)
theorem sub_self {old : Str} {p : Pr} (h : okN p) : subP [(old, ⟨1, old, 0⟩)] p = p := by
  induction h with
  | mk k c v l a ty ks ha hk ih =>
    rw [subP, subPs_eq]
    have hin : innerS [(old, ⟨1, old, 0⟩)] k c v = [(old, ⟨1, old, 0⟩)] ∨ innerS [(old, ⟨1, old, 0⟩)] k c v = [] := by
      unfold innerS
      by_cases hp : preK k = true
      · by_cases h3 : k = 3
        · by_cases hvo : v = old <;> simp [hp, h3, tdel, hvo]
        · simp [hp, h3]
      · by_cases h6 : k = 6
        · by_cases hco : c = old
          · simp [hp, h6, tdel, hco]
          · by_cases hvo : v = old
            · simp [hp, h6, tdel, hco, hvo]
            · simp [hp, h6, tdel, hco, hvo]
        · simp [hp, h6]
    have h2 : a.map (valS [(old, ⟨1, old, 0⟩)]) = a := map_id' fun x hx => by
      unfold valS
      simp only [tget]
      by_cases hn : x.name = old
      · simp only [hn, if_true]
        by_cases hk1 : x.kind = 1
        · rw [if_pos hk1]
          have := ha x hx hk1
          cases x; simp_all
        · rw [if_neg hk1]
      · rw [if_neg hn]
    have h3 : ks.map (subP (innerS [(old, ⟨1, old, 0⟩)] k c v)) = ks := by
      rcases hin with e | e
      · rw [e]; exact map_id' ih
      · rw [e]; exact map_id' fun q _ => sub_nil q
    rw [h2, h3]
    congr 1
    split
    · unfold chanS
      simp only [tget]
      by_cases hn : c = old
      · subst hn; simp [valueS]
      · simp [hn]
    · rfl
mutual
def usesP : Pr → List Str → List Str
  | .mk k c v _ a _ ks, b => ((if preK k = true then [c] else []) ++ (a.filter fun x => decide (x.kind = 1)).map Vl.name).filter (fun s => decide (s ∉ b)) ++ usesPs ks (b ++ (if k = 3 then [v] else if k = 6 then [c, v] else []))
def usesPs : List Pr → List Str → List Str
  | [], _ => []
  | p :: ps, b => usesP p b ++ usesPs ps b
end
mutual
def smU : Ty → Prop
  | .mk _ _ _ _ l ks => l.length ≤ 2000000 ∧ smUs ks
def smUs : List Ty → Prop
  | [] => True
  | t :: ts => smU t ∧ smUs ts
end
theorem smUs_iff (l : List Ty) : smUs l ↔ ∀ t ∈ l, smU t := by induction l with | nil => simp [smUs] | cons t l ih => simp [smUs, ih]
theorem smU_iff (t : Ty) : smU t ↔ t.labels.length ≤ 2000000 ∧ ∀ u ∈ t.kids, smU u := by cases t; rw [smU, smUs_iff]; rfl
mutual
def smA : Pr → Prop
  | .mk _ _ _ l a ty ks => l.length ≤ 2000000 ∧ a.length ≤ 2000000 ∧ smU ty ∧ smAs ks
def smAs : List Pr → Prop
  | [] => True
  | t :: ts => smA t ∧ smAs ts
end
theorem smAs_iff (l : List Pr) : smAs l ↔ ∀ t ∈ l, smA t := by induction l with | nil => simp [smAs] | cons t l ih => simp [smAs, ih]
theorem smA_iff (p : Pr) : smA p ↔ p.labels.length ≤ 2000000 ∧ p.args.length ≤ 2000000 ∧ smU p.typ ∧ ∀ u ∈ p.kids, smA u := by cases p; rw [smA, smAs_iff]; rfl
def okTb (t : Tb) : Prop := ∀ p ∈ t, okV p.2
theorem okTb.get {t : Tb} (h : okTb t) {s : Str} {v : Vl} (hv : tget t s = some v) : okV v := by
  induction t with
  | nil => cases hv
  | cons p t ih =>
    obtain ⟨k, x⟩ := p
    simp only [tget] at hv
    split at hv
    · cases hv; exact h (k, v) (List.mem_cons_self ..)
    · exact ih (fun q hq => h q (List.mem_cons_of_mem _ hq)) hv
end Go.Duo
