/-
  The program's data: types, values, processes; how they lie in memory.
-/
import Derived.Test.YtajdahnfnodoeaaDoorDReal
set_option linter.all false
namespace Go.Duo
open Go
abbrev Str := List UInt8
inductive Ty where
  | mk (kind prio : Int) (name : Str) (shift : Int) (labels : List Str) (kids : List Ty)
structure Vl where
  kind : Int
  name : Str
  n : Int
  deriving DecidableEq
inductive Pr where
  | mk (kind : Int) (chan var : Str) (labels : List Str) (args : List Vl) (t : Ty) (kids : List Pr)

def encS (l : List Str) : V := .sl (l.map .str) none
mutual
def encT : Ty → V
  | .mk k p n s l ks => .agg [.int .i64 k, .int .i64 p, .str n, .int .i64 s, .sl (l.map .str) none, .sl (encTs ks) none]
def encTs : List Ty → List V
  | [] => []
  | t :: ts => encT t :: encTs ts
end
theorem encTs_eq (l : List Ty) : encTs l = l.map encT := by
  induction l with
  | nil => rfl
  | cons t l ih => simp [encTs, ih]
def cellsT (t : Ty) : List V := (encT t).cells
theorem encT_mk (k p : Int) (n : Str) (s : Int) (l : List Str) (ks : List Ty) : encT (.mk k p n s l ks) = .agg [.int .i64 k, .int .i64 p, .str n, .int .i64 s, .sl (l.map .str) none, .sl (ks.map encT) none] := by rw [encT, encTs_eq]
theorem encT_cells (t : Ty) : .agg (encT t).cells = encT t := by cases t; rw [encT]; rfl
theorem encT_len (t : Ty) : (encT t).cells.length = 6 := by cases t; rw [encT]; rfl
theorem encT_take (t : Ty) : (encT t).cells.take 6 = (encT t).cells := by rw [List.take_of_length_le (by rw [encT_len]; exact Nat.le_refl _)]
theorem encT_one (t : Ty) : (encT t).cells.all V.one = true := by cases t; rw [encT]; rfl

def encV (v : Vl) : V := .agg [.int .i64 v.kind, .str v.name, .int .i64 v.n]
mutual
def encP : Pr → V
  | .mk k c v l a t ks => .agg ([.int .i64 k, .str c, .str v, .sl (l.map .str) none, .sl (a.map encV) none] ++ (encT t).cells ++ [.sl (encPs ks) none])
def encPs : List Pr → List V
  | [] => []
  | t :: ts => encP t :: encPs ts
end
theorem encPs_eq (l : List Pr) : encPs l = l.map encP := by
  induction l with
  | nil => rfl
  | cons t l ih => simp [encPs, ih]
theorem encP_cells (p : Pr) : .agg (encP p).cells = encP p := by cases p; rw [encP]; rfl
theorem encP_len (p : Pr) : (encP p).cells.length = 12 := by
  obtain ⟨k, c, v, l, a, t, ks⟩ := p
  rw [encP]
  show (_ ++ (encT t).cells ++ _ : List V).length = 12
  simp only [List.length_append, encT_len, List.length_cons, List.length_nil]
theorem encP_take (p : Pr) : (encP p).cells.take 12 = (encP p).cells := by rw [List.take_of_length_le (by rw [encP_len]; exact Nat.le_refl _)]

theorem Ty.ind {p : Ty → Prop} (h : ∀ k pr n s l ks, (∀ t ∈ ks, p t) → p (.mk k pr n s l ks)) (t : Ty) : p t :=
  match t with
  | .mk k pr n s l ks => h k pr n s l ks fun t _ => Ty.ind h t
theorem Pr.ind {p : Pr → Prop} (h : ∀ k c v l a t ks, (∀ q ∈ ks, p q) → p (.mk k c v l a t ks)) (q : Pr) : p q :=
  match q with
  | .mk k c v l a t ks => h k c v l a t ks fun q _ => Pr.ind h q

theorem encT_pure (t : Ty) : PureV (encT t) ∧ (encT t).bare = encT t := by
  obtain ⟨k, p, n, s, l, ks⟩ := t
  rw [encT_mk]
  refine ⟨PureV.agg ?_, by simp [V.bare, V.bare.bareL]⟩
  intro c hc
  simp only [List.mem_cons, List.not_mem_nil, or_false] at hc
  rcases hc with rfl | rfl | rfl | rfl | rfl | rfl
  · exact PureV.int _ _
  · exact PureV.int _ _
  · exact PureV.str _
  · exact PureV.int _ _
  · exact PureV.sl _ _
  · exact PureV.sl _ _
theorem Real.ty {k p : Int} {n : Str} {s : Int} {l : List Str} {ks : List Ty} (h : Real (encT (.mk k p n s l ks))) : l.length ≤ 9223372036854775807 ∧ ks.length ≤ 9223372036854775807 ∧ ∀ t ∈ ks, ∀ c ∈ (encT t).cells, Real c := by
  rw [encT_mk] at h
  have h1 := (h.agg (.sl (l.map .str) none) (by simp)).sl
  have h2 := (h.agg (.sl (ks.map encT) none) (by simp)).sl
  refine ⟨by simpa [maxLen] using h1.1, by simpa [maxLen] using h2.1, fun t ht c hc => h2.2 c ?_⟩
  exact List.mem_flatMap.2 ⟨encT t, List.mem_map.2 ⟨t, ht, rfl⟩, hc⟩

/-! ### Sizes, as the program reckons them -/
mutual
def depthT : Ty → Int
  | .mk _ _ _ _ _ ks => IntKind.wrap .i64 (depthTs 0 ks + 1)
def depthTs : Int → List Ty → Int
  | n, [] => n
  | n, t :: ts => depthTs (if n < depthT t then depthT t else n) ts
end
mutual
def countT : Ty → Int → Int
  | .mk _ _ _ _ _ ks, m => countTs ks (IntKind.wrap .i64 (m - 1))
def countTs : List Ty → Int → Int
  | [], m => m
  | t :: ts, m => if 0 ≤ m then countTs ts (countT t m) else m
end

mutual
def sameT : Ty → Ty → Bool
  | .mk k p n s l ks, .mk k' p' n' s' l' ks' => decide (k = k') && decide (p = p') && decide (n = n') && decide (s = s') && decide (l = l') && decide (ks.length = ks'.length) && sameTs ks ks'
def sameTs : List Ty → List Ty → Bool
  | t :: ts, u :: us => sameT t u && sameTs ts us
  | _, _ => true
end

theorem encP_mk (k : Int) (c v : Str) (l : List Str) (a : List Vl) (t : Ty) (ks : List Pr) : encP (.mk k c v l a t ks) = .agg (.int .i64 k :: .str c :: .str v :: .sl (l.map .str) none :: .sl (a.map encV) none :: ((encT t).cells ++ [.sl (ks.map encP) none])) := by rw [encP, encPs_eq]; rfl
theorem encP_one (p : Pr) : (encP p).cells.all V.one = true := by
  obtain ⟨k, c, v, l, a, t, ks⟩ := p
  rw [encP_mk, c_agg]
  simp [V.one, encT_one]
theorem take_T (t : Ty) (l : List V) : ((encT t).cells ++ l).take 6 = (encT t).cells := by
  have h := List.take_left (l₁ := (encT t).cells) (l₂ := l); rwa [encT_len] at h
theorem drop_T (t : Ty) (l : List V) : ((encT t).cells ++ l).drop 6 = l := by
  have h := List.drop_left (l₁ := (encT t).cells) (l₂ := l); rwa [encT_len] at h
theorem len_T (t : Ty) (l : List V) : ((encT t).cells ++ l).length = l.length + 6 := by rw [List.length_append, encT_len, Nat.add_comm]
theorem all_T (t : Ty) (l : List V) : ((encT t).cells ++ l).all V.one = l.all V.one := by rw [List.all_append, encT_one, Bool.true_and]
theorem encV_cells (v : Vl) : (encV v).cells = [.int .i64 v.kind, .str v.name, .int .i64 v.n] := rfl
theorem Vl.eta3 {a b : Vl} (h1 : a.kind = b.kind) (h2 : a.name = b.name) (h3 : a.n = b.n) : a = b := by cases a; cases b; simp_all

theorem encP_pure (p : Pr) : PureV (encP p) ∧ (encP p).bare = encP p := by
  obtain ⟨k, c, v, l, a, t, ks⟩ := p
  have ht : ∀ x ∈ (encT t).cells, PureV x ∧ x.bare = x := fun x hx => by
    obtain ⟨k, p, n, s, l, ks⟩ := t
    rw [encT_mk] at hx
    simp only [c_agg, List.mem_cons, List.not_mem_nil, or_false] at hx
    rcases hx with rfl | rfl | rfl | rfl | rfl | rfl
    · exact ⟨PureV.int _ _, rfl⟩
    · exact ⟨PureV.int _ _, rfl⟩
    · exact ⟨PureV.str _, rfl⟩
    · exact ⟨PureV.int _ _, rfl⟩
    · exact ⟨PureV.sl _ _, rfl⟩
    · exact ⟨PureV.sl _ _, rfl⟩
  have hall : ∀ x ∈ (.int .i64 k :: .str c :: .str v :: .sl (l.map .str) none :: .sl (a.map encV) none :: ((encT t).cells ++ [.sl (ks.map encP) none]) : List V), PureV x ∧ x.bare = x := fun x hx => by
    simp only [List.mem_cons, List.mem_append, List.not_mem_nil, or_false] at hx
    rcases hx with rfl | rfl | rfl | rfl | rfl | hx | rfl
    · exact ⟨PureV.int _ _, rfl⟩
    · exact ⟨PureV.str _, rfl⟩
    · exact ⟨PureV.str _, rfl⟩
    · exact ⟨PureV.sl _ _, rfl⟩
    · exact ⟨PureV.sl _ _, rfl⟩
    · exact ht x hx
    · exact ⟨PureV.sl _ _, rfl⟩
  rw [encP_mk]
  refine ⟨PureV.agg fun x hx => (hall x hx).1, ?_⟩
  rw [V.bare_agg]
  congr 1
  exact (List.map_congr_left fun x hx => (hall x hx).2).trans (List.map_id _)
theorem Real.pr {k : Int} {c v : Str} {l : List Str} {a : List Vl} {t : Ty} {ks : List Pr} (h : Real (encP (.mk k c v l a t ks))) : l.length ≤ 9223372036854775807 ∧ a.length ≤ 9223372036854775807 ∧ ks.length ≤ 9223372036854775807 := by
  rw [encP_mk] at h
  have h1 := (h.agg (.sl (l.map .str) none) (by simp)).sl.1
  have h2 := (h.agg (.sl (a.map encV) none) (by simp)).sl.1
  have h3 := (h.agg (.sl (ks.map encP) none) (by simp)).sl.1
  simp only [maxLen, List.length_map] at h1 h2 h3
  exact ⟨h1, h2, h3⟩

def fewT (t : Ty) (m : Int) : Bool := decide (0 ≤ countT t m) && decide (depthT t ≤ 150)
mutual
def depthP : Pr → Int
  | .mk _ _ _ _ _ _ ks => IntKind.wrap .i64 (depthPs 0 ks + 1)
def depthPs : Int → List Pr → Int
  | n, [] => n
  | n, t :: ts => depthPs (if n < depthP t then depthP t else n) ts
end
mutual
def leftP : Pr → Int → Int
  | .mk _ _ _ _ _ t ks, m => if fewT t 300 = true then leftPs ks (IntKind.wrap .i64 (m - 1)) else -1
def leftPs : List Pr → Int → Int
  | [], m => m
  | t :: ts, m => if 0 ≤ m then leftPs ts (leftP t m) else m
end
def fewP (p : Pr) (m : Int) : Bool := decide (0 ≤ leftP p m) && decide (depthP p ≤ 150)
mutual
def sameP : Pr → Pr → Bool
  | .mk k c v l a t ks, .mk k' c' v' l' a' t' ks' => decide (k = k') && decide (c = c') && decide (v = v') && decide (l = l') && decide (a.length = a'.length) && sameT t t' && decide (ks.length = ks'.length) && decide (a = a') && samePs ks ks'
def samePs : List Pr → List Pr → Bool
  | t :: ts, u :: us => sameP t u && samePs ts us
  | _, _ => true
end

mutual
def smT : Ty → Prop
  | .mk _ _ _ _ l ks => l.length ≤ 1099511627776 ∧ ks.length ≤ 1099511627776 ∧ smTs ks
def smTs : List Ty → Prop
  | [] => True
  | t :: ts => smT t ∧ smTs ts
end
theorem smTs_mem {ts : List Ty} (h : smTs ts) : ∀ t ∈ ts, smT t := by
  induction ts with
  | nil => simp
  | cons t ts ih =>
    rw [smTs] at h
    intro u hu
    rcases List.mem_cons.1 hu with rfl | hu
    · exact h.1
    · exact ih h.2 u hu
mutual
def raiseT (k : Int) : Ty → Ty
  | .mk kind prio name shift labels kids => .mk kind (if 4 ≤ kind ∧ kind ≤ 7 then IntKind.wrap .i64 (prio + k) else prio) name shift labels (raiseTs k kids)
def raiseTs (k : Int) : List Ty → List Ty
  | [] => []
  | t :: ts => raiseT k t :: raiseTs k ts
end
theorem raiseTs_eq (k : Int) (l : List Ty) : raiseTs k l = l.map (raiseT k) := by
  induction l with
  | nil => rfl
  | cons t l ih => simp [raiseTs, ih]
theorem encT_part (t : Ty) : (encT t).cells.length = 6 ∧ (encT t).cells.all V.one = true ∧ ∀ c ∈ (encT t).cells, PureV c := by
  refine ⟨encT_len t, encT_one t, fun c hc => ?_⟩
  obtain ⟨k, p, n, s, l, ks⟩ := t
  rw [encT_mk] at hc
  simp only [c_agg, List.mem_cons, List.not_mem_nil, or_false] at hc
  rcases hc with rfl | rfl | rfl | rfl | rfl | rfl
  · exact PureV.int _ _
  · exact PureV.int _ _
  · exact PureV.str _
  · exact PureV.int _ _
  · exact PureV.sl _ _
  · exact PureV.sl _ _
theorem encT_bare (t : Ty) : (encT t).bare = encT t := (encT_pure t).2
theorem encP_bare (p : Pr) : (encP p).bare = encP p := (encP_pure p).2
theorem encT_pureL (t : Ty) : ∀ c ∈ (encT t).cells, PureV c := (encT_part t).2.2
theorem encP_pureL (p : Pr) : ∀ c ∈ (encP p).cells, PureV c := by
  have h := (encP_pure p).1
  obtain ⟨k, c, v, l, a, t, ks⟩ := p
  intro x hx
  rw [encP_mk, c_agg] at hx
  simp only [List.mem_cons, List.mem_append, List.not_mem_nil, or_false] at hx
  rcases hx with rfl | rfl | rfl | rfl | rfl | hx | rfl
  · exact PureV.int _ _
  · exact PureV.str _
  · exact PureV.str _
  · exact PureV.sl _ _
  · exact PureV.sl _ _
  · exact encT_pureL t x hx
  · exact PureV.sl _ _
theorem encP_dlen (p : Pr) (n : Nat) : ((encP p).cells.drop n).length = 12 - n := by rw [List.length_drop, encP_len]
theorem take_P (t : Pr) (l : List V) : ((encP t).cells ++ l).take 12 = (encP t).cells := by
  have h := List.take_left (l₁ := (encP t).cells) (l₂ := l); rwa [encP_len] at h
theorem drop_P (t : Pr) (l : List V) : ((encP t).cells ++ l).drop 12 = l := by
  have h := List.drop_left (l₁ := (encP t).cells) (l₂ := l); rwa [encP_len] at h
theorem len_P (t : Pr) (l : List V) : ((encP t).cells ++ l).length = l.length + 12 := by rw [List.length_append, encP_len, Nat.add_comm]
theorem all_P (t : Pr) (l : List V) : ((encP t).cells ++ l).all V.one = l.all V.one := by rw [List.all_append, encP_one, Bool.true_and]
theorem drop_P24 (t : Pr) (l : List V) : ((encP t).cells ++ l).drop 24 = l.drop 12 := by
  rw [show 24 = 12 + 12 from rfl, ← List.drop_drop, drop_P]
end Go.Duo
