/-
  Redexes in plain Lean: what the program's and the reference's functions compute.
-/
import Derived.Test.YtmjngcfigfkafaaDoorDNames
import Derived.Test.YtmjngcfigfkafaaDoorDKit
set_option linter.all false
namespace Go.Duo
open Go

def Pr.kind : Pr → Int | .mk k _ _ _ _ _ _ => k
def Pr.chan : Pr → Str | .mk _ c _ _ _ _ _ => c
def Pr.labels : Pr → List Str | .mk _ _ _ l _ _ _ => l
theorem encP_f0 (p : Pr) (u : V) : (encP p).cells.headD u = .int .i64 p.kind := by obtain ⟨k, c, v, l, a, t, ks⟩ := p; rw [encP_mk]; rfl
theorem encP_f1 (p : Pr) (u : V) : ((encP p).cells.drop 1).headD u = .str p.chan := by obtain ⟨k, c, v, l, a, t, ks⟩ := p; rw [encP_mk]; rfl
theorem encP_f3 (p : Pr) (u : V) : ((encP p).cells.drop 3).headD u = .sl (p.labels.map .str) none := by obtain ⟨k, c, v, l, a, t, ks⟩ := p; rw [encP_mk]; rfl
structure Rx where
  o : Int
  i : Int
  c : Int
  p : Bool
  deriving DecidableEq
def encR (r : Rx) : V := .agg [.int .i64 r.o, .int .i64 r.i, .int .i64 r.c, .bool r.p]
def Rx.zero : Rx := ⟨0, 0, 0, false⟩
theorem encR_cells (r : Rx) : (encR r).cells = [.int .i64 r.o, .int .i64 r.i, .int .i64 r.c, .bool r.p] := rfl
theorem encR_inj (a b : Rx) : (decide (a.o = b.o) && (decide (a.i = b.i) && (decide (a.c = b.c) && (decide (a.p = b.p) && true)))) = decide (a = b) := by
  cases a; cases b; simp [Bool.decide_and]
/-- The two cells of an array of two numbers. -/
def encD (d : Int × Int) : V := .agg [.int .i64 d.1, .int .i64 d.2]
theorem encD_cells (d : Int × Int) : (encD d).cells = [.int .i64 d.1, .int .i64 d.2] := rfl
theorem encD_inj (a b : Int × Int) : (decide (a.1 = b.1) && (decide (a.2 = b.2) && true)) = decide (a = b) := by cases a; cases b; simp [Bool.decide_and]
def encI (n : Int) : V := .int .i64 n

def meetL (a b : Pr) : Bool := match epL a.chan with
  | some (k, p) => decide (nameL k (!p) = b.chan)
  | none => false
theorem meetL_eq (a b : Pr) : meetL a b = (epO a.chan && decide (dualN a.chan = b.chan)) := by unfold meetL dualN epO epK epP; cases epL a.chan <;> simp
def fitL (a b : Pr) : Bool := decide (a.kind = 2) && decide (b.kind = 3) || decide (a.kind = 4) && decide (b.kind = 5) && decide (a.labels.headD [] ∈ b.labels)
/-- Where the program's code takes the first label, there is one. -/
def hasL (a : Pr) : Prop := a.kind = 4 → a.labels ≠ []

def pickI (len : Nat) (n : Int) : Int := if len = 0 then -1 else n % len
def pickR (l : List Rx) (n : Int) : Rx := l.getD (n % (l.length : Int)).toNat Rx.zero

theorem tmod_lo (n : Int) {m : Int} (h : 0 < m) : -m < n.tmod m := by
  rcases Int.le_total 0 n with h1 | h1
  · rw [Int.tmod_eq_emod_of_nonneg h1]; have := Int.emod_nonneg n (show m ≠ 0 by omega); omega
  · have h2 := Int.neg_tmod (a := n) (b := m)
    have h3 : (-n).tmod m = (-n) % m := Int.tmod_eq_emod_of_nonneg (by omega)
    have h4 := Int.emod_lt_of_pos (-n) h
    omega
theorem tmod_hi (n : Int) {m : Int} (h : 0 < m) : n.tmod m < m := by
  rcases Int.le_total 0 n with h1 | h1
  · rw [Int.tmod_eq_emod_of_nonneg h1]; exact Int.emod_lt_of_pos n h
  · have h2 := Int.neg_tmod (a := n) (b := m)
    have h3 : (-n).tmod m = (-n) % m := Int.tmod_eq_emod_of_nonneg (by omega)
    have h4 := Int.emod_nonneg (-n) (show m ≠ 0 by omega)
    omega
theorem tmod_emod (n : Int) (m : Int) : (n.tmod m) % m = n % m := by
  have h : n = m * n.tdiv m + n.tmod m := (Int.mul_tdiv_add_tmod n m).symm
  conv => rhs; rw [h]
  rw [Int.add_comm, Int.add_mul_emod_self_left]
theorem tmod_add (n : Int) (m : Int) : (n.tmod m + m) % m = n % m := by rw [Int.add_emod_right, tmod_emod]
theorem Real.row {α : Type} {f : α → V} {l : List α} (h : Real (.sl (l.map f) none)) : l.length ≤ 9223372036854775807 := by simpa [maxLen] using h.sl.1

/-! ### All pairs of indices, in order -/
section
variable {α β : Type}
def partL (n : Nat) (f : Nat → Nat → Option α) (i k : Nat) : List α := (List.range i).flatMap (fun i => (List.range n).filterMap (f i)) ++ (List.range k).filterMap (f i)
def pairsL (n : Nat) (f : Nat → Nat → Option α) : List α := (List.range n).flatMap fun i => (List.range n).filterMap (f i)
theorem partL_zero (n : Nat) (f : Nat → Nat → Option α) : partL n f 0 0 = [] := rfl
theorem partL_end (n : Nat) (f : Nat → Nat → Option α) : partL n f n 0 = pairsL n f := by simp [partL, pairsL]
theorem partL_succ (n : Nat) (f : Nat → Nat → Option α) (i k : Nat) : partL n f i (k + 1) = partL n f i k ++ (f i k).toList := by
  rw [partL, partL, List.range_succ, List.filterMap_append, ← List.append_assoc]
  cases h : f i k <;> simp [h]
theorem partL_some {n : Nat} {f : Nat → Nat → Option α} {i k : Nat} {x : α} (h : f i k = some x) : partL n f i (k + 1) = partL n f i k ++ [x] := by rw [partL_succ, h]; rfl
theorem partL_none {n : Nat} {f : Nat → Nat → Option α} {i k : Nat} (h : f i k = none) : partL n f i (k + 1) = partL n f i k := by rw [partL_succ, h]; simp
theorem partL_turn (n : Nat) (f : Nat → Nat → Option α) (i : Nat) : partL n f i n = partL n f (i + 1) 0 := by
  simp [partL, List.range_succ, List.flatMap_append]
theorem partL_skip {n : Nat} {f : Nat → Nat → Option α} {i : Nat} : ∀ k, (∀ j, j < k → f i j = none) → partL n f i k = partL n f i 0 := by
  intro k
  induction k with
  | zero => intro _; rfl
  | succ k ih => intro h; rw [partL_none (h k (Nat.lt_succ_self k)), ih fun j hj => h j (by omega)]
theorem range_flat_le (n : Nat) (f : Nat → Nat → Option α) : ∀ i, ((List.range i).flatMap fun i => (List.range n).filterMap (f i)).length ≤ i * n := by
  intro i
  induction i with
  | zero => simp
  | succ i ih =>
    rw [List.range_succ, List.flatMap_append, List.length_append, Nat.succ_mul]
    have h1 : ((List.range n).filterMap (f i)).length ≤ n := by have := List.length_filterMap_le (f i) (List.range n); rwa [List.length_range] at this
    simp only [List.flatMap_cons, List.flatMap_nil, List.append_nil]
    omega
theorem partL_len {n : Nat} {f : Nat → Nat → Option α} {i k : Nat} (hn : n ≤ 1000000) (hi : i ≤ n) (hk : k ≤ n) : (partL n f i k).length ≤ 1000001000000 := by
  have h1 := range_flat_le n f i
  have h2 : ((List.range k).filterMap (f i)).length ≤ k := by have := List.length_filterMap_le (f i) (List.range k); rwa [List.length_range] at this
  have h3 : i * n ≤ 1000000 * 1000000 := Nat.mul_le_mul (by omega) hn
  rw [partL, List.length_append]
  omega
theorem pairsL_bind (n : Nat) (f : Nat → Nat → Option α) (g : α → Option β) : (pairsL n f).filterMap g = pairsL n fun i k => (f i k).bind g := by
  unfold pairsL
  rw [List.filterMap_flatMap]
  congr 1
  funext i
  rw [List.filterMap_filterMap]
theorem filterMap_eq {f g : Nat → Option α} : ∀ l : List Nat, (∀ k ∈ l, f k = g k) → l.filterMap f = l.filterMap g := by
  intro l
  induction l with
  | nil => intro _; rfl
  | cons k l ih => intro h; rw [List.filterMap_cons, List.filterMap_cons, h k (List.mem_cons_self ..), ih fun j hj => h j (List.mem_cons_of_mem _ hj)]
theorem pairsL_congr {n : Nat} {f g : Nat → Nat → Option α} (h : ∀ i k, i < n → k < n → f i k = g i k) : pairsL n f = pairsL n g := by
  unfold pairsL
  have key : ∀ l : List Nat, (∀ i ∈ l, i < n) → l.flatMap (fun i => (List.range n).filterMap (f i)) = l.flatMap fun i => (List.range n).filterMap (g i) := by
    intro l
    induction l with
    | nil => intro _; rfl
    | cons i l ih =>
      intro hl
      rw [List.flatMap_cons, List.flatMap_cons, ih fun j hj => hl j (List.mem_cons_of_mem _ hj)]
      congr 1
      exact filterMap_eq _ fun k hk => h i k (hl i (List.mem_cons_self ..)) (List.mem_range.1 hk)
  exact key _ fun i hi => List.mem_range.1 hi
theorem mem_pairsL {n : Nat} {f : Nat → Nat → Option α} {x : α} : x ∈ pairsL n f ↔ ∃ i k, i < n ∧ k < n ∧ f i k = some x := by
  unfold pairsL
  simp only [List.mem_flatMap, List.mem_filterMap, List.mem_range]
  constructor
  · rintro ⟨i, hi, k, hk, h⟩; exact ⟨i, k, hi, hk, h⟩
  · rintro ⟨i, k, hi, hk, h⟩; exact ⟨i, hi, k, hk, h⟩
end

def Pr.z : Pr := .mk 0 [] [] [] [] (.mk 0 0 [] 0 [] []) []
/-- The redex of two threads. -/
def rxAt (l : List Pr) (i k : Nat) : Option Rx := if i ≠ k ∧ meetL (l.getD i .z) (l.getD k .z) = true ∧ fitL (l.getD i .z) (l.getD k .z) = true then some ⟨i, k, epK (l.getD i .z).chan, epP (l.getD i .z).chan⟩ else none
def listL (l : List Pr) : List Rx := pairsL l.length (rxAt l)
def clAt (l : List Pr) (i k : Nat) : Option (Int × Int) := if i < k ∧ meetL (l.getD i .z) (l.getD k .z) = true ∧ fitL (l.getD i .z) (l.getD k .z) = false ∧ fitL (l.getD k .z) (l.getD i .z) = false then some ((i : Int), (k : Int)) else none
def clashL (l : List Pr) : List (Int × Int) := pairsL l.length (clAt l)
theorem rxAt_some {l : List Pr} {i k : Nat} (hi : i < l.length) (hk : k < l.length) (h : i ≠ k) (h1 : meetL l[i] l[k] = true) (h2 : fitL l[i] l[k] = true) : rxAt l i k = some ⟨i, k, epK l[i].chan, epP l[i].chan⟩ := by
  unfold rxAt; rw [getD_ltI _ _ _ hi, getD_ltI _ _ _ hk, if_pos ⟨h, h1, h2⟩]
theorem rxAt_none {l : List Pr} {i k : Nat} (hi : i < l.length) (hk : k < l.length) (h : i = k ∨ meetL l[i] l[k] = false ∨ fitL l[i] l[k] = false) : rxAt l i k = none := by
  unfold rxAt; rw [getD_ltI _ _ _ hi, getD_ltI _ _ _ hk, if_neg]
  rintro ⟨h1, h2, h3⟩
  rcases h with h | h | h
  · exact h1 h
  · rw [h] at h2; cases h2
  · rw [h] at h3; cases h3
theorem clAt_some {l : List Pr} {i k : Nat} (hi : i < l.length) (hk : k < l.length) (h : i < k) (h1 : meetL l[i] l[k] = true) (h2 : fitL l[i] l[k] = false) (h3 : fitL l[k] l[i] = false) : clAt l i k = some ((i : Int), (k : Int)) := by
  unfold clAt; rw [getD_ltI _ _ _ hi, getD_ltI _ _ _ hk, if_pos ⟨h, h1, h2, h3⟩]
theorem clAt_none {l : List Pr} {i k : Nat} (hi : i < l.length) (hk : k < l.length) (h : k ≤ i ∨ meetL l[i] l[k] = false ∨ fitL l[i] l[k] = true ∨ fitL l[k] l[i] = true) : clAt l i k = none := by
  unfold clAt; rw [getD_ltI _ _ _ hi, getD_ltI _ _ _ hk, if_neg]
  rintro ⟨h1, h2, h3, h4⟩
  rcases h with h | h | h | h
  · omega
  · rw [h] at h2; cases h2
  · rw [h] at h3; cases h3
  · rw [h] at h4; cases h4

def busyL (r : List Rx) (i : Nat) : Bool := r.any fun x => decide (x.o = i) || decide (x.i = i)
def idleL (r : List Rx) (n : Nat) : List Int := ((List.range n).filter fun i => !busyL r i).map Int.ofNat
def waitL (l : List Pr) : List Int := idleL (listL l) l.length
theorem busy_zero (r : List Rx) (i : Nat) : busyL (r.take 0) i = false := rfl
theorem busy_succ {r : List Rx} {k : Nat} (h : k < r.length) (i : Nat) : busyL (r.take (k + 1)) i = (busyL (r.take k) i || (decide (r[k].o = i) || decide (r[k].i = i))) := by
  unfold busyL
  rw [List.take_add_one, List.getElem?_eq_getElem h, List.any_append]
  simp only [Option.toList, List.any_cons, List.any_nil, Bool.or_false]
theorem idle_zero (r : List Rx) : idleL r 0 = [] := rfl
theorem idle_no {r : List Rx} {n : Nat} (h : busyL r n = true) : idleL r (n + 1) = idleL r n := by
  simp [idleL, List.range_succ, h]
theorem idle_yes {r : List Rx} {n : Nat} (h : busyL r n = false) : idleL r (n + 1) = idleL r n ++ [(n : Int)] := by
  simp [idleL, List.range_succ, h]
theorem idle_len (r : List Rx) (n : Nat) : (idleL r n).length ≤ n := by
  have h := List.length_filter_le (fun i => !busyL r i) (List.range n)
  rw [List.length_range] at h
  rw [idleL, List.length_map]; exact h
/-! ### The threads of the drawn laws -/
structure Th where
  ch : UInt8
  p : Bool
  kind : UInt8
  label : UInt8
def encTh (t : Th) : V := .agg [.int .u8 t.ch.toNat, .bool t.p, .int .u8 t.kind.toNat, .int .u8 t.label.toNat]
theorem encTh_cells (t : Th) : (encTh t).cells = [.int .u8 t.ch.toNat, .bool t.p, .int .u8 t.kind.toNat, .int .u8 t.label.toNat] := rfl
def Ty.z : Ty := .mk 0 0 [] 0 [] []
def stopL : Pr := .mk 1 [] [] [] [] .z []
def chanL (t : Th) : Str := if t.ch = 9 then [120] else nameL t.ch.toNat t.p
def labelL (t : Th) : Str := if t.label.toNat % 3 = 0 then [97] else if t.label.toNat % 3 = 1 then [98] else [99]
def threadL (t : Th) : Pr :=
  if t.kind.toNat % 4 = 0 then .mk 2 (chanL t) [] [] [⟨2, [], 1⟩] .z [stopL]
  else if t.kind.toNat % 4 = 1 then .mk 3 (chanL t) [120] [] [] .z [stopL]
  else if t.kind.toNat % 4 = 2 then .mk 4 (chanL t) [] [labelL t] [] .z [stopL]
  else .mk 5 (chanL t) [] [labelL t, [100]] [] .z [stopL, stopL]
theorem threadL_hasL (t : Th) : hasL (threadL t) := by
  unfold threadL hasL
  split
  · simp [Pr.kind]
  · split
    · simp [Pr.kind]
    · split <;> simp [Pr.kind, Pr.labels]
theorem labelL_get (t : Th) : ([V.str [97], V.str [98], V.str [99]] : List V).getD ((t.label.toNat : Int) % 3).toNat V.undef = .str (labelL t) := by
  unfold labelL
  have h : t.label.toNat % 3 = 0 ∨ t.label.toNat % 3 = 1 ∨ t.label.toNat % 3 = 2 := by omega
  have e : ((t.label.toNat : Int) % 3).toNat = t.label.toNat % 3 := by omega
  rw [e]
  rcases h with h | h | h <;> rw [h] <;> rfl
theorem chanL_9 {t : Th} (h : (t.ch.toNat : Int) = 9) : chanL t = [120] := if_pos (UInt8.toNat.inj (by simpa using (show t.ch.toNat = 9 by omega)))
theorem chanL_n {t : Th} (h : ¬ (t.ch.toNat : Int) = 9) : chanL t = nameL t.ch.toNat t.p := if_neg fun h' => h (by rw [h']; rfl)
def thrL (l : List Th) (i : Nat) : List V := (l.take i).map fun t => encP (threadL t)
theorem thrL_zero (l : List Th) : thrL l 0 = [] := rfl
theorem thrL_succ {l : List Th} {i : Nat} (h : i < l.length) : thrL l (i + 1) = thrL l i ++ [encP (threadL l[i])] := by
  unfold thrL; rw [List.take_add_one, List.getElem?_eq_getElem h, List.map_append]; rfl
theorem thrL_len (l : List Th) (i : Nat) : (thrL l i).length ≤ i := by rw [thrL, List.length_map, List.length_take]; omega
theorem thrL_end (l : List Th) : thrL l l.length = (l.map threadL).map encP := by rw [thrL, List.take_length, List.map_map]; rfl
def zT : List V := [.int .i64 0, .int .i64 0, .str [], .int .i64 0, .sl [] none, .sl [] none]
theorem encT_z : (encT .z).cells = zT := by rw [Ty.z, encT_mk]; rfl
theorem stopL_enc : encP stopL = .agg [.int .i64 1, .str [], .str [], .sl [] none, .sl [] none, .int .i64 0, .int .i64 0, .str [], .int .i64 0, .sl [] none, .sl [] none, .sl [] none] := by rw [stopL, encP_mk, encT_z]; rfl
theorem thr0 {t : Th} (h : (t.kind.toNat : Int) % 4 = 0) {c : Str} (hc : chanL t = c) : encP (threadL t) = .agg [.int .i64 2, .str c, .str [], .sl [] none, .sl [.agg [.int .i64 2, .str [], .int .i64 1]] none, .int .i64 0, .int .i64 0, .str [], .int .i64 0, .sl [] none, .sl [] none, .sl [encP stopL] none] := by
  subst hc; rw [threadL, if_pos (by omega), encP_mk, encT_z]; rfl
theorem thr1 {t : Th} (h : (t.kind.toNat : Int) % 4 = 1) {c : Str} (hc : chanL t = c) : encP (threadL t) = .agg [.int .i64 3, .str c, .str [120], .sl [] none, .sl [] none, .int .i64 0, .int .i64 0, .str [], .int .i64 0, .sl [] none, .sl [] none, .sl [encP stopL] none] := by
  subst hc; rw [threadL, if_neg (by omega), if_pos (by omega), encP_mk, encT_z]; rfl
theorem thr2 {t : Th} (h : (t.kind.toNat : Int) % 4 = 2) {c : Str} (hc : chanL t = c) : encP (threadL t) = .agg [.int .i64 4, .str c, .str [], .sl [.str (labelL t)] none, .sl [] none, .int .i64 0, .int .i64 0, .str [], .int .i64 0, .sl [] none, .sl [] none, .sl [encP stopL] none] := by
  subst hc; rw [threadL, if_neg (by omega), if_neg (by omega), if_pos (by omega), encP_mk, encT_z]; rfl
theorem thr3 {t : Th} (h : (t.kind.toNat : Int) % 4 = 3) {c : Str} (hc : chanL t = c) : encP (threadL t) = .agg [.int .i64 5, .str c, .str [], .sl [.str (labelL t), .str [100]] none, .sl [] none, .int .i64 0, .int .i64 0, .str [], .int .i64 0, .sl [] none, .sl [] none, .sl [encP stopL, encP stopL] none] := by
  subst hc; rw [threadL, if_neg (by omega), if_neg (by omega), if_neg (by omega), encP_mk, encT_z]; rfl
/-! ### The meetings -/
def mAt (l : List Pr) (i k : Nat) : Option (Nat × Nat) := if i ≠ k ∧ meetL (l.getD i .z) (l.getD k .z) = true then some (i, k) else none
def mCells (l : List Pr) (i k : Nat) : List V := .int .i64 i :: .int .i64 k :: .int .i64 (epK (l.getD i .z).chan) :: .bool (epP (l.getD i .z).chan) :: ((encP (l.getD i .z)).cells ++ (encP (l.getD k .z)).cells)
def meetsL (l : List Pr) : List (Nat × Nat) := pairsL l.length (mAt l)
def encM (l : List Pr) (x : Nat × Nat) : List V := [.agg (mCells l x.1 x.2)]
theorem partL_pre {α : Type} (n : Nat) (f : Nat → Nat → Option α) (i : Nat) {k m : Nat} (h : k ≤ m) : partL n f i k <+: partL n f i m := by
  obtain ⟨d, rfl⟩ := Nat.le.dest h
  induction d with
  | zero => exact List.prefix_rfl
  | succ d ih => refine (ih (by omega)).trans ?_; rw [← Nat.add_assoc, partL_succ]; exact List.prefix_append _ _
theorem partL_all {α : Type} (n : Nat) (f : Nat → Nat → Option α) {i k : Nat} (hi : i < n) (hk : k ≤ n) : partL n f i k <+: pairsL n f := by
  have key : ∀ d i, i + d = n → partL n f i 0 <+: pairsL n f := by
    intro d
    induction d with
    | zero => intro i h; simp only [Nat.add_zero] at h; subst h; rw [partL_end]; exact List.prefix_rfl
    | succ d ih => intro i h; refine (partL_pre n f i (Nat.zero_le n)).trans ?_; rw [partL_turn]; exact ih (i + 1) (by omega)
  refine (partL_pre n f i hk).trans ?_
  rw [partL_turn]
  exact key (n - (i + 1)) (i + 1) (by omega)
theorem pairsL_at {α : Type} {n : Nat} {f : Nat → Nat → Option α} {i k : Nat} (hi : i < n) (hk : k < n) {x : α} (h : f i k = some x) : (pairsL n f)[(partL n f i k).length]? = some x := by
  obtain ⟨r, hr⟩ := partL_all n f hi (show k + 1 ≤ n by omega)
  rw [partL_some h] at hr
  rw [← hr, List.append_assoc, List.getElem?_append_right (Nat.le_refl _), Nat.sub_self]; rfl
theorem mAt_some {l : List Pr} {i k : Nat} (hi : i < l.length) (hk : k < l.length) (h : i ≠ k) (h1 : meetL l[i] l[k] = true) : mAt l i k = some (i, k) := by
  unfold mAt; rw [getD_ltI _ _ _ hi, getD_ltI _ _ _ hk, if_pos ⟨h, h1⟩]
theorem mAt_none {l : List Pr} {i k : Nat} (hi : i < l.length) (hk : k < l.length) (h : i = k ∨ meetL l[i] l[k] = false) : mAt l i k = none := by
  unfold mAt; rw [getD_ltI _ _ _ hi, getD_ltI _ _ _ hk, if_neg]
  rintro ⟨h1, h2⟩
  rcases h with h | h
  · exact h1 h
  · rw [h] at h2; cases h2
theorem meet_yes {a b : Pr} (h : epO a.chan = true) : meetL a b = decide (nameL (epK a.chan) (!(epP a.chan)) = b.chan) := by rw [meetL_eq, dualN, h, if_pos rfl, Bool.true_and]
theorem meet_no {a b : Pr} (h : epO a.chan = false) : meetL a b = false := by rw [meetL_eq, h, Bool.false_and]
theorem mAt_skip {l : List Pr} {i : Nat} (hi : i < l.length) (h : epO l[i].chan = false) : partL l.length (mAt l) i l.length = partL l.length (mAt l) i 0 :=
  partL_skip _ fun j hj => mAt_none hi hj (.inr (meet_no h))
theorem mCells_eq {l : List Pr} {i k : Nat} (hi : i < l.length) (hk : k < l.length) : mCells l i k = .int .i64 i :: .int .i64 k :: .int .i64 (epK l[i].chan) :: .bool (epP l[i].chan) :: ((encP l[i]).cells ++ (encP l[k]).cells) := by
  unfold mCells; rw [getD_ltI _ _ _ hi, getD_ltI _ _ _ hk]
theorem mCells_pure (l : List Pr) (i k : Nat) : PureV (.agg (mCells l i k)) ∧ (V.agg (mCells l i k)).bare = .agg (mCells l i k) := by
  have hb : ∀ p : Pr, (encP p).cells.map V.bare = (encP p).cells := fun p => by
    have h := encP_bare p
    rw [← encP_cells p, V.bare_agg] at h
    simpa using h
  refine ⟨PureV.agg ?_, ?_⟩
  · exact PureL.cons (PureV.int _ _) (PureL.cons (PureV.int _ _) (PureL.cons (PureV.int _ _) (PureL.cons (PureV.bool _) (PureL.app (encP_pureL _) (encP_pureL _)))))
  · rw [V.bare_agg]; unfold mCells; simp only [List.map_cons, List.map_append, hb]; rfl
theorem yld_alone {x : O} {l : List O} (h : ∀ o ∈ l, o.isYld = false) : ∀ (j : Nat) (o : O), (x :: l)[j]? = some o → j ≠ 0 → o.isYld = false := by
  intro j o hj hne
  cases j with
  | zero => exact absurd rfl hne
  | succ j => exact h o (List.mem_iff_getElem?.2 ⟨j, by simpa using hj⟩)
theorem mem_meets {l : List Pr} {n a b : Nat} (h : (meetsL l)[n]? = some (a, b)) : a < l.length ∧ b < l.length ∧ a ≠ b := by
  obtain ⟨i, k, hi, hk, he⟩ := mem_pairsL.1 (List.mem_iff_getElem?.2 ⟨n, h⟩)
  unfold mAt at he
  split at he
  · rename_i hh; cases he; exact ⟨hi, hk, hh.1⟩
  · cases he
theorem encM_at {l : List Pr} {n : Nat} {x : List V} (h : ((meetsL l).map (encM l))[n]? = some x) : ∃ a b, (meetsL l)[n]? = some (a, b) ∧ x = encM l (a, b) := by
  rw [List.getElem?_map] at h
  cases h' : (meetsL l)[n]? with
  | none => rw [h'] at h; cases h
  | some ab => rw [h'] at h; obtain ⟨a, b⟩ := ab; cases h; exact ⟨a, b, rfl, rfl⟩
section
variable {α : Type}
/-- What a filter of the first n meetings leaves. -/
def fmL (l : List Pr) (g : Nat × Nat → Option α) (n : Nat) : List α := ((meetsL l).take n).filterMap g
theorem fmL_some {l : List Pr} {g : Nat × Nat → Option α} {n : Nat} {ab : Nat × Nat} {x : α} (h : (meetsL l)[n]? = some ab) (hg : g ab = some x) : fmL l g (n + 1) = fmL l g n ++ [x] := by
  unfold fmL; rw [List.take_add_one, h, List.filterMap_append]; simp [hg]
theorem fmL_none {l : List Pr} {g : Nat × Nat → Option α} {n : Nat} {ab : Nat × Nat} (h : (meetsL l)[n]? = some ab) (hg : g ab = none) : fmL l g (n + 1) = fmL l g n := by
  unfold fmL; rw [List.take_add_one, h, List.filterMap_append]; simp [hg]
theorem fmL_end (l : List Pr) (g : Nat × Nat → Option α) : fmL l g ((meetsL l).map (encM l)).length = (meetsL l).filterMap g := by
  unfold fmL; rw [List.length_map, List.take_length]
theorem fmL_all (l : List Pr) (g : Nat × Nat → Option α) : fmL l g (meetsL l).length = (meetsL l).filterMap g := by unfold fmL; rw [List.take_length]
theorem meetsL_len {l : List Pr} (h : l.length ≤ 1000000) : (meetsL l).length ≤ 1000001000000 := by rw [meetsL, ← partL_end]; exact partL_len h (Nat.le_refl _) (Nat.zero_le _)
theorem fmL_len {l : List Pr} (g : Nat × Nat → Option α) (n : Nat) (h : l.length ≤ 1000000) : (fmL l g n).length ≤ 1000001000000 := by
  have h1 := List.length_filterMap_le g ((meetsL l).take n)
  have h2 := meetsL_len h
  rw [List.length_take] at h1
  unfold fmL; omega
end
def rxP (l : List Pr) (x : Nat × Nat) : Option Rx := if fitL (l.getD x.1 .z) (l.getD x.2 .z) = true then some ⟨x.1, x.2, epK (l.getD x.1 .z).chan, epP (l.getD x.1 .z).chan⟩ else none
def clP (l : List Pr) (x : Nat × Nat) : Option (Int × Int) := if x.1 < x.2 ∧ fitL (l.getD x.1 .z) (l.getD x.2 .z) = false ∧ fitL (l.getD x.2 .z) (l.getD x.1 .z) = false then some ((x.1 : Int), (x.2 : Int)) else none
theorem rxP_some {l : List Pr} {a b : Nat} (ha : a < l.length) (hb : b < l.length) (h : fitL l[a] l[b] = true) : rxP l (a, b) = some ⟨a, b, epK l[a].chan, epP l[a].chan⟩ := by
  unfold rxP; simp only []; rw [getD_ltI _ _ _ ha, getD_ltI _ _ _ hb, if_pos h]
theorem rxP_none {l : List Pr} {a b : Nat} (ha : a < l.length) (hb : b < l.length) (h : fitL l[a] l[b] = false) : rxP l (a, b) = none := by
  unfold rxP; simp only []; rw [getD_ltI _ _ _ ha, getD_ltI _ _ _ hb, if_neg (by rw [h]; simp)]
theorem clP_some {l : List Pr} {a b : Nat} (ha : a < l.length) (hb : b < l.length) (h0 : a < b) (h : fitL l[a] l[b] = false) (h' : fitL l[b] l[a] = false) : clP l (a, b) = some ((a : Int), (b : Int)) := by
  unfold clP; simp only []; rw [getD_ltI _ _ _ ha, getD_ltI _ _ _ hb, if_pos ⟨h0, h, h'⟩]
theorem clP_none {l : List Pr} {a b : Nat} (ha : a < l.length) (hb : b < l.length) (h : b ≤ a ∨ fitL l[a] l[b] = true ∨ fitL l[b] l[a] = true) : clP l (a, b) = none := by
  unfold clP; simp only []; rw [getD_ltI _ _ _ ha, getD_ltI _ _ _ hb, if_neg]
  rintro ⟨h1, h2, h3⟩
  rcases h with h | h | h
  · omega
  · rw [h] at h2; cases h2
  · rw [h] at h3; cases h3
theorem listL_meets (l : List Pr) : (meetsL l).filterMap (rxP l) = listL l := by
  unfold meetsL listL
  rw [pairsL_bind]
  refine pairsL_congr fun i k hi hk => ?_
  unfold mAt rxAt rxP
  by_cases h : i ≠ k ∧ meetL (l.getD i .z) (l.getD k .z) = true
  · rw [if_pos h]; simp only [Option.bind_some]
    by_cases h2 : fitL (l.getD i .z) (l.getD k .z) = true
    · rw [if_pos h2, if_pos ⟨h.1, h.2, h2⟩]
    · rw [if_neg h2, if_neg fun h3 => h2 h3.2.2]
  · rw [if_neg h, if_neg fun h3 => h ⟨h3.1, h3.2.1⟩]; rfl
theorem clashL_meets (l : List Pr) : (meetsL l).filterMap (clP l) = clashL l := by
  unfold meetsL clashL
  rw [pairsL_bind]
  refine pairsL_congr fun i k hi hk => ?_
  unfold mAt clAt clP
  by_cases h : i ≠ k ∧ meetL (l.getD i .z) (l.getD k .z) = true
  · rw [if_pos h]; simp only [Option.bind_some]
    by_cases h2 : i < k ∧ fitL (l.getD i .z) (l.getD k .z) = false ∧ fitL (l.getD k .z) (l.getD i .z) = false
    · rw [if_pos h2, if_pos ⟨h2.1, h.2, h2.2⟩]
    · rw [if_neg h2, if_neg fun h3 => h2 ⟨h3.1, h3.2.2⟩]
  · rw [if_neg h, if_neg fun h3 => h ⟨by omega, h3.2.1⟩]; rfl
/-! ### The row of those that are busy -/
def busyV (n : Nat) (r : List Rx) (k : Nat) : List V := (List.range n).map fun i => .bool (busyL (r.take k) i)
theorem busyV_len (n : Nat) (r : List Rx) (k : Nat) : (busyV n r k).length = n := by rw [busyV, List.length_map, List.length_range]
theorem busyV_zero (n : Nat) (r : List Rx) : busyV n r 0 = List.replicate n (.bool false) := by
  unfold busyV
  rw [List.take_zero]
  exact List.ext_getElem (by simp) fun i h1 h2 => by rw [List.getElem_map, List.getElem_replicate]; rfl
theorem flat_busy (n : Nat) (r : List Rx) (k : Nat) : flat (busyV n r k) = busyV n r k := by
  unfold busyV flat
  induction List.range n with
  | nil => rfl
  | cons i l ih => rw [List.map_cons, List.flatMap_cons, ih]; rfl
theorem busyV_at {n i : Nat} (h : i < n) (r : List Rx) (k : Nat) (u : V) : ((busyV n r k).drop i).headD u = .bool (busyL (r.take k) i) := by
  have h1 : i < (busyV n r k).length := by rw [busyV_len]; exact h
  rw [List.drop_eq_getElem_cons h1]
  simp [busyV]
theorem busyV_set {n : Nat} {r : List Rx} {k : Nat} (hk : k < r.length) {x y : Nat} (hx : r[k].o = x) (hy : r[k].i = y) : ((busyV n r k).set x (.bool true)).set y (.bool true) = busyV n r (k + 1) := by
  refine List.ext_getElem (by simp [busyV_len]) fun i h1 h2 => ?_
  rw [List.getElem_set, List.getElem_set]
  simp only [busyV, List.getElem_map, List.getElem_range, busy_succ hk, hx, hy]
  by_cases h3 : y = i
  · subst h3; simp
  · rw [if_neg h3]
    by_cases h4 : x = i
    · subst h4; simp
    · rw [if_neg h4]
      have h5 : ¬ (x : Int) = i := by omega
      have h6 : ¬ (y : Int) = i := by omega
      simp [h5, h6]
theorem listL_at {l : List Pr} {k : Nat} (h : k < (listL l).length) : ∃ x y : Nat, (listL l)[k].o = x ∧ (listL l)[k].i = y ∧ x < l.length ∧ y < l.length ∧ x ≠ y := by
  obtain ⟨i, j, hi, hj, he⟩ := mem_pairsL.1 (List.getElem_mem h)
  unfold rxAt at he
  split at he
  · rename_i hh
    have := Option.some.inj he
    exact ⟨i, j, by rw [← this], by rw [← this], hi, hj, hh.1⟩
  · cases he
theorem pickI_zero {l : List Rx} {n : Int} (h : pickI l.length n < 0) : l = [] := by
  unfold pickI at h
  split at h
  · exact List.length_eq_zero_iff.1 (by assumption)
  · have := Int.emod_nonneg n (show (l.length : Int) ≠ 0 by omega); omega
theorem pickI_lt {l : List Rx} {n : Int} (h : 0 ≤ pickI l.length n) : l ≠ [] ∧ pickI l.length n < l.length ∧ pickI l.length n = n % l.length := by
  unfold pickI at h ⊢
  split at h
  · omega
  · rename_i h1
    rw [if_neg h1]
    exact ⟨fun h2 => h1 (by rw [h2]; rfl), Int.emod_lt_of_pos n (by omega), rfl⟩
theorem pickR_at {l : List Rx} {n : Int} (h : 0 ≤ pickI l.length n) (h1 : (pickI l.length n).toNat < l.length) : pickR l n = l[(pickI l.length n).toNat] := by
  have h2 := (pickI_lt h).2.2
  unfold pickR
  simp only [h2] at h1 ⊢
  rw [getD_ltI _ _ _ h1]
theorem pickR_add {l : List Rx} {n : Int} (h : 0 ≤ pickI l.length n) : pickR l (pickI l.length n + 3 * (l.length : Int)) = pickR l n := by
  have h2 := (pickI_lt h).2.2
  unfold pickR
  rw [h2, Int.add_mul_emod_self_right, Int.emod_emod_of_dvd _ (Int.dvd_refl _)]
end Go.Duo
