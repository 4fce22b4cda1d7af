/-
  Law 18: threads in the opposite order.
-/
import Derived.Test.YtmjngcfigfkafaaDoorDApart
set_option linter.all false
namespace Go.Duo
open Go
theorem range_flip (n : Nat) : (List.range n).map (fun i => n - 1 - i) = (List.range n).reverse := by
  rw [List.range_eq_range', List.reverse_range']
  rw [← List.range_eq_range']
  refine List.map_congr_left fun i hi => ?_
  omega
theorem range_perm (n : Nat) : ((List.range n).map (fun i => n - 1 - i)).Perm (List.range n) := by rw [range_flip]; exact List.reverse_perm _
section
variable {α β : Type}
theorem perm_flat {f g : α → List β} : ∀ l : List α, (∀ a, (f a).Perm (g a)) → (l.flatMap f).Perm (l.flatMap g)
  | [], _ => .refl _
  | a :: l, h => by rw [List.flatMap_cons, List.flatMap_cons]; exact (h a).append (perm_flat l h)
theorem pairsL_flip (n : Nat) (f : Nat → Nat → Option α) : (pairsL n fun i k => f (n - 1 - i) (n - 1 - k)).Perm (pairsL n f) := by
  unfold pairsL
  have h1 : (List.range n).flatMap (fun i => (List.range n).filterMap fun k => f (n - 1 - i) (n - 1 - k)) = ((List.range n).map (fun i => n - 1 - i)).flatMap fun i => ((List.range n).map (fun i => n - 1 - i)).filterMap (f i) := by
    rw [List.flatMap_map]
    refine congrArg (fun g => (List.range n).flatMap g) (funext fun i => ?_)
    rw [List.filterMap_map]; rfl
  rw [h1]
  refine ((range_perm n).flatMap_right _).trans ?_
  exact perm_flat _ fun i => (range_perm n).filterMap _
theorem pairsL_map (n : Nat) (f : Nat → Nat → Option α) (h : α → β) : (pairsL n fun i k => (f i k).map h) = (pairsL n f).map h := by
  unfold pairsL
  rw [List.map_flatMap]
  refine congrArg (fun g => (List.range n).flatMap g) (funext fun i => ?_)
  rw [List.map_filterMap]
/-- How many. -/
def cnt (n m : Nat) (b : Nat → Nat → Bool) : Nat := ((List.range n).map fun i => (List.range m).countP (b i)).sum
theorem countP_some (l : List Nat) (f : Nat → Option α) : (l.filterMap f).length = l.countP fun k => (f k).isSome := by
  induction l with
  | nil => rfl
  | cons a l ih =>
    rw [List.filterMap_cons, List.countP_cons]
    cases h : f a with
    | none => simp [ih]
    | some x => simp [ih]
theorem pairsL_cnt (n : Nat) (f : Nat → Nat → Option α) : (pairsL n f).length = cnt n n fun i k => (f i k).isSome := by
  unfold pairsL cnt
  rw [List.length_flatMap]
  congr 1
  exact List.map_congr_left fun i _ => countP_some _ _
theorem cnt_succ (n m : Nat) (b : Nat → Nat → Bool) : cnt (n + 1) m b = cnt n m b + (List.range m).countP (b n) := by
  unfold cnt; rw [List.range_succ, List.map_append, List.sum_append]; simp
theorem cnt_succ' (n m : Nat) (b : Nat → Nat → Bool) : cnt n (m + 1) b = cnt n m b + (List.range n).countP (fun i => b i m) := by
  induction n with
  | zero => simp [cnt]
  | succ n ih =>
    rw [cnt_succ, cnt_succ, ih, List.range_succ, List.countP_append, List.range_succ, List.countP_append]
    simp only [List.countP_cons, List.countP_nil]
    omega
theorem cnt_turn (n m : Nat) (b : Nat → Nat → Bool) : cnt n m b = cnt m n fun k i => b i k := by
  induction n with
  | zero =>
    induction m with
    | zero => rfl
    | succ m ih => rw [cnt_succ, ← ih]; simp [cnt]
  | succ n ih => rw [cnt_succ, cnt_succ', ih]
theorem cnt_congr {n m : Nat} {b c : Nat → Nat → Bool} (h : ∀ i k, i < n → k < m → b i k = c i k) : cnt n m b = cnt n m c := by
  unfold cnt
  congr 1
  refine List.map_congr_left fun i hi => List.countP_congr fun k hk => ?_
  rw [h i k (List.mem_range.1 hi) (List.mem_range.1 hk)]
theorem cnt_flip (n : Nat) (b : Nat → Nat → Bool) : (cnt n n fun i k => b (n - 1 - i) (n - 1 - k)) = cnt n n b := by
  have h := (pairsL_flip n (fun i k => if b i k = true then some () else none)).length_eq
  rw [pairsL_cnt, pairsL_cnt] at h
  have e : ∀ c : Bool, (if c = true then some () else none : Option Unit).isSome = c := fun c => by cases c <;> rfl
  simpa only [e] using h
end
theorem rev_at {l : List Pr} {i : Nat} (h : i < l.length) : l.reverse.getD i .z = l.getD (l.length - 1 - i) .z := by
  rw [getD_ltI _ _ _ (by simpa using h), getD_ltI _ _ _ (by omega), List.getElem_reverse]
def flipR (n : Nat) (r : Rx) : Rx := ⟨(n : Int) - 1 - r.o, (n : Int) - 1 - r.i, r.c, r.p⟩
theorem rxAt_rev {l : List Pr} {i k : Nat} (hi : i < l.length) (hk : k < l.length) : rxAt l.reverse i k = (rxAt l (l.length - 1 - i) (l.length - 1 - k)).map (flipR l.length) := by
  unfold rxAt
  rw [rev_at hi, rev_at hk]
  by_cases h : i ≠ k ∧ meetL (l.getD (l.length - 1 - i) .z) (l.getD (l.length - 1 - k) .z) = true ∧ fitL (l.getD (l.length - 1 - i) .z) (l.getD (l.length - 1 - k) .z) = true
  · rw [if_pos h, if_pos ⟨by omega, h.2⟩]
    simp only [Option.map_some, flipR, Option.some.injEq, Rx.mk.injEq, and_true]
    omega
  · rw [if_neg h, if_neg (fun h' => h ⟨by omega, h'.2⟩)]; rfl
theorem listL_rev (l : List Pr) : listL l.reverse = pairsL l.length fun i k => (rxAt l (l.length - 1 - i) (l.length - 1 - k)).map (flipR l.length) := by
  unfold listL
  rw [List.length_reverse]
  exact pairsL_congr fun i k hi hk => rxAt_rev hi hk
theorem listL_rev_len (l : List Pr) : (listL l.reverse).length = (listL l).length := by
  rw [listL_rev, pairsL_map, List.length_map, (pairsL_flip l.length (rxAt l)).length_eq]; rfl
theorem listL_rev_mem {l : List Pr} {x : Rx} (h : x ∈ listL l) : flipR l.length x ∈ listL l.reverse := by
  rw [listL_rev, pairsL_map]
  exact List.mem_map_of_mem ((pairsL_flip l.length (rxAt l)).mem_iff.2 h)
theorem listL_rev_mem' {l : List Pr} {x : Rx} (h : x ∈ listL l.reverse) : ∃ y ∈ listL l, x = flipR l.length y := by
  rw [listL_rev, pairsL_map] at h
  obtain ⟨y, hy, rfl⟩ := List.mem_map.1 h
  exact ⟨y, (pairsL_flip l.length (rxAt l)).mem_iff.1 hy, rfl⟩
theorem meet_symm {a b : Pr} (h : meetL a b = true) : meetL b a = true := by
  obtain ⟨k, p, hk, h1, h2⟩ := ep_of_meet h
  unfold meetL
  rw [epL_some.2 ⟨hk, h2⟩, h1]
  simp
theorem meet_comm (a b : Pr) : meetL a b = meetL b a := by
  cases h : meetL a b with
  | true => rw [meet_symm h]
  | false =>
    cases h' : meetL b a with
    | true => rw [meet_symm h'] at h; cases h
    | false => rfl
theorem clashL_rev_len (l : List Pr) : (clashL l.reverse).length = (clashL l).length := by
  unfold clashL
  rw [pairsL_cnt, pairsL_cnt, List.length_reverse, ← cnt_flip l.length fun i k => (clAt l i k).isSome, cnt_turn l.length l.length fun i k => (clAt l (l.length - 1 - i) (l.length - 1 - k)).isSome]
  refine cnt_congr fun i k hi hk => ?_
  unfold clAt
  rw [rev_at hi, rev_at hk, meet_comm]
  have e : ∀ (c : Prop) [Decidable c] (x : Int × Int), (if c then some x else none).isSome = decide c := fun c _ x => by by_cases h : c <;> simp [h]
  rw [e, e]
  refine decide_eq_decide.2 ⟨fun h => ⟨by omega, h.2.1, h.2.2.2, h.2.2.1⟩, fun h => ⟨by omega, h.2.1, h.2.2.2, h.2.2.1⟩⟩
theorem hasR (l : List Th) : ∀ x ∈ (l.map threadL).reverse, hasL x := fun x hx => hasT l x (List.mem_reverse.1 hx)
theorem chanR (l : List Th) : ∀ x ∈ (l.map threadL).reverse, x.chan.length ≤ 2147483647 := fun x hx => chanT l x (List.mem_reverse.1 hx)
theorem rev_step {l : List Pr} {n j : Nat} (hn : l.length = n) (hj : j < n) : (l.drop (n - (j + 1))).reverse = (l.drop (n - j)).reverse ++ [l[n - 1 - j]'(by omega)] := by
  have e : l.drop (n - (j + 1)) = l[n - 1 - j]'(by omega) :: l.drop (n - j) := by
    rw [List.drop_eq_getElem_cons (by omega)]
    have e1 : n - (j + 1) = n - 1 - j := by omega
    have e2 : n - (j + 1) + 1 = n - j := by omega
    simp only [e1]
    congr 1
    rw [← e1, e2]
  rw [e, List.reverse_cons]
theorem busy_iff {r : List Rx} {i : Nat} : busyL r i = true ↔ ∃ x ∈ r, x.o = i ∨ x.i = i := by
  unfold busyL
  rw [List.any_eq_true]
  simp only [Bool.or_eq_true, decide_eq_true_eq]
theorem busy_rev {l : List Pr} {i : Nat} (hi : i < l.length) : busyL (listL l.reverse) i = busyL (listL l) (l.length - 1 - i) := by
  refine Bool.eq_iff_iff.2 ⟨fun h => ?_, fun h => ?_⟩
  · obtain ⟨x, hx, hh⟩ := busy_iff.1 h
    obtain ⟨y, hy, rfl⟩ := listL_rev_mem' hx
    refine busy_iff.2 ⟨y, hy, ?_⟩
    simp only [flipR] at hh
    omega
  · obtain ⟨x, hx, hh⟩ := busy_iff.1 h
    refine busy_iff.2 ⟨_, listL_rev_mem hx, ?_⟩
    simp only [flipR]
    omega
theorem waitL_rev_len (l : List Pr) : (waitL l.reverse).length = (waitL l).length := by
  unfold waitL idleL
  rw [List.length_map, List.length_map, List.length_reverse, ← List.countP_eq_length_filter, ← List.countP_eq_length_filter]
  have h := (range_perm l.length).countP_eq (fun i => !busyL (listL l) i)
  rw [← h, List.countP_map]
  refine List.countP_congr fun i hi => ?_
  rw [busy_rev (List.mem_range.1 hi)]; rfl
theorem toNat_sub11 (n j : Nat) : ((n : Int) - 1 - (j : Int)).toNat = n - 1 - j := by omega
theorem turn_sub (n j : Nat) : (n : Int) - 1 - ((j : Int) + 1) = (n : Int) - 1 - (j : Int) - 1 := by omega
theorem found_yes {B : List Rx} {x : Rx} {k : Nat} (h : x ∈ B.take k) : decide (x ∈ B.take (k + 1)) = true := decide_eq_true (List.take_subset_take_left _ (Nat.le_succ k) h)
theorem found_no {B : List Rx} {r : Rx} {k n : Nat} (hk : k < B.length) (h : ¬ flipR n r ∈ B.take k) : decide (flipR n r ∈ B.take (k + 1)) = (decide (B[k].o = (n : Int) - 1 - r.o) && (decide (B[k].i = (n : Int) - 1 - r.i) && (decide (B[k].c = r.c) && (decide (B[k].p = r.p) && true)))) := by
  rw [show (decide (B[k].o = (n : Int) - 1 - r.o) && (decide (B[k].i = (n : Int) - 1 - r.i) && (decide (B[k].c = r.c) && (decide (B[k].p = r.p) && true)))) = decide (B[k] = flipR n r) from encR_inj B[k] (flipR n r)]
  refine decide_eq_decide.2 ?_
  rw [List.take_add_one, List.getElem?_eq_getElem hk, List.mem_append]
  simp only [Option.toList, List.mem_cons, List.not_mem_nil, or_false]
  exact ⟨fun hh => hh.elim (fun h' => absurd h' h) Eq.symm, fun hh => .inr hh.symm⟩
theorem drop_all {α : Type} (f : α → Pr) (l : List α) : (l.map f).drop l.length = [] := List.drop_eq_nil_of_le (by simp)
theorem le_agg2 (st : List O) (es : List V) (t : Option Nat) (c : V) : V.le st (.agg [.sl es t, c]) (.agg [.sl es none, c]) := V.le_agg rfl fun i a b ha hb => by
  match i with
  | 0 => simp at ha hb; subst ha hb; exact V.le_sl _ _ _
  | 1 => simp at ha hb; subst ha hb; exact V.le_refl _ _
  | i + 2 => simp at ha
theorem listL_bnd {l : List Th} {k : Nat} (h : k < (listL (l.map threadL)).length) : 0 ≤ (listL (l.map threadL))[k].o ∧ (listL (l.map threadL))[k].o < l.length ∧ 0 ≤ (listL (l.map threadL))[k].i ∧ (listL (l.map threadL))[k].i < l.length := by
  obtain ⟨x, y, hx, hy, h1, h2, _⟩ := list_at h
  rw [List.length_map] at hx hy
  rw [h1, h2]; omega
theorem found_all {l : List Th} {i k : Nat} (h : i < (listL (l.map threadL)).length) (hk : ¬ k < (listL (l.map threadL).reverse).length) : flipR l.length (listL (l.map threadL))[i] ∈ (listL (l.map threadL).reverse).take k := by
  rw [List.take_of_length_le (by omega)]
  have := listL_rev_mem (List.getElem_mem h)
  rwa [List.length_map] at this
end Go.Duo
