/-
  Law 18: redexes and clashes are apart; threads in the opposite order.
-/
import Derived.Test.YtmjngcfigfkafaaDoorDAwake
set_option linter.all false
namespace Go.Duo
open Go
def sameEp (l : List Th) (i k : Nat) : Bool := match l[i]?, l[k]? with
  | some a, some b => decide (a.ch.toNat = b.ch.toNat) && decide (a.p = b.p)
  | _, _ => false
def twiceL (l : List Th) : Bool := (List.range l.length).any fun i => (List.range i).any fun k => sameEp l i k
theorem sameEp_at {l : List Th} {i k : Nat} (hi : i < l.length) (hk : k < l.length) : sameEp l i k = (decide (l[i].ch.toNat = l[k].ch.toNat) && decide (l[i].p = l[k].p)) := by
  unfold sameEp; rw [List.getElem?_eq_getElem hi, List.getElem?_eq_getElem hk]
theorem twice_yes {l : List Th} {i k : Nat} (hi : i < l.length) (hk : k < i) (h : sameEp l i k = true) : twiceL l = true :=
  List.any_eq_true.2 ⟨i, List.mem_range.2 hi, List.any_eq_true.2 ⟨k, List.mem_range.2 hk, h⟩⟩
theorem twice_no {l : List Th} (h : ∀ a < l.length, ∀ b < a, sameEp l a b = false) : twiceL l = false := by
  unfold twiceL
  rw [List.any_eq_false]
  intro a ha hh
  obtain ⟨b, hb, hs⟩ := List.any_eq_true.1 hh
  rw [h a (List.mem_range.1 ha) b (List.mem_range.1 hb)] at hs
  cases hs
theorem twice_not {l : List Th} (h : twiceL l = false) {i k : Nat} (hi : i < l.length) (hk : k < l.length) (hne : i ≠ k) : ¬ (l[i].ch.toNat = l[k].ch.toNat ∧ l[i].p = l[k].p) := by
  rintro ⟨h1, h2⟩
  rcases Nat.lt_or_gt_of_ne hne with hlt | hlt
  · rw [twice_yes hk hlt (by rw [sameEp_at hk hi, h1, h2]; simp)] at h; cases h
  · rw [twice_yes hi hlt (by rw [sameEp_at hi hk, h1, h2]; simp)] at h; cases h
section
variable {l : List Pr}
theorem list_at {j : Nat} (h : j < (listL l).length) : ∃ (x y : Nat) (hx : x < l.length) (hy : y < l.length), (listL l)[j].o = x ∧ (listL l)[j].i = y ∧ x ≠ y ∧ meetL l[x] l[y] = true ∧ fitL l[x] l[y] = true := by
  obtain ⟨i, k, hi, hk, he⟩ := mem_pairsL.1 (List.getElem_mem h)
  unfold rxAt at he
  rw [getD_ltI _ _ _ hi, getD_ltI _ _ _ hk] at he
  split at he
  · rename_i hc
    simp only [Option.some.injEq] at he
    exact ⟨i, k, hi, hk, by rw [← he], by rw [← he], hc.1, hc.2.1, hc.2.2⟩
  · cases he
theorem clash_at {j : Nat} (h : j < (clashL l).length) : ∃ (x y : Nat) (hx : x < l.length) (hy : y < l.length), (clashL l)[j] = ((x : Int), (y : Int)) ∧ x < y ∧ meetL l[x] l[y] = true ∧ fitL l[x] l[y] = false ∧ fitL l[y] l[x] = false := by
  obtain ⟨i, k, hi, hk, he⟩ := mem_pairsL.1 (List.getElem_mem h)
  unfold clAt at he
  rw [getD_ltI _ _ _ hi, getD_ltI _ _ _ hk] at he
  split at he
  · rename_i hc
    simp only [Option.some.injEq] at he
    exact ⟨i, k, hi, hk, he.symm, hc.1, hc.2.1, hc.2.2.1, hc.2.2.2⟩
  · cases he
theorem fit_kinds {a b : Pr} (h : fitL a b = true) : (a.kind = 2 ∨ a.kind = 4) ∧ (b.kind = 3 ∨ b.kind = 5) := by
  unfold fitL at h
  simp only [Bool.or_eq_true, Bool.and_eq_true, decide_eq_true_eq] at h
  rcases h with ⟨h1, h2⟩ | ⟨⟨h1, h2⟩, _⟩
  · exact ⟨.inl h1, .inl h2⟩
  · exact ⟨.inr h1, .inr h2⟩
/-- A redex is no clash. -/
theorem apart_clash {i k : Nat} (hi : i < (listL l).length) (hk : k < (clashL l).length) : ¬ (clashL l)[k] = (min (listL l)[i].o (listL l)[i].i, max (listL l)[i].o (listL l)[i].i) := by
  intro h
  obtain ⟨x, y, hx, hy, h1, h2, hne, hm, hf⟩ := list_at hi
  obtain ⟨a, b, ha, hb, h3, hlt, _, hf1, hf2⟩ := clash_at hk
  rw [h3, h1, h2] at h
  simp only [Prod.mk.injEq] at h
  obtain ⟨ha', hb'⟩ := h
  rcases Nat.lt_or_gt_of_ne hne with hxy | hxy
  · have e1 : a = x := by omega
    have e2 : b = y := by omega
    subst e1 e2; rw [hf] at hf1; cases hf1
  · have e1 : a = y := by omega
    have e2 : b = x := by omega
    subst e1 e2; rw [hf] at hf2; cases hf2
theorem pairs_apart : (listL l).Pairwise fun x y => ¬ (x.o = y.o ∧ x.i = y.i) := by
  have hr : ∀ n, (List.range n).Pairwise (· < ·) := fun n => List.pairwise_lt_range
  have ho : ∀ {i k : Nat} {r : Rx}, rxAt l i k = some r → r.o = i ∧ r.i = k := fun {i k r} h => by
    unfold rxAt at h
    split at h
    · simp only [Option.some.injEq] at h; rw [← h]; exact ⟨rfl, rfl⟩
    · cases h
  unfold listL pairsL
  rw [List.pairwise_flatMap]
  refine ⟨fun i hi => ?_, ?_⟩
  · rw [List.pairwise_filterMap]
    refine (hr _).imp fun {a b} hab x hx y hy => ?_
    have h1 := ho hx
    have h2 := ho hy
    omega
  · refine (hr _).imp fun {a b} hab x hx y hy => ?_
    obtain ⟨k, _, hx⟩ := List.mem_filterMap.1 hx
    obtain ⟨k', _, hy⟩ := List.mem_filterMap.1 hy
    have h1 := ho hx
    have h2 := ho hy
    omega
/-- Two redexes have different threads. -/
theorem apart_pairs {i k : Nat} (hi : i < (listL l).length) (hk : k < i) : ¬ ((listL l)[i].o = (listL l)[k].o ∧ (listL l)[i].i = (listL l)[k].i) := by
  have h := List.pairwise_iff_getElem.1 (pairs_apart (l := l)) k i (by omega) hi hk
  intro hh
  exact h ⟨hh.1.symm, hh.2.symm⟩
theorem apart_turned {i k : Nat} (hi : i < (listL l).length) (hk : k < (listL l).length) : ¬ (listL l)[i].o = (listL l)[k].i := by
  obtain ⟨x, y, hx, hy, h1, h2, _, _, hf⟩ := list_at hi
  obtain ⟨a, b, ha, hb, h3, h4, _, _, hg⟩ := list_at hk
  rw [h1, h4]
  intro h
  have e : x = b := by omega
  subst e
  have k1 := (fit_kinds hf).1
  have k2 := (fit_kinds hg).2
  omega
end
theorem turnF1 {l : List Pr} {i k : Nat} (hi : i < (listL l).length) (hk : k < (listL l).length) : ((listL l)[i].o = (listL l)[k].i) = False := eq_false (apart_turned hi hk)
theorem turnF2 {l : List Pr} {i k : Nat} (hi : i < (listL l).length) (hk : k < (listL l).length) : ((listL l)[i].i = (listL l)[k].o) = False := eq_false fun h => apart_turned hk hi h.symm
theorem listL_len {l : List Pr} (h : l.length ≤ 1000000) : (listL l).length ≤ 1000001000000 := by rw [listL, ← partL_end]; exact partL_len h (Nat.le_refl _) (Nat.zero_le _)
theorem clashL_len {l : List Pr} (h : l.length ≤ 1000000) : (clashL l).length ≤ 1000001000000 := by rw [clashL, ← partL_end]; exact partL_len h (Nat.le_refl _) (Nat.zero_le _)
theorem ep_of_meet {a b : Pr} (h : meetL a b = true) : ∃ (k : Nat) (p : Bool), k ≤ 2147483647 ∧ a.chan = nameL k p ∧ b.chan = nameL k (!p) := by
  unfold meetL at h
  cases he : epL a.chan with
  | none => rw [he] at h; cases h
  | some kp =>
    obtain ⟨k, p⟩ := kp
    rw [he] at h
    obtain ⟨h1, h2⟩ := epL_some.1 he
    exact ⟨k, p, h1, h2, (of_decide_eq_true h).symm⟩
theorem chan_inj {t u : Th} {k : Nat} {p : Bool} (hk : k ≤ 2147483647) (h : chanL t = nameL k p) (h' : chanL u = nameL k p) : t.ch.toNat = u.ch.toNat ∧ t.p = u.p := by
  have key : ∀ t : Th, chanL t = nameL k p → t.ch.toNat = k ∧ t.p = p := fun t h => by
    unfold chanL at h
    split at h
    · have hl := congrArg List.length h
      have := (itoa_len31 hk).1
      simp only [nameL, List.length_append, List.length_cons, List.length_nil] at hl
      omega
    · exact nameL_inj h
  have h1 := key t h
  have h2 := key u h'
  exact ⟨h1.1.trans h2.1.symm, h1.2.trans h2.2.symm⟩
/-- Without threads on an endpoint more than once, each thread is in one redex at most. -/
theorem apart_once {l : List Th} (ht : twiceL l = false) {i k : Nat} (hi : i < (listL (l.map threadL)).length) (hk : k < i) :
    ¬ ((listL (l.map threadL))[i].o = (listL (l.map threadL))[k].o) ∧ ¬ ((listL (l.map threadL))[i].i = (listL (l.map threadL))[k].i) := by
  have hki : k < (listL (l.map threadL)).length := by omega
  obtain ⟨x, y, hx, hy, h1, h2, _, hm, _⟩ := list_at hi
  obtain ⟨a, b, ha, hb, h3, h4, _, hm', _⟩ := list_at hki
  have hp := apart_pairs hi hk
  rw [h1, h2, h3, h4] at hp ⊢
  obtain ⟨n, p, hn, c1, c2⟩ := ep_of_meet hm
  obtain ⟨n', p', _, c3, c4⟩ := ep_of_meet hm'
  have hch : ∀ (z : Nat) (hz : z < (l.map threadL).length), (l.map threadL)[z].chan = chanL (l[z]'(by simpa using hz)) := fun z hz => by rw [List.getElem_map, threadL_chan]
  have hno : ∀ (z w : Nat) (hz : z < (l.map threadL).length) (hw : w < (l.map threadL).length) (n : Nat) (p : Bool), n ≤ 2147483647 → (l.map threadL)[z].chan = nameL n p → (l.map threadL)[w].chan = nameL n p → z = w := fun z w hz hw n p hn e1 e2 => by
    rw [hch] at e1 e2
    exact Classical.byContradiction fun hne => twice_not ht (by simpa using hz) (by simpa using hw) hne (chan_inj hn e1 e2)
  refine ⟨fun h => ?_, fun h => ?_⟩
  · have e : x = a := by omega
    subst e
    rw [c1] at c3
    obtain ⟨rfl, rfl⟩ := nameL_inj c3
    have := hno y b hy hb _ _ hn c2 c4
    exact hp ⟨rfl, by omega⟩
  · have e : y = b := by omega
    subst e
    rw [c2] at c4
    obtain ⟨rfl, hpp⟩ := nameL_inj c4
    have hpp : p = p' := by cases p <;> cases p' <;> simp_all
    subst hpp
    have := hno x a hx ha _ _ hn c1 c3
    exact hp ⟨by omega, rfl⟩
end Go.Duo
