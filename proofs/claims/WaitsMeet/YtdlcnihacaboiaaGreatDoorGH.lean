/-
  A part of the proof.
-/
import Derived.Test.YtdlcnihacaboiaaGreatDoorGG
import Derived.IntWalk
set_option linter.all false
namespace Go.Duo
open Go
section
variable {P : Program} {gl : Nat → V} {r : Option Nat} {e : Env} {st : List O} {w w' : World} {s s' : S} {ops : Array Oper} {m : Nat}
theorem anyOK_spec (h : anyOK ops m = true) : m ≤ ops.size ∧ (∀ i j, dep ops i j = true → j < i) ∧
    (∀ (i j : Nat) (o : Oper) (t : Tmp), i < m → j < m → ops[i]? = some o → t ∈ o.looksAt ops → dstAt ops j = some t → dep ops i j = true) ∧
    (∀ (i j : Nat) (t : Tmp), i < m → j < m → dstAt ops i = some t → dstAt ops j = some t → i = j) ∧
    (m < ops.size → (∀ j, j < m → ∃ j', j < j' ∧ j' ≤ m ∧ dep ops j' j = true) ∧ ∀ i, i < ops.size → m < i → dep ops i (i - 1) = true) := by
  simp only [anyOK, Bool.and_eq_true, decide_eq_true_eq, List.all_eq_true, List.mem_range, Bool.or_eq_true, List.any_eq_true] at h
  obtain ⟨⟨⟨⟨h1, h2⟩, h3⟩, h4⟩, h5⟩ := h
  have key : ∀ (i j : Nat) (t : Tmp), i < m → j < i → dstAt ops i = some t → dstAt ops j = some t → False := fun i j t hi hj h6 h7 => by
    have := h4 i hi j hj
    simp [h6, h7] at this
  refine ⟨h1, fun i j hd => ?_, fun i j o t hi hj ho ht hdj => ?_, fun i j t hi hj h6 h7 => ?_, fun hlt => ?_⟩
  · unfold dep at hd
    cases ho : ops[i]? with
    | none => simp [ho] at hd
    | some o =>
      rw [ho] at hd
      simp only [List.any_eq_true, Bool.and_eq_true, beq_iff_eq] at hd
      obtain ⟨ed, hmem, hb, rfl⟩ := hd
      have := h2 i (Array.getElem?_eq_some_iff.1 ho).1
      rw [ho] at this
      have := List.all_eq_true.1 this ed hmem
      simpa [hb] using this
  · have := h3 i hi
    rw [ho] at this
    have := List.all_eq_true.1 this t ht
    have := List.all_eq_true.1 this j (by simpa using hj)
    simpa [hdj] using this
  · rcases Nat.lt_trichotomy i j with h | h | h
    · exact (key j i t hj h h7 h6).elim
    · exact h
    · exact (key i j t hi h h6 h7).elim
  · rcases h5 with h5 | ⟨h5, h6⟩
    · omega
    · refine ⟨fun j hj => ?_, fun i hi hm => ?_⟩
      · obtain ⟨j', h7, h8, h9⟩ := h5 j hj
        exact ⟨j', h8, by omega, h9⟩
      · rcases h6 i hi with h | h
        · omega
        · exact h
theorem dep_mem {i j : Nat} {o : Oper} (ho : ops[i]? = some o) : dep ops i j = true ↔ ∃ ed ∈ o.after, Region.binds .any ed = true ∧ ed.on = j := by
  unfold dep
  rw [ho]
  simp only [List.any_eq_true, Bool.and_eq_true, beq_iff_eq, Array.mem_toList_iff]
/-- What is listed holds what it hangs on. -/
def Closed (ops : Array Oper) (L : Array Bool) : Prop := L.size = ops.size ∧ ∀ i j, L.getD i false = true → dep ops i j = true → L.getD j false = true
theorem getD_set {L : Array Bool} {i j : Nat} (hi : i < L.size) : (L.setIfInBounds i true).getD j false = if i = j then true else L.getD j false := by
  simp only [Array.getD_eq_getD_getElem?]
  by_cases h : i = j
  · subst h; simp [hi]
  · rw [Array.getElem?_setIfInBounds_ne h, if_neg h]
theorem ready_spec {L : Array Bool} (hs : L.size = ops.size) {i : Nat} : i ∈ Region.ready .any ops L ↔ i < ops.size ∧ L.getD i false = false ∧ ∀ j, dep ops i j = true → L.getD j false = true := by
  rw [mem_ready]
  constructor
  · rintro ⟨h1, o, ho, h2⟩
    have hi := (Array.getElem?_eq_some_iff.1 ho).1
    refine ⟨hi, ?_, fun j hd => ?_⟩
    · simp only [Array.getD_eq_getD_getElem?] at h1 ⊢
      rw [Array.getElem?_eq_getElem (by omega)] at h1 ⊢
      exact h1
    · obtain ⟨ed, h3, h4, rfl⟩ := (dep_mem ho).1 hd
      exact h2 ed h3 h4
  · rintro ⟨hi, h1, h2⟩
    refine ⟨?_, ops[i], Array.getElem?_eq_getElem hi, fun ed h3 h4 => h2 _ ((dep_mem (Array.getElem?_eq_getElem hi)).2 ⟨ed, h3, h4, rfl⟩)⟩
    simp only [Array.getD_eq_getD_getElem?] at h1 ⊢
    rw [Array.getElem?_eq_getElem (by omega)] at h1 ⊢
    exact h1
theorem Closed.set {L : Array Bool} {i : Nat} (h : Closed ops L) (hi : i ∈ Region.ready .any ops L) : Closed ops (L.setIfInBounds i true) := by
  obtain ⟨h1, h2⟩ := h
  obtain ⟨h3, _, h5⟩ := (ready_spec h1).1 hi
  refine ⟨by simpa using h1, fun a b ha hd => ?_⟩
  rw [getD_set (by omega)] at ha ⊢
  split
  · rfl
  · split at ha
    · rename_i _ he; subst he; exact h5 b hd
    · exact h2 a b ha hd
theorem count_set {L : Array Bool} {i : Nat} (hi : i < L.size) (h : L.getD i false = false) : (L.setIfInBounds i true).count false + 1 = L.count false := by
  have h' : L[i] = false := by
    simp only [Array.getD_eq_getD_getElem?] at h
    rw [Array.getElem?_eq_getElem hi] at h
    simpa using h
  have hpos : 0 < L.count false := by
    rw [Array.count_pos_iff]
    exact h' ▸ Array.getElem_mem hi
  have : L.setIfInBounds i true = L.set i true hi := by simp [Array.setIfInBounds, hi]
  rw [this, Array.count_set]
  simp [h']
  omega
/-- The chain at the end. -/
theorem chain {Q : Exit → Act → World → Prop} (hc : ∀ i, i < ops.size → m < i → dep ops i (i - 1) = true) (hdown : ∀ i j, dep ops i j = true → j < i) : ∀ (c k : Nat), k + c = ops.size → m ≤ k → ∀ (fuel : Nat) (L : Array Bool) (a : Act) (w : World), L.size = ops.size →
    (∀ i, i < ops.size → (L.getD i false = true ↔ i < k)) → L.count false ≤ fuel → wpOpsIn (Fr r) 0 P ops Q (List.range' k c) a w → wpAnyIn (Fr r) 0 P .any ops Q fuel L a w := by
  intro c
  induction c with
  | zero =>
    intro k hk _ fuel L a w hs hL _ h
    refine wpAnyIn_done ?_ h fuel
    apply List.eq_nil_iff_forall_not_mem.2
    intro i hi
    obtain ⟨h1, h2, _⟩ := (ready_spec hs).1 hi
    have := (hL i h1).2 (by omega)
    rw [h2] at this
    cases this
  | succ c ih =>
    intro k hk hm fuel L a w hs hL hf h
    have hklt : k < ops.size := by omega
    have hkf : L.getD k false = false := by
      cases hx : L.getD k false with
      | false => rfl
      | true => have := (hL k hklt).1 hx; omega
    have hcs := count_set (by omega) hkf
    have hkr : k ∈ Region.ready .any ops L := (ready_spec hs).2 ⟨hklt, hkf, fun j hd => (hL j (by have := hdown k j hd; omega)).2 (hdown k j hd)⟩
    cases fuel with
    | zero => omega
    | succ fuel =>
      refine ⟨fun h0 => by rw [h0] at hkr; simp at hkr, fun i hi => ?_⟩
      obtain ⟨h1, h2, h3⟩ := (ready_spec hs).1 hi
      have hik : i = k := by
        apply Classical.byContradiction
        intro hne
        have hgt : k < i := by
          apply Classical.byContradiction
          intro hle
          have := (hL i h1).2 (by omega)
          rw [h2] at this
          cases this
        have := h3 _ (hc i h1 (by omega))
        have := (hL (i - 1) (by omega)).1 this
        omega
      subst hik
      rw [List.range'_succ, wpOpsIn_cons] at h
      refine wpOpIn_mono (fun a' w' h' => ih (i + 1) (by omega) (by omega) fuel _ a' w' (by simpa using hs) (fun j hj => ?_) (by omega) h') h
      rw [getD_set (by omega)]
      split
      · simp; omega
      · rw [hL j hj]; omega
theorem envOf_n : ∀ (l : List Oper) (res : List (V × Option ((Nat → V) × O))) (e : Env), (envOf l res e).n = e.n := by
  intro l
  induction l with
  | nil => intro res e; cases res <;> rfl
  | cons o l ih =>
    intro res e
    cases res with
    | nil => rfl
    | cons vu res =>
      obtain ⟨v, u⟩ := vu
      rw [envOf, ih]
      cases o.dst <;> rfl
theorem put_get {d : Option Tmp} {v : V} {t : Tmp} : (e.put d v).get t = if d = some t then v else e.get t := by
  cases d with
  | none => simp [Env.put]
  | some d => simp only [Env.put, Env.get, getM, Option.some.injEq]
theorem envOf_other : ∀ (l : List Oper) (res : List (V × Option ((Nat → V) × O))) (e : Env) (t : Tmp), (∀ (i : Nat) (o : Oper), l[i]? = some o → o.dst ≠ some t) → (envOf l res e).get t = e.get t := by
  intro l
  induction l with
  | nil => intro res e t _; cases res <;> rfl
  | cons o l ih =>
    intro res e t h
    cases res with
    | nil => rfl
    | cons vu res =>
      obtain ⟨v, u⟩ := vu
      rw [envOf, ih _ _ _ (fun i o' ho => h (i + 1) o' (by simpa using ho)), put_get, if_neg (h 0 o rfl)]
theorem envOf_at : ∀ (l : List Oper) (res : List (V × Option ((Nat → V) × O))) (e : Env) (t : Tmp) (j : Nat) (o : Oper) (v : V) (u : Option ((Nat → V) × O)), l[j]? = some o → res[j]? = some (v, u) → o.dst = some t →
    (∀ (i : Nat) (o : Oper), j < i → l[i]? = some o → o.dst ≠ some t) → (envOf l res e).get t = v := by
  intro l
  induction l with
  | nil => intro res e t j o v u h; simp at h
  | cons o l ih =>
    intro res e t j o' v u h1 h2 h3 h4
    cases res with
    | nil => simp at h2
    | cons vu res =>
      obtain ⟨v', u'⟩ := vu
      rw [envOf]
      cases j with
      | zero =>
        simp only [List.getElem?_cons_zero, Option.some.injEq, Prod.mk.injEq] at h1 h2
        obtain ⟨rfl, rfl⟩ := h2
        subst h1
        rw [envOf_other _ _ _ _ (fun i o'' ho => h4 (i + 1) o'' (by omega) (by simpa using ho)), put_get, if_pos h3]
      | succ j => exact ih res _ t j o' v u (by simpa using h1) (by simpa using h2) h3 (fun i o'' hi ho => h4 (i + 1) o'' (by omega) (by simpa using ho))
theorem runA_at : ∀ (l : List Oper) (res : List (V × Option ((Nat → V) × O))) (e : Env), RunA P gl r ops st l res e → l.length = res.length ∧ ∀ (i : Nat) (o : Oper), l[i]? = some o →
    ∃ v u, res[i]? = some (v, u) ∧ (envOf (l.take i) (res.take i) e).fits o.dst ∧ (u.isSome = true → o.dst.isSome = true) ∧ OpB P gl r ops o (envOf (l.take i) (res.take i) e) st v u := by
  intro l
  induction l with
  | nil => intro res e h; cases res with
    | nil => exact ⟨rfl, by simp⟩
    | cons => exact h.elim
  | cons o l ih =>
    intro res e h
    cases res with
    | nil => exact h.elim
    | cons vu res =>
      obtain ⟨v, u⟩ := vu
      obtain ⟨h1, h2, h3, h4⟩ := h
      obtain ⟨hl, hr⟩ := ih res _ h4
      refine ⟨by simp [hl], fun i o' ho => ?_⟩
      cases i with
      | zero =>
        simp only [List.getElem?_cons_zero, Option.some.injEq] at ho
        subst ho
        exact ⟨v, u, rfl, h1, h2, h3⟩
      | succ i =>
        obtain ⟨v', u', q1, q2, q3, q4⟩ := hr i o' (by simpa using ho)
        exact ⟨v', u', by simpa using q1, by simpa [envOf] using q2, q3, by simpa [envOf] using q4⟩
theorem getM_map (f : Nat → V) : ∀ (l : List Nat) (t : Nat), getM (l.map fun t => (t, f t)) t = if t ∈ l then f t else .undef := by
  intro l
  induction l with
  | nil => intro t; rfl
  | cons a l ih =>
    intro t
    simp only [List.map_cons, getM, ih, List.mem_cons]
    by_cases h : a = t
    · subst h; simp
    · simp [h, Ne.symm h]
/-- The blocks of what is not yet counted. -/
theorem ups_blocks {w0 : World} {a : Act} {B : Nat → Nat} : ∀ (l : List Oper) (res : List (V × Option ((Nat → V) × O))) (k : Nat),
    (∀ (j : Nat) (o : Oper) (v : V) (f : Nat → V) (ob : O) (d : Tmp), l[j]? = some o → res[j]? = some (v, some (f, ob)) → o.dst = some d → w0.heap.size ≤ B (k + j) ∧ Pend P w s f ob (a.tmps.getD d undef) (B (k + j))) →
    (∀ (j j' : Nat) (v v' : V) (fo fo' : (Nat → V) × O), res[j]? = some (v, some fo) → res[j']? = some (v', some fo') → B (k + j) = B (k + j') → j = j') →
    ∃ bs : List Nat, (upsOf l res).length = bs.length ∧ bs.Nodup ∧ (∀ b ∈ bs, ∃ j v fo, res[j]? = some (v, some fo) ∧ b = B (k + j)) ∧
      ∀ (i : Nat) (u : Up) (b : Nat), (upsOf l res)[i]? = some u → bs[i]? = some b → w0.heap.size ≤ b ∧ Pend P w s u.2.1 u.2.2 (a.tmps.getD u.1 undef) b := by
  intro l
  induction l with
  | nil => intro res k _ _; exact ⟨[], by cases res <;> rfl, by simp, by simp, fun i u b h => by cases res <;> simp [upsOf] at h⟩
  | cons o l ih =>
    intro res k h1 h2
    cases res with
    | nil => exact ⟨[], rfl, by simp, by simp, fun i u b h => by simp [upsOf] at h⟩
    | cons vu res =>
      obtain ⟨v, u⟩ := vu
      obtain ⟨bs, q1, q2, q3, q4⟩ := ih res (k + 1) (fun j o' v' f ob d ho hr hd => by have := h1 (j + 1) o' v' f ob d (by simpa using ho) (by simpa using hr) hd; rw [show k + 1 + j = k + (j + 1) by omega]; exact this)
        (fun j j' v1 v2 f1 f2 hr hr' he => by have := h2 (j + 1) (j' + 1) v1 v2 f1 f2 (by simpa using hr) (by simpa using hr') (by rw [show k + (j + 1) = k + 1 + j by omega, show k + (j' + 1) = k + 1 + j' by omega]; exact he); omega)
      have q3' : ∀ b ∈ bs, ∃ j v' fo, ((v, u) :: res)[j]? = some (v', some fo) ∧ b = B (k + j) ∧ 0 < j := fun b hb => by
        obtain ⟨j, v', fo, h3, rfl⟩ := q3 b hb
        exact ⟨j + 1, v', fo, by simpa using h3, by congr 1; omega, by omega⟩
      have simple : upOf o.dst u = [] → ∃ bs : List Nat, (upsOf (o :: l) ((v, u) :: res)).length = bs.length ∧ bs.Nodup ∧ (∀ b ∈ bs, ∃ j v' fo, ((v, u) :: res)[j]? = some (v', some fo) ∧ b = B (k + j)) ∧
          ∀ (i : Nat) (u' : Up) (b : Nat), (upsOf (o :: l) ((v, u) :: res))[i]? = some u' → bs[i]? = some b → w0.heap.size ≤ b ∧ Pend P w s u'.2.1 u'.2.2 (a.tmps.getD u'.1 undef) b := fun he => by
        have hE : upsOf (o :: l) ((v, u) :: res) = upsOf l res := by rw [upsOf, he]; rfl
        exact ⟨bs, by rw [hE]; exact q1, q2, fun b hb => by obtain ⟨j, v', fo, h3, h4, _⟩ := q3' b hb; exact ⟨j, v', fo, h3, h4⟩, fun i u' b hi hb => q4 i u' b (by rw [hE] at hi; exact hi) hb⟩
      cases hu : u with
      | none => rw [hu] at simple; exact simple rfl
      | some fo =>
        obtain ⟨f, ob⟩ := fo
        cases hd : o.dst with
        | none => rw [hu, hd] at simple; exact simple rfl
        | some d =>
          rw [hu] at q3'
          obtain ⟨p1, p2⟩ := h1 0 o v f ob d rfl (by first | rfl | (rw [hu]; rfl)) hd
          refine ⟨B k :: bs, by simp [upsOf, upOf, hd, q1], List.nodup_cons.2 ⟨fun hb => ?_, q2⟩, fun b hb => ?_, fun i u' b hi hb => ?_⟩
          · obtain ⟨j, v', fo, h3, h4, h5⟩ := q3' _ hb
            have := h2 0 j v v' (f, ob) fo (by first | rfl | (rw [hu]; rfl)) (by rw [hu]; exact h3) h4
            omega
          · rcases List.mem_cons.1 hb with rfl | hb
            · exact ⟨0, v, (f, ob), rfl, rfl⟩
            · obtain ⟨j, v', fo, h3, h4, _⟩ := q3' b hb; exact ⟨j, v', fo, h3, h4⟩
          · cases i with
            | zero =>
              simp only [upsOf, upOf, hd, List.cons_append, List.nil_append, List.getElem?_cons_zero, Option.some.injEq] at hi hb
              subst hi hb
              exact ⟨p1, p2⟩
            | succ i => exact q4 i u' b (by simpa [upsOf, upOf, hd] using hi) (by simpa using hb)
theorem put_other {a : Act} {d : Option Tmp} {x : Value} {t : Tmp} (h : d ≠ some t) : (a.put d x).tmps.getD t undef = a.tmps.getD t undef := by
  cases d with
  | none => rfl
  | some d =>
    simp only [Act.put, Array.getD_eq_getD_getElem?]
    rw [Array.getElem?_setIfInBounds_ne (fun he => h (by rw [he]))]
theorem put_same {a : Act} {d : Tmp} {x : Value} (h : d < a.tmps.size) : (a.put (some d) x).tmps.getD d undef = x := by
  simp only [Act.put, Array.getD_eq_getD_getElem?]
  rw [Array.getElem?_setIfInBounds_self_of_lt h, Option.getD_some]
theorem put_size {a : Act} {d : Option Tmp} {x : Value} : (a.put d x).tmps.size = a.tmps.size := by cases d <;> simp [Act.put]
theorem put_defers {a : Act} {d : Option Tmp} {x : Value} : (a.put d x).defers = a.defers := by cases d <;> rfl
/-- What holds while the first operations come in whatever order. -/
structure InvA (P : Program) (gl : Nat → V) (ops : Array Oper) (m : Nat) (res : List (V × Option ((Nat → V) × O))) (e : Env) (st : List O) (n0 : Nat) (w0 : World) (s0 : S) (L : Array Bool) (a : Act) (w : World) (s : S) (B : Nat → Nat) : Prop where
  closed : Closed ops L
  pre : ∀ i, L.getD i false = true → i < m
  st : s.st = st
  sim : Sim P gl w s
  ev : Evolve w0 s0 w s
  n : e.n ≤ a.tmps.size
  marks : Marks w s n0 a.defers
  old : ∀ t, (∀ j, j < m → dstAt ops j ≠ some t) → Rep w s (e.get t) (a.tmps.getD t undef)
  new : ∀ (j : Nat) (t : Tmp) (v : V) (u : Option ((Nat → V) × O)), L.getD j false = true → dstAt ops j = some t → res[j]? = some (v, u) → Rep w s v (a.tmps.getD t undef) ∧ ∀ f o, u = some (f, o) → w0.heap.size ≤ B j ∧ Pend P w s f o (a.tmps.getD t undef) (B j)
  inj : ∀ (j j' : Nat) (v v' : V) (fo fo' : (Nat → V) × O), L.getD j false = true → L.getD j' false = true → res[j]? = some (v, some fo) → res[j']? = some (v', some fo') → B j = B j' → j = j'
theorem anyA {res : List (V × Option ((Nat → V) × O))} {n0 : Nat} {w0 : World} {s0 : S} (hok : anyOK ops m = true) (hrun : RunA P gl r ops st (ops.toList.take m) res e) (hn0 : n0 ≤ w0.heap.size) (hst0 : s0.st = st) (hwf0 : s0.g.length = s0.st.length) {Q : Exit → Act → World → Prop}
    (hfin : ∀ a w s, Sim P gl w s → Evolve w0 s0 w s → ActOK w s n0 (applyUps (upsOf (ops.toList.take m) res) (envOf (ops.toList.take m) res e) st).1 a → s.st = (applyUps (upsOf (ops.toList.take m) res) (envOf (ops.toList.take m) res e) st).2 → wpOpsIn (Fr r) 0 P ops Q (List.range' m (ops.size - m)) a w) :
    ∀ (fuel : Nat) (L : Array Bool) (a : Act) (w : World) (s : S) (B : Nat → Nat), InvA P gl ops m res e st n0 w0 s0 L a w s B → L.count false ≤ fuel → wpAnyIn (Fr r) 0 P .any ops Q fuel L a w := by
  obtain ⟨hm, hdown, hlook, hdst, hrest⟩ := anyOK_spec hok
  obtain ⟨hlen, hat⟩ := runA_at _ _ _ hrun
  have hl : (ops.toList.take m).length = m := by simp; omega
  have hget : ∀ i, i < m → (ops.toList.take m)[i]? = ops[i]? := fun i hi => by rw [List.getElem?_take_of_lt hi]; simp
  -- what a temporary holds behind the first i, one behind the other
  have henv : ∀ (i : Nat) (t : Tmp), i ≤ m → ((∀ j, j < m → dstAt ops j ≠ some t) → (envOf ((ops.toList.take m).take i) (res.take i) e).get t = e.get t) ∧
      ∀ j v u, j < i → dstAt ops j = some t → res[j]? = some (v, u) → (envOf ((ops.toList.take m).take i) (res.take i) e).get t = v := fun i t hi => by
    have hg : ∀ k o, ((ops.toList.take m).take i)[k]? = some o → k < i ∧ dstAt ops k = o.dst := fun k o hk => by
      have hki : k < i := by
        have := (List.getElem?_eq_some_iff.1 hk).1
        simp at this
        omega
      rw [List.getElem?_take_of_lt hki, hget k (by omega)] at hk
      exact ⟨hki, by simp [dstAt, hk]⟩
    refine ⟨fun h => envOf_other _ _ _ _ fun k o hk he => ?_, fun j v u hj hd hr => ?_⟩
    · obtain ⟨h1, h2⟩ := hg k o hk
      exact h k (by omega) (h2.trans he)
    · have hjs : j < ops.size := by omega
      refine envOf_at _ _ _ _ j ops[j] v u (by rw [List.getElem?_take_of_lt hj, hget j (by omega)]; exact Array.getElem?_eq_getElem hjs) (by rw [List.getElem?_take_of_lt hj]; exact hr) (by simpa [dstAt, hjs] using hd) fun k o hk ho he => ?_
      obtain ⟨h1, h2⟩ := hg k o ho
      have := hdst j k t (by omega) (by omega) hd (h2.trans he)
      omega
  -- the end of the first phase
  have hdone : ∀ (fuel : Nat) (L : Array Bool) (a : Act) (w : World) (s : S) (B : Nat → Nat), InvA P gl ops m res e st n0 w0 s0 L a w s B → L.count false ≤ fuel → (∀ j, j < m → L.getD j false = true) → wpAnyIn (Fr r) 0 P .any ops Q fuel L a w := fun fuel L a w s B hI hf hall => by
    have hA : ActOK w s n0 (envOf (ops.toList.take m) res e) a := by
      refine ⟨by rw [envOf_n]; exact hI.n, fun t => ?_, hI.marks⟩
      obtain ⟨g1, g2⟩ := henv m t (Nat.le_refl _)
      have t1 : (ops.toList.take m).take m = ops.toList.take m := List.take_of_length_le (by omega)
      have t2 : res.take m = res := List.take_of_length_le (by omega)
      rw [t1, t2] at g1 g2
      by_cases hex : ∃ j, j < m ∧ dstAt ops j = some t
      · obtain ⟨j, hj, hd⟩ := hex
        obtain ⟨v, u, hr, _⟩ := hat j (ops[j]'(by omega)) (by rw [hget j hj]; exact Array.getElem?_eq_getElem _)
        rw [g2 j v u hj hd hr]
        exact (hI.new j t v u (hall j hj) hd hr).1
      · rw [g1 fun j hj hd => hex ⟨j, hj, hd⟩]
        exact hI.old t fun j hj hd => hex ⟨j, hj, hd⟩
    obtain ⟨bs, q1, q2, _, q4⟩ := ups_blocks (P := P) (w := w) (s := s) (w0 := w0) (a := a) (B := B) (ops.toList.take m) res 0 (fun j o v f ob d ho hr hd => by
      have hj : j < m := by have := (List.getElem?_eq_some_iff.1 ho).1; omega
      rw [hget j hj] at ho
      have := (hI.new j d v (some (f, ob)) (hall j hj) (by simp [dstAt, ho, hd]) hr).2 f ob rfl
      simpa using this) (fun j j' v v' fo fo' hr hr' he => by
      have hj : j < m := by have := (List.getElem?_eq_some_iff.1 hr).1; omega
      have hj' : j' < m := by have := (List.getElem?_eq_some_iff.1 hr').1; omega
      exact hI.inj j j' v v' fo fo' (hall j hj) (hall j' hj') hr hr' (by simpa using he))
    have hlen0 : s0.st.length ≤ s.st.length := by rw [hI.st, hst0]; exact Nat.le_refl _
    obtain ⟨s', k1, k2, k3, k4⟩ := register (upsOf (ops.toList.take m) res) bs s _ hI.sim hI.ev hlen0 hA q1 q2 q4
    rw [hI.st] at k3 k4
    refine chain (m := m) (fun i hi hmi => (hrest (by omega)).2 i hi hmi) hdown (ops.size - m) m (by omega) (Nat.le_refl _) fuel L a w hI.closed.1 (fun i hi => ⟨fun h => hI.pre i h, fun h => hall i h⟩) hf (hfin a w s' k1 k2 k3 k4)
  intro fuel
  induction fuel with
  | zero =>
    intro L a w s B hI hf
    refine hdone 0 L a w s B hI hf fun j hj => ?_
    cases hx : L.getD j false with
    | true => rfl
    | false =>
      have := count_set (L := L) (i := j) (by rw [hI.closed.1]; omega) hx
      omega
  | succ fuel ih =>
    intro L a w s B hI hf
    by_cases hall : ∀ j, j < m → L.getD j false = true
    · exact hdone _ L a w s B hI hf hall
    · -- some operation of the first phase is ready
      have hsize := hI.closed.1
      have hmin : ∃ j, j < m ∧ j ∈ Region.ready .any ops L := by
        have hex : ∃ j, j < m ∧ L.getD j false = false := by
          apply Classical.byContradiction
          intro hno
          refine hall fun j hj => ?_
          cases hx : L.getD j false with
          | true => rfl
          | false => exact absurd ⟨j, hj, hx⟩ hno
        obtain ⟨j, hj⟩ := hex
        induction j using Nat.strongRecOn with
        | _ j ihj =>
          by_cases hd : ∃ i, i < j ∧ L.getD i false = false
          · obtain ⟨i, hi, hx⟩ := hd
            exact ihj i hi ⟨by omega, hx⟩
          · refine ⟨j, hj.1, (ready_spec hsize).2 ⟨by omega, hj.2, fun i hdep => ?_⟩⟩
            cases hx : L.getD i false with
            | true => rfl
            | false => exact absurd ⟨i, hdown j i hdep, hx⟩ hd
      obtain ⟨j0, _, hj0⟩ := hmin
      refine ⟨fun h0 => by rw [h0] at hj0; simp at hj0, fun i hi => ?_⟩
      obtain ⟨hilt, hifalse, hideps⟩ := (ready_spec hsize).1 hi
      have him : i < m := by
        apply Classical.byContradiction
        intro hge
        by_cases heq : i = m
        · subst heq
          refine hall fun j hj => ?_
          obtain ⟨hsucc, _⟩ := hrest hilt
          have key : ∀ d j, j < i → i - j = d → L.getD j false = true := by
            intro d
            induction d using Nat.strongRecOn with
            | _ d ihd =>
              intro j hj hd
              obtain ⟨j', h1, h2, h3⟩ := hsucc j hj
              by_cases hj' : j' = i
              · subst hj'; exact hideps j h3
              · exact hI.closed.2 j' j (ihd (i - j') (by omega) j' (by omega) rfl) h3
          exact key _ j hj rfl
        · have := hideps _ ((hrest (by omega)).2 i hilt (by omega))
          have := hI.pre _ this
          omega
      have hoi : ops[i]? = some ops[i] := Array.getElem?_eq_getElem hilt
      obtain ⟨v, u, hres, hfit, hud, hB⟩ := hat i ops[i] (by rw [hget i him]; exact hoi)
      -- what the operation looks at is known
      have hA : ActOK w s n0 ⟨e.n, ((ops[i]).looksAt ops).map fun t => (t, (envOf ((ops.toList.take m).take i) (res.take i) e).get t)⟩ a := by
        refine ⟨hI.n, fun t => ?_, hI.marks⟩
        show Rep w s (getM _ t) _
        rw [getM_map (fun t => (envOf ((ops.toList.take m).take i) (res.take i) e).get t)]
        split
        · rename_i hlk
          obtain ⟨g1, g2⟩ := henv i t (by omega)
          by_cases hex : ∃ j, j < m ∧ dstAt ops j = some t
          · obtain ⟨j, hj, hd⟩ := hex
            have hdep := hlook i j _ t him hj hoi hlk hd
            obtain ⟨vj, uj, hrj, _⟩ := hat j (ops[j]'(by omega)) (by rw [hget j hj]; exact Array.getElem?_eq_getElem _)
            rw [g2 j vj uj (hdown i j hdep) hd hrj]
            exact (hI.new j t vj uj (hideps j hdep) hd hrj).1
          · rw [g1 fun j hj hd => hex ⟨j, hj, hd⟩]
            exact hI.old t fun j hj hd => hex ⟨j, hj, hd⟩
        · exact .undef _
      have hstep := hB ⟨e.n, ((ops[i]).looksAt ops).map fun t => (t, (envOf ((ops.toList.take m).take i) (res.take i) e).get t)⟩ (fun t ht => by show getM _ t = _; rw [getM_map (fun t => (envOf ((ops.toList.take m).take i) (res.take i) e).get t), if_pos ht]) n0 w s a
        (wpAnyIn (Fr r) 0 P .any ops Q fuel (L.setIfInBounds i true)) Q (Nat.le_trans hn0 hI.ev.size) hI.st hI.sim hA (fun x w' s' k1 k2 k3 k4 k5 => ?_)
      · unfold wpOpIn
        rw [hoi]
        exact hstep
      · have hcs := count_set (L := L) (i := i) (by omega) hifalse
        have hwf := hI.sim.wf
        -- the block of what has come
        obtain ⟨bn, hbn⟩ : ∃ bn, ∀ f o, u = some (f, o) → w.heap.size ≤ bn ∧ Pend P w' s' f o x bn := by
          cases u with
          | none => exact ⟨0, by simp⟩
          | some fo =>
            obtain ⟨f, o⟩ := fo
            obtain ⟨bn, h1, h2⟩ := k5 f o rfl
            exact ⟨bn, fun f' o' he => by simp only [Option.some.injEq, Prod.mk.injEq] at he; obtain ⟨rfl, rfl⟩ := he; exact ⟨h1, h2⟩⟩
        have hdi : ∀ j t, j < m → j ≠ i → dstAt ops j = some t → (ops[i]).dst ≠ some t := fun j t hj hne hd he => hne (hdst j i t hj him hd (by simp [dstAt, hilt, he]))
        refine ih _ (a.put (ops[i]).dst x) w' s' (fun j => if j = i then bn else B j) ⟨hI.closed.set hi, fun j hj => ?_, k3, k1, hI.ev.trans hwf0 hI.sim.len k2, by rw [put_size]; exact hI.n, by rw [put_defers]; exact hI.marks.evolve k2 hwf, fun t ht => ?_, fun j t vj uj hL hd hrj => ?_, fun j j' v1 v2 fo fo' hL hL' hr hr' hBe => ?_⟩ (by omega)
        · rw [getD_set (by omega)] at hj
          split at hj
          · rename_i he; subst he; exact him
          · exact hI.pre j hj
        · rw [put_other (fun he => ht i him (by simp [dstAt, hilt, he]))]
          exact (hI.old t ht).evolve k2 hwf
        · rw [getD_set (by omega)] at hL
          by_cases hji : j = i
          · subst hji
            rw [hres] at hrj
            simp only [Option.some.injEq, Prod.mk.injEq] at hrj
            obtain ⟨rfl, rfl⟩ := hrj
            have hd' : (ops[j]).dst = some t := by simpa [dstAt, hilt] using hd
            have hlt : t < a.tmps.size := by
              rw [hd'] at hfit
              have h1 : t < (envOf ((ops.toList.take m).take j) (res.take j) e).n := hfit
              rw [envOf_n] at h1
              exact Nat.lt_of_lt_of_le h1 hI.n
            rw [hd', put_same hlt]
            refine ⟨k4, fun f o hu => ?_⟩
            rw [if_pos rfl]
            obtain ⟨h1, h2⟩ := hbn f o hu
            exact ⟨Nat.le_trans hI.ev.size h1, h2⟩
          · rw [if_neg (fun he => hji he.symm)] at hL
            have hjm := hI.pre j hL
            rw [put_other (hdi j t hjm hji hd)]
            obtain ⟨h1, h2⟩ := hI.new j t vj uj hL hd hrj
            refine ⟨h1.evolve k2 hwf, fun f o hu => ?_⟩
            rw [if_neg hji]
            obtain ⟨h3, h4⟩ := h2 f o hu
            exact ⟨h3, h4.evolve hI.sim k2⟩
        · rw [getD_set (by omega)] at hL hL'
          have hlt : ∀ j v fo, j ≠ i → L.getD j false = true → res[j]? = some (v, some fo) → B j < w.heap.size := fun j v fo hji hL hr => by
            have hjm := hI.pre j hL
            obtain ⟨v', u', hr', _, hud', _⟩ := hat j (ops[j]'(by omega)) (by rw [hget j hjm]; exact Array.getElem?_eq_getElem _)
            rw [hr] at hr'
            simp only [Option.some.injEq, Prod.mk.injEq] at hr'
            obtain ⟨rfl, rfl⟩ := hr'
            obtain ⟨d, hd⟩ := Option.isSome_iff_exists.1 (hud' rfl)
            obtain ⟨_, h2⟩ := hI.new j d v (some fo) hL (by simp [dstAt, show j < ops.size by omega, hd]) hr
            obtain ⟨_, _, _, h3, _⟩ := (h2 fo.1 fo.2 rfl).2
            exact h3
          have hnew : ∀ v fo, res[i]? = some (v, some fo) → w.heap.size ≤ bn := fun v' fo hr => by
            rw [hres] at hr
            simp only [Option.some.injEq, Prod.mk.injEq] at hr
            exact (hbn fo.1 fo.2 hr.2).1
          by_cases h1 : j = i
          · by_cases h2 : j' = i
            · omega
            · subst h1
              rw [if_pos rfl, if_neg h2] at hBe
              rw [if_neg (fun he => h2 he.symm)] at hL'
              have := hlt j' v2 fo' h2 hL' hr'
              have := hnew v1 fo hr
              omega
          · rw [if_neg (fun he => h1 he.symm)] at hL
            by_cases h2 : j' = i
            · subst h2
              rw [if_neg h1, if_pos rfl] at hBe
              have := hlt j v1 fo h1 hL hr
              have := hnew v2 fo' hr'
              omega
            · rw [if_neg h1, if_neg h2] at hBe
              rw [if_neg (fun he => h2 he.symm)] at hL'
              exact hI.inj j j' v1 v2 fo fo' hL hL' hr hr' hBe
/-- **A region that draws its order.** -/
theorem AW.any {id : Nat} {Q : Exit → Env → List O → Prop} (hfol : P.follows .mixedOrders = true) (m : Nat) (hok : anyOK ops m = true) (h : awA P gl ops (ops.toList.take m) e st [] fun e' st' => awL P gl ops (ops.toList.drop m) e' st' (Q .normal)) : AW P gl r (.region id ops true) Q e st := fun n0 w s a hn hst hs ha => by
  refine wpIn_region_any hfol ?_
  have hE0 := Evolve.drawn (w := w) hs.wf (w.drawn + 1)
  have hS0 := hs.drawn (w.drawn + 1)
  have hA0 := ha.evolve hE0 hs.wf
  obtain ⟨res, hrun, hK⟩ := awA_run (r := r) _ _ _ h
  rw [List.nil_append] at hK
  have hm := (anyOK_spec hok).1
  refine anyA (Q := fun x a' w' => ∃ e' s', Sim P gl w' s' ∧ Evolve w s w' s' ∧ ActOK w' s' n0 e' a' ∧ Q x e' s'.st) hok hrun (w0 := { w with drawn := w.drawn + 1 }) (s0 := s) hn hst hs.len (fun a' w' s' k1 k2 k3 k4 => ?_) ops.size _ a _ s (fun _ => 0)
    ⟨⟨by simp, fun i j hi => ?_⟩, fun i hi => ?_, hst, hS0, Evolve.refl hS0.wf, hA0.n, hA0.marks, fun t _ => hA0.get t, fun j t v u hL => ?_, fun j j' v v' fo fo' hL => ?_⟩ (by simp [Array.count_replicate])
  · have hE := hE0.trans hs.len hs.len k2
    have hl : (ops.toList.drop m).length = ops.size - m := by simp
    rw [← hl]
    refine awL_sound (r := r) (ops.toList.drop m) m _ _ rfl hK n0 w' s' a' _ (Nat.le_trans hn hE.size) k4 k1 k3 fun e'' s'' a'' w'' j1 j2 j3 j4 => ⟨e'', s'', j1, hE.trans hs.len k1.len j2, j3, j4⟩
  all_goals (exfalso; simp only [Array.getD_eq_getD_getElem?, Array.getElem?_replicate] at *)
  · split at hi <;> simp at hi
  · split at hi <;> simp at hi
  · split at hL <;> simp at hL
  · split at hL <;> simp at hL
end
end Go.Duo

namespace Go.Duo
open Go
section
variable {P : Program} {gl : Nat → V} {r : Option Nat} {e : Env} {st : List O} {Q : Exit → Env → List O → Prop} {x y : V}
/-- It fits, reckoned. -/
def fitB (e : Env) : Option Tmp → Bool
  | none => true
  | some d => Nat.blt d e.n
theorem fits_of {d : Option Tmp} (h : fitB e d = true) : e.fits d := by
  cases d with
  | none => trivial
  | some d => simpa [fitB, Env.fits] using h
theorem Call.body {k : FuncId} {fn : Func} {c : Code} {args : List V} {K : V → List O → Prop} (n : Nat) (m : List (Nat × V)) (hf : P.funcs[k]? = some fn) (hb : fn.body = some c) (he : env0 fn.ntmps args = ⟨n, m⟩)
    (h : AW P gl none c (fun x e' st' => (x = .normal ∨ x = .ret) ∧ resP P e' st' fn.results.toList fun vs => ∃ j v st'', st.length ≤ j ∧ V.le (trimS j st') ((resV vs).trim j) v ∧ StLe (trimS j st') st'' ∧ K v st'') ⟨n, m⟩ st) : Call P gl k args st K :=
  Call.of_body hf hb (he ▸ h)
theorem storeP_mono {K K' : List O → Prop} (hk : ∀ v, K v → K' v) {t : TypeId} (h : storeP P t st x y K) : storeP P t st x y K' := by
  unfold storeP at h ⊢
  cases hl : lay P t with
  | none => simp [hl] at h
  | some ng =>
    rw [hl] at h
    cases x <;> try exact h.elim
    · rename_i id off
      try simp only at h ⊢
      cases ho : st[id]? with
      | none => simp [ho] at h
      | some o =>
        rw [ho] at h
        cases o <;> try exact h.elim
        exact ⟨h.1, h.2.1, h.2.2.1, hk _ h.2.2.2⟩
    · rename_i id ver off
      try simp only at h ⊢
      cases ho : st[id]? with
      | none => simp [ho] at h
      | some o =>
        rw [ho] at h
        cases o <;> try exact h.elim
        exact ⟨h.1, h.2.1, h.2.2.1, h.2.2.2.1, h.2.2.2.2.1, h.2.2.2.2.2.1, h.2.2.2.2.2.2.1, hk _ h.2.2.2.2.2.2.2⟩
theorem makeP_mono {K K' : V → List O → Prop} (hk : ∀ v st', K v st' → K' v st') {t : TypeId} (h : makeP P t st x y K) : makeP P t st x y K' := by
  unfold makeP at h ⊢
  cases he : elt P t with
  | none => simp [he] at h
  | some a =>
    obtain ⟨e, sz, by_⟩ := a
    rw [he] at h
    simp only at h ⊢
    split at h
    · exact ⟨h.1, h.2.1, h.2.2.1, h.2.2.2.1, h.2.2.2.2.1, h.2.2.2.2.2.1, h.2.2.2.2.2.2.1, h.2.2.2.2.2.2.2.1, hk _ _ h.2.2.2.2.2.2.2.2⟩
    · exact h.elim
theorem setP_mono {K K' : List O → Prop} (hk : ∀ st', K st' → K' st') {t : TypeId} {k v : V} (h : setP P st t x k v K) : setP P st t x k v K' := by
  unfold setP at h ⊢
  split at h
  · exact hk _ h
  · exact h.elim
theorem delP_mono {K K' : List O → Prop} (hk : ∀ st', K st' → K' st') {t : TypeId} {k : V} (h : delP P st t x k K) : delP P st t x k K' := by
  unfold delP at h ⊢
  split at h
  · exact hk _ h
  · exact h.elim
theorem buildSliceP_mono {K K' : V → List O → Prop} (hk : ∀ v st', K v st' → K' v st') {t : TypeId} {len : Nat} {ps : List (Nat × V)} (h : buildSliceP P t st len ps K) : buildSliceP P t st len ps K' := by
  unfold buildSliceP at h ⊢
  cases he : elt P t with
  | none => simp [he] at h
  | some o =>
    obtain ⟨e, sz, by_⟩ := o
    rw [he] at h
    simp only at h ⊢
    split at h
    · rw [if_pos (by assumption)]; exact hk _ _ h
    · rw [if_neg (by assumption)]; exact ⟨h.1, h.2.1, h.2.2.1, hk _ _ h.2.2.2⟩
theorem appendP_mono {K K' : V → List O → Prop} (hk : ∀ v st', K v st' → K' v st') {t : TypeId} (h : appendP P t st x y K) : appendP P t st x y K' := by
  unfold appendP at h ⊢
  cases he : elt P t with
  | none => simp [he] at h
  | some esb =>
    obtain ⟨e, sz, by_⟩ := esb
    cases hr : rowOf y with
    | none => simp [he, hr] at h
    | some es2 =>
      rw [he, hr] at h
      simp only at h ⊢
      cases x <;> try exact h.2.elim
      · rename_i es tk
        cases tk with
        | none => exact h.2.elim
        | some id =>
          simp only at h ⊢
          cases ho : st[id]? with
          | none => simp [ho] at h
          | some o =>
            rw [ho] at h
            cases o <;> try exact h.2.elim
            obtain ⟨h0, h1, h2, h3, h4, h5, h6⟩ := h
            exact ⟨h0, h1, h2, h3, h4, h5, hk _ _ h6⟩
      rotate_left
      · rename_i id ver
        simp only at h ⊢
        cases ho : st[id]? with
        | none => simp [ho] at h
        | some o =>
          rw [ho] at h
          cases o <;> try exact h.2.elim
          obtain ⟨h0, h1, h2, h3, h4, h5, h6⟩ := h
          exact ⟨h0, h1, h2, h3, h4, h5, hk _ _ h6⟩
      · obtain ⟨h0, h1, h2, h3 | ⟨k, v, h4, h5⟩⟩ := h
        · exact ⟨h0, h1, h2, .inl (hk _ _ h3)⟩
        · exact ⟨h0, h1, h2, .inr ⟨k, v, h4, hk _ _ h5⟩⟩
theorem Call.mono {k : FuncId} {args : List V} {K K' : V → List O → Prop} (h : Call P gl k args st K) (hk : ∀ v st', K v st' → K' v st') : Call P gl k args st K' := fun w s xs hst hs hxs =>
  CallsIn.mono (h w s xs hst hs hxs) fun _ _ ⟨v, x, s', h1, h2, h3, h4, h5⟩ => ⟨v, x, s', h1, h2, h3, h4, hk _ _ h5⟩
theorem step1_mono {ρ : Operand → V} {op : Op} {K K' : V → List O → Prop} (hk : ∀ v st', K v st' → K' v st') (h : step1 P gl ρ st op K) : step1 P gl ρ st op K' := by
  by_cases hc : calm op = true
  · obtain ⟨v, h1, h2⟩ := step1_det hc h
    exact h1 _ (hk _ _ h2)
  · cases op <;> simp only [calm, not_true_eq_false] at hc <;> simp only [step1] at h ⊢
    case store => exact storeP_mono (fun _ => hk _ _) h
    case makeSlice => exact makeP_mono hk h
    case makeMap t r => cases r with
      | some r => exact h.elim
      | none => exact hk _ _ h
    case mapUpdate => exact setP_mono (fun _ => hk _ _) h
    case insert => exact setP_mono (fun _ => hk _ _) h
    case box => exact ⟨h.1, hk _ _ h.2⟩
    case alloc t =>
      cases hz : zro P t with
      | none => simp [hz] at h
      | some z => rw [hz] at h; exact hk _ _ h
    case buildSlice => exact ⟨h.1, buildSliceP_mono hk h.2⟩
    case call c =>
      cases hcal : c.callee with
      | value f =>
        rw [hcal] at h
        simp only at h ⊢
        cases hf : ρ f <;> rw [hf] at h <;> try exact h.elim
        · rename_i fn fs cs
          cases fn <;> try exact h.elim
          exact ⟨h.1, Call.mono h.2 hk⟩
        · rename_i id
          simp only at h ⊢
          unfold yldP at h ⊢
          cases ho : st[id]? with
          | none => rw [ho] at h; exact h.elim
          | some o =>
            rw [ho] at h
            cases o with
            | yld xs i go =>
              cases go
              · exact h.elim
              · exact ⟨h.1, h.2.1, h.2.2.1, hk _ _ h.2.2.2.1, hk _ _ h.2.2.2.2⟩
            | _ => exact h.elim
      | invoke => rw [hcal] at h; exact h.elim
      | builtin b =>
        rw [hcal] at h hc
        cases b <;> simp only [not_true_eq_false] at hc <;> try exact h.elim
        case append =>
          simp only at h ⊢
          split at h
          · exact ⟨h.1, appendP_mono hk h.2⟩
          · exact h.elim
        case delete =>
          simp only at h ⊢
          split at h
          · exact delP_mono (fun _ => hk _ _) h
          · exact h.elim
    all_goals exact h.elim
theorem awL_no {ops : Array Oper} {o : Oper} {rest : List Oper} {K : Env → List O → Prop} {j d : Nat} {want : Bool} (hg : o.guard = some (j, want)) (hd : (ops[j]?).bind (·.dst) = some d) (hv : e.get d = .bool (!want)) (hf : fitB e o.dst = true)
    (k : awL P gl ops rest (e.put o.dst (.tuple [])) st K) : awL P gl ops (o :: rest) e st K := by
  unfold awL
  refine ⟨fits_of hf, ?_⟩
  rw [hg]
  simp only [hd]
  rw [hv]
  simp only [Split]
  cases want
  · refine ⟨fun _ => ?_, fun h => by cases h⟩
    rw [if_neg (by simp)]; exact k
  · refine ⟨fun h => (by cases h), fun _ => ?_⟩
    rw [if_pos rfl]; exact k
/-- The guard's own operation was passed over. -/
theorem awL_hole {ops : Array Oper} {o : Oper} {rest : List Oper} {K : Env → List O → Prop} {j d : Nat} {want : Bool} (hg : o.guard = some (j, want)) (hd : (ops[j]?).bind (·.dst) = some d) (hv : e.get d = .tuple []) (hf : fitB e o.dst = true)
    (k : awL P gl ops rest (e.put o.dst (.tuple [])) st K) : awL P gl ops (o :: rest) e st K := by
  unfold awL
  refine ⟨fits_of hf, ?_⟩
  rw [hg]
  simp only [hd]
  rw [hv]
  exact k
theorem awA_hole {ops : Array Oper} {o : Oper} {rest : List Oper} {ups : List Up} {K : Env → List O → Prop} {j d : Nat} {want : Bool} (hg : o.guard = some (j, want)) (hd : (ops[j]?).bind (·.dst) = some d) (hv : e.get d = .tuple []) (hf : fitB e o.dst = true)
    (k : awA P gl ops rest (e.put o.dst (.tuple [])) st ups K) : awA P gl ops (o :: rest) e st ups K := by
  unfold awA
  refine ⟨fits_of hf, ?_⟩
  rw [hg]
  simp only [hd]
  rw [hv]
  exact k
theorem awA_no {ops : Array Oper} {o : Oper} {rest : List Oper} {ups : List Up} {K : Env → List O → Prop} {j d : Nat} {want : Bool} (hg : o.guard = some (j, want)) (hd : (ops[j]?).bind (·.dst) = some d) (hv : e.get d = .bool (!want)) (hf : fitB e o.dst = true)
    (k : awA P gl ops rest (e.put o.dst (.tuple [])) st ups K) : awA P gl ops (o :: rest) e st ups K := by
  unfold awA
  refine ⟨fits_of hf, ?_⟩
  rw [hg]
  simp only [hd, hv]
  rw [if_neg (by cases want <;> simp)]
  exact k
/-- What comes behind is hidden while a piece of code is walked. -/
theorem AW.seqK {x y : Code} (h : ∀ K' : Env → List O → Prop, (∀ e st, AW P gl r y Q e st → K' e st) → AW P gl r x (thenQ K' Q) e st) : AW P gl r (.seq x y) Q e st := .seq (h _ fun _ _ h => h)
theorem AW.condK {c : Operand} {x y : Code} (b : Bool) (hc : e.ev gl c = .bool b) (hx : b = true → AW P gl r x Q e st) (hy : b = false → AW P gl r y Q e st) : AW P gl r (.cond c x y) Q e st := .cond hc hx hy
end
end Go.Duo

namespace Go.Duo
open Go
section
variable {P : Program} {gl : Nat → V} {r : Option Nat} {e : Env} {st : List O} {w : World} {s : S} {Q : Exit → Env → List O → Prop}
theorem PR.trim_id {K : Nat → Nat → Prop} {k : Nat} {v : V} {x : Value} (h : PR w K v x) : v.trim k = v := by
  have mapid : ∀ {cs : List V} {xs : List Value}, cs.length = xs.length → (∀ (i : Nat) (c : V) (x : Value), cs[i]? = some c → xs[i]? = some x → c.trim k = c) → cs.map (V.trim k) = cs := fun {cs xs} hl ih => by
    apply List.ext_getElem (by simp)
    intro i h1 h2
    rw [List.getElem_map]
    exact ih i _ (xs[i]'(by omega)) (List.getElem?_eq_getElem h2) (List.getElem?_eq_getElem _)
  induction h with
  | agg cs xs hl _ ih => simp only [V.trim, trimL_eq, mapid hl ih]
  | tuple cs xs hl _ ih => simp only [V.trim, trimL_eq, mapid hl ih]
  | func fn fs cs xs ys hl hl' _ _ ih ih' => simp only [V.trim, trimL_eq, mapid hl ih, mapid hl' ih']
  | iface t v x _ ih => simp only [V.trim, ih]
  | _ => rfl
theorem Rep.trim_id (hl : s.g.length = s.st.length) {k : Nat} (hk : s.st.length ≤ k) {v : V} {x : Value} (h : Rep w s v x) : v.trim k = v := by
  have mapid : ∀ {cs : List V} {xs : List Value}, cs.length = xs.length → (∀ (i : Nat) (c : V) (x : Value), cs[i]? = some c → xs[i]? = some x → c.trim k = c) → cs.map (V.trim k) = cs := fun {cs xs} hl ih => by
    apply List.ext_getElem (by simp)
    intro i h1 h2
    rw [List.getElem_map]
    exact ih i _ (xs[i]'(by omega)) (List.getElem?_eq_getElem h2) (List.getElem?_eq_getElem _)
  induction h with
  | pure v x hp => exact hp.trim_id
  | undef x => rfl
  | agg cs xs hl _ ih => simp only [V.trim, trimL_eq, mapid hl ih]
  | tuple cs xs hl _ ih => simp only [V.trim, trimL_eq, mapid hl ih]
  | func fn fs cs xs ys hl hl' _ _ ih ih' => simp only [V.trim, trimL_eq, mapid hl ih, mapid hl' ih']
  | iface t v x _ ih => simp only [V.trim, ih]
  | tok es id x hp ht =>
    obtain ⟨o, ho, _⟩ := ht
    have := (List.getElem?_eq_some_iff.1 ho).1
    simp only [V.trim, if_pos (show id < k by omega)]
  | ref id ver x h1 ht =>
    obtain ⟨o, ho, _⟩ := ht
    have := (List.getElem?_eq_some_iff.1 ho).1
    simp only [V.trim, if_pos (show id < k by omega)]
  | rptr id ver off x h1 ht =>
    obtain ⟨o, ho, _⟩ := ht
    have := (List.getElem?_eq_some_iff.1 ho).1
    simp only [V.trim, if_pos (show id < k by omega)]
  | ptr id off b hb =>
    have := (List.getElem?_eq_some_iff.1 hb).1
    simp only [V.trim, if_pos (show id < k by omega)]
  | map id b hb =>
    have := (List.getElem?_eq_some_iff.1 hb).1
    simp only [V.trim, if_pos (show id < k by omega)]
  | yld id l F J Jx hb =>
    have := (List.getElem?_eq_some_iff.1 hb).1
    simp only [V.trim, if_pos (show id < k by omega)]
/-- Nothing dangles. -/
def Clo (st : List O) : Prop := ∀ k, st.length ≤ k → st.map (O.trim k) = st
theorem Sim.clo (h : Sim P gl w s) : Clo s.st := fun k hk => by
  apply List.ext_getElem (by simp)
  intro i h1 h2
  rw [List.getElem_map]
  have ho : s.st[i]? = some s.st[i] := List.getElem?_eq_getElem h2
  have hg : s.g[i]? = some (s.g[i]'(by rw [h.len]; exact h2)) := List.getElem?_eq_getElem _
  have hk' := h.obj i _ _ ho hg
  generalize s.st[i] = o at hk'
  generalize s.g[i]'(by rw [h.len]; exact h2) = g at hk'
  cases o with
  | box t cs =>
    cases g <;> simp only [ObjOK] at hk'
    obtain ⟨arr, ha, hl, hr⟩ := hk'
    simp only [O.trim, O.box.injEq, true_and]
    apply List.ext_getElem (by simp)
    intro j h3 h4
    rw [List.getElem_map]
    exact (hr j _ (arr[j]'(by omega)) (List.getElem?_eq_getElem h4) (Array.getElem?_eq_getElem _)).trim_id h.len hk
  | map ks vs =>
    cases g <;> simp only [ObjOK] at hk'
    obtain ⟨es, clock, ha, hl, hv, _, hr⟩ := hk'
    simp only [O.trim, O.map.injEq, true_and]
    apply List.ext_getElem (by simp)
    intro j h3 h4
    rw [List.getElem_map]
    exact (hr j _ (es[j]'(by omega)) (List.getElem?_eq_getElem h4) (Array.getElem?_eq_getElem _)).trim_id h.len hk
  | _ => rfl
theorem Call.clo {k : FuncId} {args : List V} {K : V → List O → Prop} (h : Clo st → Call P gl k args st K) : Call P gl k args st K := fun w s xs hst hs hxs => h (hst ▸ hs.clo) w s xs hst hs hxs
theorem AW.clo {c : Code} (h : Clo st → AW P gl r c Q e st) : AW P gl r c Q e st := fun n0 w s a hn hst hs ha => h (hst ▸ hs.clo) n0 w s a hn hst hs ha
theorem Clo.trim (h : Clo st) : trimS st.length st = st := by
  unfold trimS
  rw [List.take_of_length_le (Nat.le_refl _)]
  exact h _ (Nat.le_refl _)
theorem Clo.trim_append (h : Clo st) (l : List O) : trimS st.length (st ++ l) = st := by
  unfold trimS
  rw [List.take_left]
  exact h _ (Nat.le_refl _)
/-- A value of some world. -/
def Real (v : V) : Prop := ∃ (w : World) (K : Nat → Nat → Prop) (x : Value), PR w K v x
theorem Call.real {k : FuncId} {args : List V} {K : V → List O → Prop} (h : (∀ v ∈ args, PureV v → Real v.bare) → Call P gl k args st K) : Call P gl k args st K := fun w s xs hst hs hxs =>
  h (fun v hv hp => by
    obtain ⟨i, hi⟩ := List.mem_iff_getElem?.1 hv
    have hlt : i < xs.length := by rw [← hxs.1]; exact (List.getElem?_eq_some_iff.1 hi).1
    exact ⟨w, s.K, _, hp w s _ (hxs.2 i v _ hi (List.getElem?_eq_getElem hlt))⟩) w s xs hst hs hxs
theorem Real.sl {es : List V} (h : Real (.sl es none)) : es.length ≤ maxLen ∧ ∀ c ∈ flat es, Real c := by
  obtain ⟨w, K, x, hp⟩ := h
  obtain ⟨a, cap, sz, y, _, h1, h2, h3, h4, h5⟩ := hp.sl_inv
  refine ⟨by omega, fun c hc => ?_⟩
  obtain ⟨j, hj⟩ := List.mem_iff_getElem?.1 hc
  exact ⟨w, K, _, (h5 j c hj).2⟩
theorem Real.agg {cs : List V} (h : Real (.agg cs)) : ∀ c ∈ cs, Real c := by
  obtain ⟨w, K, x, hp⟩ := h
  cases hp with
  | agg _ xs hl h =>
    intro c hc
    obtain ⟨i, hi⟩ := List.mem_iff_getElem?.1 hc
    have hlt : i < xs.length := by rw [← hl]; exact (List.getElem?_eq_some_iff.1 hi).1
    exact ⟨w, K, _, h i c _ hi (List.getElem?_eq_getElem hlt)⟩
theorem Real.dptr {cs : List V} (h : Real (.dptr cs)) : ∀ c ∈ cs, Real c := by
  obtain ⟨w, K, x, hp⟩ := h
  cases hp with
  | dptr _ b o x hc h =>
    intro c hc'
    obtain ⟨i, hi⟩ := List.mem_iff_getElem?.1 hc'
    exact ⟨w, K, _, h i c hi⟩
theorem getD_map {α : Type} (f : α → V) (l : List α) (i : Nat) (h : i < l.length) (u : V) : (l.map f).getD i u = f l[i] := by
  rw [List.getD_eq_getElem?_getD, List.getElem?_map, List.getElem?_eq_getElem h]; rfl
theorem i64_ok {n : Int} (h1 : -9223372036854775808 ≤ n) (h2 : n ≤ 9223372036854775807) : IntKind.wrap .i64 n = n := IntWalk.i64_in n ⟨h1, h2⟩
theorem st_get0 (l : List O) : (st ++ l)[st.length]? = l[0]? := by rw [List.getElem?_append_right (Nat.le_refl _), Nat.sub_self]
theorem st_get (l : List O) (n : Nat) : (st ++ l)[st.length + n]? = l[n]? := by rw [List.getElem?_append_right (by omega), Nat.add_sub_cancel_left]
theorem st_set0 (l : List O) (o : O) : (st ++ l).set st.length o = st ++ l.set 0 o := by rw [List.set_append_right _ _ (Nat.le_refl _), Nat.sub_self]
theorem st_set (l : List O) (n : Nat) (o : O) : (st ++ l).set (st.length + n) o = st ++ l.set n o := by rw [List.set_append_right _ _ (by omega), Nat.add_sub_cancel_left]
theorem st_len (l : List O) : (st ++ l).length = st.length + l.length := List.length_append
theorem c_agg (cs : List V) : (V.agg cs).cells = cs := rfl
/-- Reckoning with what is known of temporaries, lists and objects. -/
theorem S0 : (∀ (gl : Nat → V) (e : Env) (t : Nat), e.ev gl (.tmp t) = e.get t) ∧ (∀ (gl : Nat → V) (e : Env) (v : Value), e.ev gl (.const v) = V.ofConst v) ∧ (∀ (gl : Nat → V) (e : Env) (f : Nat), e.ev gl (.func f) = .func (.func f) [] []) ∧
    (∀ (n : Nat) (m : List (Nat × V)) (t : Nat), Env.get ⟨n, m⟩ t = getM m t) ∧ (∀ (n : Nat) (m : List (Nat × V)) (d : Nat) (v : V), Env.put ⟨n, m⟩ (some d) v = ⟨n, (d, v) :: m⟩) ∧ (∀ (e : Env) (v : V), e.put none v = e) ∧
    (∀ (a : Nat) (v : V) (m : List (Nat × V)) (t : Nat), getM ((a, v) :: m) t = if a = t then v else getM m t) ∧
    (∀ (k : IntKind) (n : Int), V.ofConst (.int k n) = .int k n) ∧ (∀ b : Bool, V.ofConst (.bool b) = .bool b) ∧ (V.ofConst (.slice none 0 0) = .nil) ∧ (V.ofConst (.pointer none) = .nilptr) ∧ (V.ofConst .nilFunc = .nilfunc) ∧ (V.ofConst .nilIface = .niliface) ∧ (∀ s : ByteArray, V.ofConst (.string s) = .str s.data.toList) ∧
    (∀ (a : Nat) (v : V) (n : Nat) (m : List (Nat × V)), Env.m ⟨n, (a, v) :: m⟩ = (a, v) :: m) := by
  refine ⟨fun _ _ _ => rfl, fun _ _ _ => rfl, fun _ _ _ => rfl, fun _ _ _ => rfl, fun _ _ _ _ => rfl, fun _ _ => rfl, fun _ _ _ _ => rfl, fun _ _ => rfl, fun _ => rfl, rfl, rfl, rfl, rfl, fun _ => rfl, fun _ _ _ _ => rfl⟩
theorem S1 : ((false = true) = False) ∧ (∀ {α : Type} (a : α) (l m : List α), (a :: l) ++ m = a :: (l ++ m)) ∧ (∀ {α : Type} (l : List α), [] ++ l = l) ∧ (∀ {α : Type} (l : List α), l ++ [] = l) ∧ (∀ {α : Type} (a : α) (l : List α), (a :: l)[0]? = some a) ∧ (∀ {α : Type} (a : α) (l : List α) (n : Nat), (a :: l)[n + 1]? = l[n]?) ∧ (∀ {α β : Type} (f : α → β) (a : α) (l : List α), (a :: l).map f = f a :: l.map f) ∧ (∀ {α β : Type} (f : α → β), ([] : List α).map f = []) ∧ (∀ {α β : Type} (l : List α) (f : α → β), (l.map f).length = l.length) ∧ (∀ {α : Type} (a : α) (l : List α), (a :: l).length = l.length + 1) ∧ (∀ {α : Type}, ([] : List α).length = 0) ∧
    (∀ {α : Type} (n : Nat) (a : α) (l : List α), (a :: l).drop (n + 1) = l.drop n) ∧ (∀ {α : Type} (l : List α), l.drop 0 = l) ∧ (∀ {α : Type} (n : Nat) (a : α) (l : List α), (a :: l).take (n + 1) = a :: l.take n) ∧ (∀ {α : Type} (l : List α), l.take 0 = []) ∧ (∀ {α : Type} (n : Nat), ([] : List α).take n = []) ∧
    (∀ {α : Type} (a : α) (l : List α) (d : α), (a :: l).headD d = a) ∧ (∀ n : Nat, (n : Int).toNat = n) ∧ (∀ n : Nat, 0 + n = n) ∧ (∀ n : Nat, n + 0 = n) ∧ (∀ n : Nat, (n ≤ n) = True) ∧ (∀ p : Prop, (True ∧ p) = p) ∧ (∀ p : Prop, (p ∧ True) = p) ∧ (∀ n : Nat, ((0 : Int) ≤ (n : Int)) = True) ∧ (∀ a b : Nat, ((a : Int) < (b : Int)) = (a < b)) ∧
    (∀ {α : Type} (p : α → Bool) (a : α) (l : List α), (a :: l).all p = (p a && l.all p)) ∧ (∀ {α : Type} (p : α → Bool), ([] : List α).all p = true) ∧ (∀ b : Bool, (b && true) = b) ∧ (∀ b : Bool, (true && b) = b) := by
  refine ⟨by simp, fun _ _ _ => rfl, fun _ => rfl, List.append_nil, fun _ _ => rfl, fun _ _ _ => rfl, fun _ _ _ => rfl, fun _ => rfl, fun _ _ => List.length_map .., fun _ _ => rfl, rfl, fun _ _ _ => rfl, fun _ => rfl, fun _ _ _ => rfl, fun _ => rfl, fun _ => List.take_nil, fun _ _ _ => rfl, fun _ => rfl, Nat.zero_add, fun _ => rfl, fun _ => by simp, fun _ => by simp, fun _ => by simp, fun _ => by simp, fun _ _ => by simp, fun _ _ _ => by simp, fun _ => rfl, Bool.and_true, Bool.true_and⟩
theorem S2 : (∀ (st l : List O), (st ++ l)[st.length]? = l[0]?) ∧ (∀ (st l : List O) (n : Nat), (st ++ l)[st.length + n]? = l[n]?) ∧ (∀ (st l : List O) (o : O), (st ++ l).set st.length o = st ++ l.set 0 o) ∧ (∀ (st l : List O) (n : Nat) (o : O), (st ++ l).set (st.length + n) o = st ++ l.set n o) ∧
    (∀ (st l : List O), (st ++ l).length = st.length + l.length) ∧ (∀ (a b c : List O), (a ++ b) ++ c = a ++ (b ++ c)) ∧ (∀ (a : O) (b c : List O), (a :: b) ++ c = a :: (b ++ c)) ∧ (∀ (a : List O), [] ++ a = a) ∧ (∀ (a : O) (b : List O), (a :: b)[0]? = some a) ∧ (∀ (a : O) (b : List O) (n : Nat), (a :: b)[n + 1]? = b[n]?) ∧
    (∀ (a c : O) (b : List O), (a :: b).set 0 c = c :: b) ∧ (∀ (a c : O) (b : List O) (n : Nat), (a :: b).set (n + 1) c = a :: b.set n c) ∧ (∀ a b c : Nat, a + b + c = a + (b + c)) := by
  refine ⟨fun _ l => st_get0 l, fun _ l n => st_get l n, fun _ l o => st_set0 l o, fun _ l n o => st_set l n o, fun _ l => st_len l, List.append_assoc, fun _ _ _ => rfl, fun _ => rfl, fun _ _ => rfl, fun _ _ _ => rfl, fun _ _ _ => rfl, fun _ _ _ _ => rfl, Nat.add_assoc⟩
theorem S3 : (∀ cs : List V, (V.agg cs).cells = cs) ∧ (∀ (k : IntKind) (n : Int), (V.int k n).cells = [.int k n]) ∧ (∀ b : Bool, (V.bool b).cells = [.bool b]) ∧ (∀ l : List UInt8, (V.str l).cells = [.str l]) ∧ (∀ (l : List V) (t : Option Nat), (V.sl l t).cells = [.sl l t]) ∧ (V.nil.cells = [.nil]) ∧
    (∀ i o : Nat, (V.ptr i o).cells = [.ptr i o]) ∧ (∀ l : List V, (V.dptr l).cells = [.dptr l]) ∧ (∀ (f : Fn) (a b : List V), (V.func f a b).cells = [.func f a b]) ∧ (∀ i : Nat, (V.map i).cells = [.map i]) ∧ (∀ a b : List V, (V.pmap a b).cells = [.pmap a b]) :=
  ⟨fun _ => rfl, fun _ _ => rfl, fun _ => rfl, fun _ => rfl, fun _ _ => rfl, rfl, fun _ _ => rfl, fun _ => rfl, fun _ _ _ => rfl, fun _ => rfl, fun _ _ => rfl⟩
/-- Cells, objects: each at least as the other says. -/
def CLe (S : List O) : List V → List V → Prop
  | [], [] => True
  | c :: cs, d :: ds => V.le S c d ∧ CLe S cs ds
  | _, _ => False
def OLe (S : List O) : List O → List O → Prop
  | [], [] => True
  | o :: l, o' :: l' => O.le S o o' ∧ OLe S l l'
  | _, _ => False
theorem CLe.spec {S : List O} : ∀ {cs ds : List V}, CLe S cs ds → cs.length = ds.length ∧ ∀ (i : Nat) (c d : V), cs[i]? = some c → ds[i]? = some d → V.le S c d := by
  intro cs
  induction cs with
  | nil => intro ds h; cases ds with
    | nil => exact ⟨rfl, by simp⟩
    | cons => exact h.elim
  | cons c cs ih =>
    intro ds h
    cases ds with
    | nil => exact h.elim
    | cons d ds =>
      obtain ⟨h1, h2⟩ := h
      obtain ⟨h3, h4⟩ := ih h2
      refine ⟨by simp [h3], fun i a b ha hb => ?_⟩
      cases i with
      | zero => simp only [List.getElem?_cons_zero, Option.some.injEq] at ha hb; subst ha hb; exact h1
      | succ i => exact h4 i a b (by simpa using ha) (by simpa using hb)
theorem O.le_box {S : List O} {t : TypeId} {cs ds : List V} (h : CLe S cs ds) : O.le S (.box t cs) (.box t ds) := ⟨ds, rfl, h.spec.1, h.spec.2⟩
theorem OLe.spec {S : List O} : ∀ {l l' : List O}, OLe S l l' → l.length = l'.length ∧ ∀ (i : Nat) (c d : O), l[i]? = some c → l'[i]? = some d → O.le S c d := by
  intro cs
  induction cs with
  | nil => intro ds h; cases ds with
    | nil => exact ⟨rfl, by simp⟩
    | cons => exact h.elim
  | cons c cs ih =>
    intro ds h
    cases ds with
    | nil => exact h.elim
    | cons d ds =>
      obtain ⟨h1, h2⟩ := h
      obtain ⟨h3, h4⟩ := ih h2
      refine ⟨by simp [h3], fun i a b ha hb => ?_⟩
      cases i with
      | zero => simp only [List.getElem?_cons_zero, Option.some.injEq] at ha hb; subst ha hb; exact h1
      | succ i => exact h4 i a b (by simpa using ha) (by simpa using hb)
theorem StLe.app {l l' : List O} (h : OLe (st ++ l) l l') : StLe (st ++ l) (st ++ l') := by
  obtain ⟨h1, h2⟩ := h.spec
  refine ⟨by simp [h1], fun i o o' ho ho' => ?_⟩
  by_cases hi : i < st.length
  · rw [List.getElem?_append_left hi] at ho ho'
    rw [ho] at ho'
    simp only [Option.some.injEq] at ho'
    subst ho'
    exact O.le_refl _ _
  · rw [List.getElem?_append_right (by omega)] at ho ho'
    exact h2 _ o o' ho ho'
theorem trimS_app (h : Clo st) {k : Nat} (hk : st.length ≤ k) (l : List O) : trimS k (st ++ l) = st ++ (l.take (k - st.length)).map (O.trim k) := by
  unfold trimS
  rw [List.take_append, List.map_append, List.take_of_length_le hk, h k hk]
end
end Go.Duo
