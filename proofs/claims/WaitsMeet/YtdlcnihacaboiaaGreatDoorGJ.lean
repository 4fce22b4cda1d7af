/-
  A part of the proof.
-/
import Derived.Test.YtdlcnihacaboiaaGreatDoorGH
import Derived.Test.YtdlcnihacaboiaaGreatDoorGI
set_option linter.all false
namespace Go.Duo
open Go
section
variable {P : Program} {gl : Nat → V} {r : Option Nat} {e : Env} {st : List O} {w w' : World} {s s' : S} {ops : Array Oper} {m : Nat}
/-- What an operation gives, and what it makes of the objects. -/
def OpB2 (P : Program) (gl : Nat → V) (r : Option Nat) (ops : Array Oper) (o : Oper) (e : Env) (st st' : List O) (v : V) (u : Option ((Nat → V) × O)) : Prop :=
  ∀ e' : Env, (∀ t ∈ o.looksAt ops, e'.get t = e.get t) → ∀ (n0 : Nat) (w : World) (s : S) (a : Act) (next : Act → World → Prop) (Q : Exit → Act → World → Prop), n0 ≤ w.heap.size → s.st = st → Sim P gl w s → ActOK w s n0 e' a →
    (∀ x w' s', Sim P gl w' s' → Evolve w s w' s' → s'.st = st' → Rep w' s' v x → (∀ f o, u = some (f, o) → ∃ b, w.heap.size ≤ b ∧ Pend P w' s' f o x b) → next (a.put o.dst x) w') →
    if Region.wanted o (yielded ops a.tmps) = true then o.wpIn (Fr r) 0 P a w next Q else (∀ f, o.about P w a.eval = some f → (Fr r).fn f) ∧ next (a.put o.dst undef) w
/-- What holds while the first operations come in whatever order. -/
structure InvQ (S : Bool → List O) (q : Nat) (P : Program) (gl : Nat → V) (ops : Array Oper) (m : Nat) (res : List (V × Option ((Nat → V) × O))) (e : Env) (n0 : Nat) (w0 : World) (s0 : Duo.S) (L : Array Bool) (a : Act) (w : World) (s : Duo.S) (B : Nat → Nat) : Prop where
  closed : Closed ops L
  pre : ∀ i, L.getD i false = true → i < m
  st : s.st = S (L.getD q false)
  sim : Sim P gl w s
  ev : Evolve w0 s0 w s
  n : e.n ≤ a.tmps.size
  marks : Marks w s n0 a.defers
  old : ∀ t, (∀ j, j < m → dstAt ops j ≠ some t) → Rep w s (e.get t) (a.tmps.getD t undef)
  new : ∀ (j : Nat) (t : Tmp) (v : V) (u : Option ((Nat → V) × O)), L.getD j false = true → dstAt ops j = some t → res[j]? = some (v, u) → Rep w s v (a.tmps.getD t undef) ∧ ∀ f o, u = some (f, o) → w0.heap.size ≤ B j ∧ Pend P w s f o (a.tmps.getD t undef) (B j)
  inj : ∀ (j j' : Nat) (v v' : V) (fo fo' : (Nat → V) × O), L.getD j false = true → L.getD j' false = true → res[j]? = some (v, some fo) → res[j']? = some (v', some fo') → B j = B j' → j = j'
theorem anyQ {S : Bool → List O} {q : Nat} {res : List (V × Option ((Nat → V) × O))} {n0 : Nat} {w0 : World} {s0 : Duo.S} (hok : anyOK ops m = true) (hqm : q < m) (hrl : res.length = m)
    (hat : ∀ (i : Nat) (o : Oper), (ops.toList.take m)[i]? = some o → ∃ v u, res[i]? = some (v, u) ∧ (envOf ((ops.toList.take m).take i) (res.take i) e).fits o.dst ∧ (u.isSome = true → o.dst.isSome = true) ∧
      ∀ b, (b = true → i ≠ q ∧ dep ops q i = false) → OpB2 P gl r ops o (envOf ((ops.toList.take m).take i) (res.take i) e) (S b) (S (b || decide (i = q))) v u)
    (hn0 : n0 ≤ w0.heap.size) (hlen0 : s0.st.length ≤ (S true).length) (hwf0 : s0.g.length = s0.st.length) {Q : Exit → Act → World → Prop}
    (hfin : ∀ a w s, Sim P gl w s → Evolve w0 s0 w s → ActOK w s n0 (applyUps (upsOf (ops.toList.take m) res) (envOf (ops.toList.take m) res e) (S true)).1 a → s.st = (applyUps (upsOf (ops.toList.take m) res) (envOf (ops.toList.take m) res e) (S true)).2 → wpOpsIn (Fr r) 0 P ops Q (List.range' m (ops.size - m)) a w) :
    ∀ (fuel : Nat) (L : Array Bool) (a : Act) (w : World) (s : Duo.S) (B : Nat → Nat), InvQ S q P gl ops m res e n0 w0 s0 L a w s B → L.count false ≤ fuel → wpAnyIn (Fr r) 0 P .any ops Q fuel L a w := by
  obtain ⟨hm, hdown, hlook, hdst, hrest⟩ := anyOK_spec hok
  have hl : (ops.toList.take m).length = m := by simp; omega
  have hget : ∀ i, i < m → (ops.toList.take m)[i]? = ops[i]? := fun i hi => by rw [List.getElem?_take_of_lt hi]; simp
  -- what a temporary holds behind the first i, one behind the other
  have henv : ∀ (i : Nat) (t : Tmp), i ≤ m → ((∀ j, j < m → dstAt ops j ≠ some t) → (envOf ((ops.toList.take m).take i) (res.take i) e).get t = e.get t) ∧
      ∀ j v u, j < i → dstAt ops j = some t → res[j]? = some (v, u) → (envOf ((ops.toList.take m).take i) (res.take i) e).get t = v := fun i t hi => by
    have hg : ∀ k o, ((ops.toList.take m).take i)[k]? = some o → k < i ∧ dstAt ops k = o.dst := fun k o hk => by
      have hki : k < i := by
        have := (List.getElem?_eq_some_iff.1 hk).1
        simp at this
        omega
      rw [List.getElem?_take_of_lt hki, hget k (by omega)] at hk
      exact ⟨hki, by simp [dstAt, hk]⟩
    refine ⟨fun h => envOf_other _ _ _ _ fun k o hk he => ?_, fun j v u hj hd hr => ?_⟩
    · obtain ⟨h1, h2⟩ := hg k o hk
      exact h k (by omega) (h2.trans he)
    · have hjs : j < ops.size := by omega
      refine envOf_at _ _ _ _ j ops[j] v u (by rw [List.getElem?_take_of_lt hj, hget j (by omega)]; exact Array.getElem?_eq_getElem hjs) (by rw [List.getElem?_take_of_lt hj]; exact hr) (by simpa [dstAt, hjs] using hd) fun k o hk ho he => ?_
      obtain ⟨h1, h2⟩ := hg k o ho
      have := hdst j k t (by omega) (by omega) hd (h2.trans he)
      omega
  -- the end of the first phase
  have hdone : ∀ (fuel : Nat) (L : Array Bool) (a : Act) (w : World) (s : Duo.S) (B : Nat → Nat), InvQ S q P gl ops m res e n0 w0 s0 L a w s B → L.count false ≤ fuel → (∀ j, j < m → L.getD j false = true) → wpAnyIn (Fr r) 0 P .any ops Q fuel L a w := fun fuel L a w s B hI hf hall => by
    have hA : ActOK w s n0 (envOf (ops.toList.take m) res e) a := by
      refine ⟨by rw [envOf_n]; exact hI.n, fun t => ?_, hI.marks⟩
      obtain ⟨g1, g2⟩ := henv m t (Nat.le_refl _)
      have t1 : (ops.toList.take m).take m = ops.toList.take m := List.take_of_length_le (by omega)
      have t2 : res.take m = res := List.take_of_length_le (by omega)
      rw [t1, t2] at g1 g2
      by_cases hex : ∃ j, j < m ∧ dstAt ops j = some t
      · obtain ⟨j, hj, hd⟩ := hex
        obtain ⟨v, u, hr, _⟩ := hat j (ops[j]'(by omega)) (by rw [hget j hj]; exact Array.getElem?_eq_getElem _)
        rw [g2 j v u hj hd hr]
        exact (hI.new j t v u (hall j hj) hd hr).1
      · rw [g1 fun j hj hd => hex ⟨j, hj, hd⟩]
        exact hI.old t fun j hj hd => hex ⟨j, hj, hd⟩
    obtain ⟨bs, q1, q2, _, q4⟩ := ups_blocks (P := P) (w := w) (s := s) (w0 := w0) (a := a) (B := B) (ops.toList.take m) res 0 (fun j o v f ob d ho hr hd => by
      have hj : j < m := by have := (List.getElem?_eq_some_iff.1 ho).1; omega
      rw [hget j hj] at ho
      have := (hI.new j d v (some (f, ob)) (hall j hj) (by simp [dstAt, ho, hd]) hr).2 f ob rfl
      simpa using this) (fun j j' v v' fo fo' hr hr' he => by
      have hj : j < m := by have := (List.getElem?_eq_some_iff.1 hr).1; omega
      have hj' : j' < m := by have := (List.getElem?_eq_some_iff.1 hr').1; omega
      exact hI.inj j j' v v' fo fo' (hall j hj) (hall j' hj') hr hr' (by simpa using he))
    have hstE : s.st = S true := by rw [hI.st, hall q hqm]
    have hlen1 : s0.st.length ≤ s.st.length := by rw [hstE]; exact hlen0
    obtain ⟨s', k1, k2, k3, k4⟩ := register (upsOf (ops.toList.take m) res) bs s _ hI.sim hI.ev hlen1 hA q1 q2 q4
    rw [hstE] at k3 k4
    refine chain (m := m) (fun i hi hmi => (hrest (by omega)).2 i hi hmi) hdown (ops.size - m) m (by omega) (Nat.le_refl _) fuel L a w hI.closed.1 (fun i hi => ⟨fun h => hI.pre i h, fun h => hall i h⟩) hf (hfin a w s' k1 k2 k3 k4)
  intro fuel
  induction fuel with
  | zero =>
    intro L a w s B hI hf
    refine hdone 0 L a w s B hI hf fun j hj => ?_
    cases hx : L.getD j false with
    | true => rfl
    | false =>
      have := count_set (L := L) (i := j) (by rw [hI.closed.1]; omega) hx
      omega
  | succ fuel ih =>
    intro L a w s B hI hf
    by_cases hall : ∀ j, j < m → L.getD j false = true
    · exact hdone _ L a w s B hI hf hall
    · -- some operation of the first phase is ready
      have hsize := hI.closed.1
      have hmin : ∃ j, j < m ∧ j ∈ Region.ready .any ops L := by
        have hex : ∃ j, j < m ∧ L.getD j false = false := by
          apply Classical.byContradiction
          intro hno
          refine hall fun j hj => ?_
          cases hx : L.getD j false with
          | true => rfl
          | false => exact absurd ⟨j, hj, hx⟩ hno
        obtain ⟨j, hj⟩ := hex
        induction j using Nat.strongRecOn with
        | _ j ihj =>
          by_cases hd : ∃ i, i < j ∧ L.getD i false = false
          · obtain ⟨i, hi, hx⟩ := hd
            exact ihj i hi ⟨by omega, hx⟩
          · refine ⟨j, hj.1, (ready_spec hsize).2 ⟨by omega, hj.2, fun i hdep => ?_⟩⟩
            cases hx : L.getD i false with
            | true => rfl
            | false => exact absurd ⟨i, hdown j i hdep, hx⟩ hd
      obtain ⟨j0, _, hj0⟩ := hmin
      refine ⟨fun h0 => by rw [h0] at hj0; simp at hj0, fun i hi => ?_⟩
      obtain ⟨hilt, hifalse, hideps⟩ := (ready_spec hsize).1 hi
      have him : i < m := by
        apply Classical.byContradiction
        intro hge
        by_cases heq : i = m
        · subst heq
          refine hall fun j hj => ?_
          obtain ⟨hsucc, _⟩ := hrest hilt
          have key : ∀ d j, j < i → i - j = d → L.getD j false = true := by
            intro d
            induction d using Nat.strongRecOn with
            | _ d ihd =>
              intro j hj hd
              obtain ⟨j', h1, h2, h3⟩ := hsucc j hj
              by_cases hj' : j' = i
              · subst hj'; exact hideps j h3
              · exact hI.closed.2 j' j (ihd (i - j') (by omega) j' (by omega) rfl) h3
          exact key _ j hj rfl
        · have := hideps _ ((hrest (by omega)).2 i hilt (by omega))
          have := hI.pre _ this
          omega
      have hoi : ops[i]? = some ops[i] := Array.getElem?_eq_getElem hilt
      obtain ⟨v, u, hres, hfit, hud, hB⟩ := hat i ops[i] (by rw [hget i him]; exact hoi)
      -- what the operation looks at is known
      have hA : ActOK w s n0 ⟨e.n, ((ops[i]).looksAt ops).map fun t => (t, (envOf ((ops.toList.take m).take i) (res.take i) e).get t)⟩ a := by
        refine ⟨hI.n, fun t => ?_, hI.marks⟩
        show Rep w s (getM _ t) _
        rw [getM_map (fun t => (envOf ((ops.toList.take m).take i) (res.take i) e).get t)]
        split
        · rename_i hlk
          obtain ⟨g1, g2⟩ := henv i t (by omega)
          by_cases hex : ∃ j, j < m ∧ dstAt ops j = some t
          · obtain ⟨j, hj, hd⟩ := hex
            have hdep := hlook i j _ t him hj hoi hlk hd
            obtain ⟨vj, uj, hrj, _⟩ := hat j (ops[j]'(by omega)) (by rw [hget j hj]; exact Array.getElem?_eq_getElem _)
            rw [g2 j vj uj (hdown i j hdep) hd hrj]
            exact (hI.new j t vj uj (hideps j hdep) hd hrj).1
          · rw [g1 fun j hj hd => hex ⟨j, hj, hd⟩]
            exact hI.old t fun j hj hd => hex ⟨j, hj, hd⟩
        · exact .undef _
      have hbq : L.getD q false = true → i ≠ q ∧ dep ops q i = false := fun hb => by
        refine ⟨fun he => absurd hb (by subst he; rw [hifalse]; simp), ?_⟩
        cases hd : dep ops q i with
        | false => rfl
        | true => have := hI.closed.2 q i hb hd; rw [hifalse] at this; cases this
      have hstep := hB (L.getD q false) hbq ⟨e.n, ((ops[i]).looksAt ops).map fun t => (t, (envOf ((ops.toList.take m).take i) (res.take i) e).get t)⟩ (fun t ht => by show getM _ t = _; rw [getM_map (fun t => (envOf ((ops.toList.take m).take i) (res.take i) e).get t), if_pos ht]) n0 w s a
        (wpAnyIn (Fr r) 0 P .any ops Q fuel (L.setIfInBounds i true)) Q (Nat.le_trans hn0 hI.ev.size) hI.st hI.sim hA (fun x w' s' k1 k2 k3 k4 k5 => ?_)
      · unfold wpOpIn
        rw [hoi]
        exact hstep
      · have hcs := count_set (L := L) (i := i) (by omega) hifalse
        have hwf := hI.sim.wf
        -- the block of what has come
        obtain ⟨bn, hbn⟩ : ∃ bn, ∀ f o, u = some (f, o) → w.heap.size ≤ bn ∧ Pend P w' s' f o x bn := by
          cases u with
          | none => exact ⟨0, by simp⟩
          | some fo =>
            obtain ⟨f, o⟩ := fo
            obtain ⟨bn, h1, h2⟩ := k5 f o rfl
            exact ⟨bn, fun f' o' he => by simp only [Option.some.injEq, Prod.mk.injEq] at he; obtain ⟨rfl, rfl⟩ := he; exact ⟨h1, h2⟩⟩
        have hdi : ∀ j t, j < m → j ≠ i → dstAt ops j = some t → (ops[i]).dst ≠ some t := fun j t hj hne hd he => hne (hdst j i t hj him hd (by simp [dstAt, hilt, he]))
        refine ih _ (a.put (ops[i]).dst x) w' s' (fun j => if j = i then bn else B j) ⟨hI.closed.set hi, fun j hj => ?_, k3.trans (by rw [getD_set (by omega)]; by_cases hiq : i = q <;> simp [hiq]), k1, hI.ev.trans hwf0 hI.sim.len k2, by rw [put_size]; exact hI.n, by rw [put_defers]; exact hI.marks.evolve k2 hwf, fun t ht => ?_, fun j t vj uj hL hd hrj => ?_, fun j j' v1 v2 fo fo' hL hL' hr hr' hBe => ?_⟩ (by omega)
        · rw [getD_set (by omega)] at hj
          split at hj
          · rename_i he; subst he; exact him
          · exact hI.pre j hj
        · rw [put_other (fun he => ht i him (by simp [dstAt, hilt, he]))]
          exact (hI.old t ht).evolve k2 hwf
        · rw [getD_set (by omega)] at hL
          by_cases hji : j = i
          · subst hji
            rw [hres] at hrj
            simp only [Option.some.injEq, Prod.mk.injEq] at hrj
            obtain ⟨rfl, rfl⟩ := hrj
            have hd' : (ops[j]).dst = some t := by simpa [dstAt, hilt] using hd
            have hlt : t < a.tmps.size := by
              rw [hd'] at hfit
              have h1 : t < (envOf ((ops.toList.take m).take j) (res.take j) e).n := hfit
              rw [envOf_n] at h1
              exact Nat.lt_of_lt_of_le h1 hI.n
            rw [hd', put_same hlt]
            refine ⟨k4, fun f o hu => ?_⟩
            rw [if_pos rfl]
            obtain ⟨h1, h2⟩ := hbn f o hu
            exact ⟨Nat.le_trans hI.ev.size h1, h2⟩
          · rw [if_neg (fun he => hji he.symm)] at hL
            have hjm := hI.pre j hL
            rw [put_other (hdi j t hjm hji hd)]
            obtain ⟨h1, h2⟩ := hI.new j t vj uj hL hd hrj
            refine ⟨h1.evolve k2 hwf, fun f o hu => ?_⟩
            rw [if_neg hji]
            obtain ⟨h3, h4⟩ := h2 f o hu
            exact ⟨h3, h4.evolve hI.sim k2⟩
        · rw [getD_set (by omega)] at hL hL'
          have hlt : ∀ j v fo, j ≠ i → L.getD j false = true → res[j]? = some (v, some fo) → B j < w.heap.size := fun j v fo hji hL hr => by
            have hjm := hI.pre j hL
            obtain ⟨v', u', hr', _, hud', _⟩ := hat j (ops[j]'(by omega)) (by rw [hget j hjm]; exact Array.getElem?_eq_getElem _)
            rw [hr] at hr'
            simp only [Option.some.injEq, Prod.mk.injEq] at hr'
            obtain ⟨rfl, rfl⟩ := hr'
            obtain ⟨d, hd⟩ := Option.isSome_iff_exists.1 (hud' rfl)
            obtain ⟨_, h2⟩ := hI.new j d v (some fo) hL (by simp [dstAt, show j < ops.size by omega, hd]) hr
            obtain ⟨_, _, _, h3, _⟩ := (h2 fo.1 fo.2 rfl).2
            exact h3
          have hnew : ∀ v fo, res[i]? = some (v, some fo) → w.heap.size ≤ bn := fun v' fo hr => by
            rw [hres] at hr
            simp only [Option.some.injEq, Prod.mk.injEq] at hr
            exact (hbn fo.1 fo.2 hr.2).1
          by_cases h1 : j = i
          · by_cases h2 : j' = i
            · omega
            · subst h1
              rw [if_pos rfl, if_neg h2] at hBe
              rw [if_neg (fun he => h2 he.symm)] at hL'
              have := hlt j' v2 fo' h2 hL' hr'
              have := hnew v1 fo hr
              omega
          · rw [if_neg (fun he => h1 he.symm)] at hL
            by_cases h2 : j' = i
            · subst h2
              rw [if_neg h1, if_pos rfl] at hBe
              have := hlt j v1 fo h1 hL hr
              have := hnew v2 fo' hr'
              omega
            · rw [if_neg h1, if_neg h2] at hBe
              rw [if_neg (fun he => h2 he.symm)] at hL'
              exact hI.inj j j' v1 v2 fo fo' hL hL' hr hr' hBe
def nopO (o : Oper) : Oper := { o with op := .assign (.const (.bool true)), dst := none, guard := none }
/-- The operations that may come behind the store. -/
def lateOK (ops : Array Oper) (m q : Nat) (ls : List Nat) : Bool := (List.range m).all fun i => i == q || dep ops q i || ls.contains i
/-- They give the same behind the store. -/
def awS (P : Program) (gl : Nat → V) (ops : Array Oper) (e1 : Env) (st' : List O) : List Nat → Prop
  | [] => True
  | i :: ls => (∃ o d, ops[i]? = some o ∧ o.guard = none ∧ o.dst = some d ∧ stepA P gl (e1.ev gl) st' o.op fun v u => v = e1.get d ∧ u = none) ∧ awS P gl ops e1 st' ls
theorem awS_mem {e1 : Env} {st' : List O} : ∀ {ls : List Nat}, awS P gl ops e1 st' ls → ∀ i ∈ ls, ∃ o d, ops[i]? = some o ∧ o.guard = none ∧ o.dst = some d ∧ stepA P gl (e1.ev gl) st' o.op fun v u => v = e1.get d ∧ u = none := by
  intro ls
  induction ls with
  | nil => intro _ i hi; cases hi
  | cons j ls ih =>
    intro h i hi
    rcases List.mem_cons.1 hi with rfl | hi
    · exact h.1
    · exact ih h.2 i hi
theorem awS_cons {e1 : Env} {st' : List O} {ls : List Nat} {i d : Nat} {o : Oper} (ho0 : ops.toList[i]? = some o) (hg : o.guard = none) (hd : o.dst = some d) (hc : calm o.op = true)
    (h : ∀ K2 : V → List O → Prop, (∀ v st2, v = e1.get d → K2 v st2) → step1 P gl (e1.ev gl) st' o.op K2) (h2 : awS P gl ops e1 st' ls) : awS P gl ops e1 st' (i :: ls) := by
  refine ⟨⟨o, d, by simpa using ho0, hg, hd, ?_⟩, h2⟩
  have h1 := h (fun v _ => v = e1.get d ∧ (none : Option ((Nat → V) × O)) = none) (fun v st2 hv => ⟨hv, rfl⟩)
  unfold stepA
  cases hop : o.op <;> rw [hop] at hc h1 <;> first
    | (simp only [calm, Bool.false_eq_true] at hc; done)
    | exact (if_pos hc).symm ▸ h1
    | skip
  rename_i c
  simp only at h1 ⊢
  cases hcal : c.callee with
  | value f => simp only [calm, hcal, Bool.false_eq_true] at hc
  | invoke a b => simp only [calm, hcal, Bool.false_eq_true] at hc
  | builtin b =>
    simp only [calm, hcal] at hc
    cases b <;> first
      | (simp only [Bool.false_eq_true] at hc; done)
      | (simp only [calm, hcal]; rw [if_pos trivial]; exact h1)
theorem envOf_dst : ∀ (l l' : List Oper) (res : List (V × Option ((Nat → V) × O))) (e : Env), l.map (·.dst) = l'.map (·.dst) → envOf l res e = envOf l' res e ∧ upsOf l res = upsOf l' res := by
  intro l
  induction l with
  | nil => intro l' res e h; cases l' with
    | nil => exact ⟨rfl, rfl⟩
    | cons => simp at h
  | cons o l ih =>
    intro l' res e h
    cases l' with
    | nil => simp at h
    | cons o' l' =>
      simp only [List.map_cons, List.cons.injEq] at h
      cases res with
      | nil => exact ⟨rfl, rfl⟩
      | cons p res =>
        obtain ⟨v, u⟩ := p
        simp only [envOf, upsOf, h.1]
        exact ⟨(ih l' res _ h.2).1, by rw [(ih l' res e h.2).2]⟩
theorem envOf_set : ∀ (l : List Oper) (res : List (V × Option ((Nat → V) × O))) (e : Env) (q : Nat) (p : V × Option ((Nat → V) × O)), (∀ o, l[q]? = some o → o.dst = none) → envOf l (res.set q p) e = envOf l res e ∧ upsOf l (res.set q p) = upsOf l res := by
  intro l
  induction l with
  | nil => intro res e q p _; cases res <;> cases q <;> exact ⟨rfl, rfl⟩
  | cons o l ih =>
    intro res e q p h
    cases res with
    | nil => exact ⟨rfl, rfl⟩
    | cons p0 res =>
      obtain ⟨v, u⟩ := p0
      cases q with
      | zero =>
        have := h o rfl
        obtain ⟨v', u'⟩ := p
        simp only [List.set_cons_zero, envOf, upsOf, this]
        refine ⟨rfl, ?_⟩
        cases u <;> cases u' <;> rfl
      | succ q =>
        have ih' := fun e => ih res e q p (fun o' ho' => h o' (by simpa using ho'))
        simp only [List.set_cons_succ, envOf, upsOf]
        exact ⟨(ih' _).1, by rw [(ih' e).2]⟩
theorem applyUps_len : ∀ (ups : List Up) (e : Env) (st : List O), (applyUps ups e st).2.length = st.length + ups.length := by
  intro ups
  induction ups with
  | nil => intro e st; rfl
  | cons u ups ih => intro e st; obtain ⟨d, f, o⟩ := u; rw [applyUps, ih]; simp; omega
theorem upsOf_nil : ∀ (l : List Oper) (res : List (V × Option ((Nat → V) × O))), upsOf l res = [] → ∀ (i : Nat) (o : Oper) (v : V) (u : Option ((Nat → V) × O)), l[i]? = some o → res[i]? = some (v, u) → o.dst.isSome = true → u = none := by
  intro l
  induction l with
  | nil => intro res _ i o v u h; simp at h
  | cons o l ih =>
    intro res h i o' v u h1 h2 h3
    cases res with
    | nil => simp at h2
    | cons p res =>
      obtain ⟨v0, u0⟩ := p
      simp only [upsOf, List.append_eq_nil_iff] at h
      cases i with
      | zero =>
        simp only [List.getElem?_cons_zero, Option.some.injEq, Prod.mk.injEq] at h1 h2
        subst h1
        obtain ⟨rfl, rfl⟩ := h2
        obtain ⟨d, hd⟩ := Option.isSome_iff_exists.1 h3
        cases u0 with
        | none => rfl
        | some fo => obtain ⟨f, ob⟩ := fo; rw [hd] at h; simp [upOf] at h
      | succ i => exact ih res h.2 i o' v u (by simpa using h1) (by simpa using h2) h3
theorem env_agree (hok : anyOK ops m = true) {res : List (V × Option ((Nat → V) × O))} (hlen : res.length = m) {i : Nat} {o : Oper} {t : Tmp} (hi : i < m) (ho : ops[i]? = some o) (ht : t ∈ o.looksAt ops) :
    (envOf (ops.toList.take m) res e).get t = (envOf ((ops.toList.take m).take i) (res.take i) e).get t := by
  obtain ⟨hm, hdown, hlook, hdst, _⟩ := anyOK_spec hok
  have hget : ∀ j, j < m → (ops.toList.take m)[j]? = ops[j]? := fun j hj => by rw [List.getElem?_take_of_lt hj]; simp
  by_cases hex : ∃ j, j < m ∧ dstAt ops j = some t
  · obtain ⟨j, hj, hd⟩ := hex
    have hji := hdown i j (hlook i j o t hi hj ho ht hd)
    obtain ⟨v, u, hrj⟩ : ∃ v u, res[j]? = some (v, u) := ⟨(res[j]'(by omega)).1, (res[j]'(by omega)).2, List.getElem?_eq_getElem _⟩
    have hoj : ops[j]? = some (ops[j]'(by omega)) := Array.getElem?_eq_getElem _
    have hdj : (ops[j]'(by omega)).dst = some t := by simpa [dstAt, hoj] using hd
    have hno : ∀ (k : Nat) (o' : Oper), j < k → (ops.toList.take m)[k]? = some o' → o'.dst ≠ some t := fun k o' hk ho' he => by
      have hkm : k < m := by have := (List.getElem?_eq_some_iff.1 ho').1; simp at this; omega
      rw [hget k hkm] at ho'
      have := hdst j k t hj hkm hd (by simp [dstAt, ho', he])
      omega
    rw [envOf_at _ _ _ _ j _ v u ((hget j hj).trans hoj) hrj hdj hno,
      envOf_at _ _ _ _ j _ v u (by rw [List.getElem?_take_of_lt hji, hget j hj]; exact hoj) (by rw [List.getElem?_take_of_lt hji]; exact hrj) hdj fun k o' hk ho' => by
        have hki : k < i := by have := (List.getElem?_eq_some_iff.1 ho').1; simp at this; omega
        rw [List.getElem?_take_of_lt hki] at ho'
        exact hno k o' hk ho']
  · have hno : ∀ (k : Nat) (o' : Oper), (ops.toList.take m)[k]? = some o' → o'.dst ≠ some t := fun k o' ho' he => by
      have hkm : k < m := by have := (List.getElem?_eq_some_iff.1 ho').1; simp at this; omega
      rw [hget k hkm] at ho'
      exact hex ⟨k, hkm, by simp [dstAt, ho', he]⟩
    rw [envOf_other _ _ _ _ hno, envOf_other _ _ _ _ fun k o' ho' => by
      have hki : k < i := by have := (List.getElem?_eq_some_iff.1 ho').1; simp at this; omega
      rw [List.getElem?_take_of_lt hki] at ho'
      exact hno k o' ho']
/-- **A region that draws its order, with a store among the first.** q: the store; ls: what may come behind it. -/
theorem AW.anyS {id : Nat} {Q : Exit → Env → List O → Prop} (hfol : P.follows .mixedOrders = true) (m q : Nat) (ls : List Nat) (oq : Oper) (hok : anyOK ops m = true) (hqm : q < m) (hoq0 : ops.toList[q]? = some oq) (hg : oq.guard = none) (hd : oq.dst = none) (hls : lateOK ops m q ls = true)
    (h : awA P gl ops ((ops.toList.take m).set q (nopO oq)) e st [] fun e1 s1 => s1 = st ∧ ∃ st', step1 P gl (e1.ev gl) st oq.op (fun v s2 => v = .undef ∧ s2 = st') ∧ st.length = st'.length ∧ awS P gl ops e1 st' ls ∧ awL P gl ops (ops.toList.drop m) e1 st' (Q .normal)) : AW P gl r (.region id ops true) Q e st := fun n0 w s a hn hst hs ha => by
  have hoq : ops[q]? = some oq := by simpa using hoq0
  refine wpIn_region_any hfol ?_
  have hE0 := Evolve.drawn (w := w) hs.wf (w.drawn + 1)
  have hS0 := hs.drawn (w.drawn + 1)
  have hA0 := ha.evolve hE0 hs.wf
  obtain ⟨res0, hrun, hK⟩ := awA_run (r := r) _ _ _ h
  rw [List.nil_append] at hK
  obtain ⟨hm, hdown, hlook, hdstu, hrest0⟩ := anyOK_spec hok
  obtain ⟨l, hl⟩ : ∃ l, ops.toList.take m = l := ⟨_, rfl⟩
  have hll : l.length = m := by rw [← hl]; simp; omega
  have hget : ∀ i, i < m → l[i]? = ops[i]? := fun i hi => by rw [← hl, List.getElem?_take_of_lt hi]; simp
  rw [hl] at hrun hK
  have hmap : ∀ (k : Nat), ((l.set q (nopO oq)).take k).map (·.dst) = (l.take k).map (·.dst) := fun k => by
    apply List.ext_getElem?
    intro j
    simp only [List.getElem?_map, List.getElem?_take]
    split
    · by_cases hj : q = j
      · subst hj
        rw [List.getElem?_set_self (by omega), hget q hqm, hoq]
        simp [nopO, hd]
      · rw [List.getElem?_set_ne hj]
    · rfl
  have hmapA : (l.set q (nopO oq)).map (·.dst) = l.map (·.dst) := by
    have := hmap m
    rwa [List.take_of_length_le (by simp [hll]), List.take_of_length_le (by omega)] at this
  obtain ⟨hlen0, hat0⟩ := runA_at _ _ _ hrun
  rw [List.length_set, hll] at hlen0
  obtain ⟨hd1, hd2⟩ := envOf_dst _ _ res0 e hmapA
  have hqdst : ∀ o, l[q]? = some o → o.dst = none := fun o ho => by rw [hget q hqm, hoq] at ho; cases ho; exact hd
  obtain ⟨res, hres⟩ : ∃ res, res0.set q (.undef, none) = res := ⟨_, rfl⟩
  have hrl : res.length = m := by rw [← hres, List.length_set]; omega
  obtain ⟨hd3, hd4⟩ := envOf_set l res0 e q (.undef, none) hqdst
  rw [hres] at hd3 hd4
  rw [hd1, hd2, ← hd3, ← hd4] at hK
  obtain ⟨hs1, st', hst', hlen', hS, hrest⟩ := hK
  have hups : upsOf l res = [] := by
    have := congrArg List.length hs1
    rw [applyUps_len] at this
    exact List.length_eq_zero_iff.1 (by omega)
  rw [hups] at hs1 hst' hS hrest
  simp only [applyUps] at hst' hS hrest
  have hpre : ∀ i, envOf ((l.set q (nopO oq)).take i) (res0.take i) e = envOf (l.take i) (res.take i) e := fun i => by
    rw [(envOf_dst _ _ (res0.take i) e (hmap i)).1, ← hres, List.take_set]
    refine ((envOf_set (l.take i) (res0.take i) e q (.undef, none) fun o ho => ?_).1).symm
    rw [List.getElem?_take] at ho
    split at ho
    · exact hqdst o ho
    · cases ho
  have hag : ∀ {i : Nat} {o : Oper} {t : Tmp}, i < m → ops[i]? = some o → t ∈ o.looksAt ops → (envOf l res e).get t = (envOf (l.take i) (res.take i) e).get t := fun hi ho ht => by
    have := env_agree (e := e) hok hrl hi ho ht
    rwa [hl] at this
  have hL0 : (Array.replicate ops.size false).getD q false = false := by
    simp only [Array.getD_eq_getD_getElem?, Array.getElem?_replicate]
    split <;> rfl
  refine anyQ (S := fun b => if b then st' else st) (q := q) (res := res) (Q := fun x a' w' => ∃ e' s', Sim P gl w' s' ∧ Evolve w s w' s' ∧ ActOK w' s' n0 e' a' ∧ Q x e' s'.st) hok hqm hrl (fun i o hio => ?_) (w0 := { w with drawn := w.drawn + 1 }) (s0 := s) hn (by rw [hst]; show st.length ≤ st'.length; omega) hs.len (fun a' w' s' k1 k2 k3 k4 => ?_) ops.size _ a _ s (fun _ => 0)
    ⟨⟨by simp, fun i j hi => ?_⟩, fun i hi => ?_, (by rw [hL0]; exact hst), hS0, Evolve.refl hS0.wf, hA0.n, hA0.marks, fun t _ => hA0.get t, fun j t v u hL => ?_, fun j j' v v' fo fo' hL => ?_⟩ (by simp [Array.count_replicate])
  · -- each operation
    rw [hl] at hio ⊢
    have him : i < m := by have := (List.getElem?_eq_some_iff.1 hio).1; omega
    have hoi : ops[i]? = some o := by rw [← hget i him]; exact hio
    by_cases hiq : i = q
    · subst hiq
      have ho : o = oq := by rw [hoq] at hoi; cases hoi; rfl
      subst ho
      refine ⟨.undef, none, by rw [← hres, List.getElem?_set_self (by omega)], by rw [hd]; trivial, by simp, fun b hb => ?_⟩
      cases b with
      | true => exact absurd rfl (hb rfl).1
      | false =>
        simp only [Bool.false_or, decide_true, if_true, Bool.false_eq_true, if_false]
        intro e' he n0' w1 s1 a1 next Q1 hn1 hst1 hs1' ha1 hk1
        rw [if_pos (by simp [Region.wanted, hg])]
        have hstep : step1 P gl (e'.ev gl) st o.op (fun v s2 => v = .undef ∧ s2 = st') := step1_congr (fun x hx => by
          cases x with
          | tmp t =>
            have ht : t ∈ o.looksAt ops := List.mem_append_left _ (List.mem_filterMap.2 ⟨.tmp t, by simpa using hx, rfl⟩)
            exact (hag him hoq ht).trans (he t ht).symm
          | _ => rfl) hst'
        refine step1_sound hstep n0' w1 s1 a1 next Q1 hn1 hst1 hs1' ha1 fun v x w2 s2 j1 j2 j3 ⟨j4, j5⟩ => ?_
        subst j4
        exact hk1 x w2 s2 j1 j2 j5 j3 (by simp)
    · obtain ⟨v, u, hr0, hfit, hus, hB⟩ := hat0 i o (by rw [List.getElem?_set_ne (fun he => hiq he.symm)]; exact hio)
      have hri : res[i]? = some (v, u) := by rw [← hres, List.getElem?_set_ne (fun he => hiq he.symm)]; exact hr0
      rw [hpre i] at hfit hB
      refine ⟨v, u, hri, hfit, hus, fun b hb => ?_⟩
      cases b with
      | false =>
        simp only [Bool.false_or, decide_eq_false hiq, Bool.false_eq_true, if_false]
        exact hB
      | true =>
        simp only [Bool.true_or, if_true]
        have hdq := (hb rfl).2
        have hmem : i ∈ ls := by
          have h1 := List.all_eq_true.1 hls i (List.mem_range.2 him)
          simpa [hiq, hdq] using h1
        obtain ⟨o', d, ho', hg', hdd, hA⟩ := awS_mem hS i hmem
        rw [hoi] at ho'
        cases ho'
        obtain ⟨v', u', ⟨hv', hu'⟩, hA2⟩ := stepA_full (r := r) hA
        have hu : u = none := upsOf_nil l res hups i o v u hio hri (by rw [hdd]; rfl)
        have hve : (envOf l res e).get d = v := envOf_at l res e d i o v u hio hri hdd fun k o' hk ho' he => by
          have hkm : k < m := by have := (List.getElem?_eq_some_iff.1 ho').1; omega
          rw [hget k hkm] at ho'
          have := hdstu i k d him hkm (by simp [dstAt, hoi, hdd]) (by simp [dstAt, ho', he])
          omega
        subst hu hu'
        rw [hve] at hv'
        subst hv'
        intro e' he n0' w1 s1 a1 next Q1 hn1 hst1 hs1' ha1 hk1
        rw [if_pos (by simp [Region.wanted, hg'])]
        refine hA2 e' (fun x hx => ?_) n0' w1 s1 a1 next Q1 hn1 hst1 hs1' ha1 hk1
        cases x with
        | tmp t =>
          have ht : t ∈ o.looksAt ops := List.mem_append_left _ (List.mem_filterMap.2 ⟨.tmp t, by simpa using hx, rfl⟩)
          exact (hag him hoi ht).trans (he t ht).symm
        | _ => rfl
  · have hE := hE0.trans hs.len hs.len k2
    rw [hl, hups] at k3 k4
    simp only [applyUps, if_true] at k3 k4
    have hl' : (ops.toList.drop m).length = ops.size - m := by simp
    rw [← hl']
    refine awL_sound (r := r) (ops.toList.drop m) m _ _ rfl hrest n0 w' s' a' _ (Nat.le_trans hn hE.size) k4 k1 k3 fun e'' s'' a'' w'' j1 j2 j3 j4 => ⟨e'', s'', j1, hE.trans hs.len k1.len j2, j3, j4⟩
  all_goals (exfalso; simp only [Array.getD_eq_getD_getElem?, Array.getElem?_replicate] at *)
  · split at hi <;> simp at hi
  · split at hi <;> simp at hi
  · split at hL <;> simp at hL
  · split at hL <;> simp at hL
end
end Go.Duo

namespace Go.Duo
open Go
theorem i64w (n : Int) (h1 : -9223372036854775808 ≤ n) (h2 : n ≤ 9223372036854775807) : IntKind.wrap .i64 n = n := i64_ok h1 h2
theorem getD_lt {α : Type} (f : α → V) (l : List α) (i : Nat) (u : V) (h : i < l.length) : (l.map f).getD i u = f (l[i]'h) := getD_map f l i h u
theorem getD_ltI {α : Type} (l : List α) (i : Nat) (u : α) (h : i < l.length) : l.getD i u = l[i]'h := by rw [List.getD_eq_getElem?_getD, List.getElem?_eq_getElem h]; rfl
theorem tmod_nn (a b : Int) (h : 0 ≤ a) : a.tmod b = a % b := Int.tmod_eq_emod_of_nonneg h
theorem tdiv_nn (a b : Int) (h : 0 ≤ a) : a.tdiv b = a / b := Int.tdiv_eq_ediv_of_nonneg h
theorem toNat_sub1 (n : Nat) : ((n : Int) - 1).toNat = n - 1 := by omega
theorem snoc_len {α : Type} (a : List α) (c : α) : (a ++ [c]).length = a.length + 1 := by simp
theorem snoc_drop {α : Type} (a : List α) (c : α) : List.drop a.length (a ++ [c]) = [c] := by simp
theorem snoc_take {α : Type} (a : List α) (c : α) : List.take a.length (a ++ [c]) = a := by simp
theorem snoc_take1 {α : Type} (a : List α) (c : α) : List.take (a.length + 1) (a ++ [c]) = a ++ [c] := List.take_of_length_le (by simp)
/-- All cells are pure. -/
def PureL (l : List V) : Prop := ∀ c ∈ l, PureV c
theorem PureL.nil : PureL [] := by intro c hc; cases hc
theorem PureL.cons {c : V} {l : List V} (h : PureV c) (h2 : PureL l) : PureL (c :: l) := by
  intro d hd
  rcases List.mem_cons.1 hd with rfl | hd
  · exact h
  · exact h2 d hd
theorem PureL.app {l m : List V} (h : PureL l) (h2 : PureL m) : PureL (l ++ m) := by
  intro d hd
  rcases List.mem_append.1 hd with hd | hd
  · exact h d hd
  · exact h2 d hd
/-- A cell that holds a row that is only read, or none. -/
def rowOK (v : V) : Prop := v = .nil ∨ ∃ es, v = .sl es none
theorem rowOK.nil : rowOK .nil := .inl rfl
theorem rowOK.sl (es : List V) : rowOK (.sl es none) := .inr ⟨es, rfl⟩
theorem rowOK.one {v : V} (h : rowOK v) : v.one = true := by rcases h with rfl | ⟨es, rfl⟩ <;> rfl
theorem rowOK.cells {v : V} (h : rowOK v) : v.cells = [v] := by rcases h with rfl | ⟨es, rfl⟩ <;> rfl
theorem rowOK.le {v : V} (h : rowOK v) (st : List O) : V.le st v v.bare := by
  rcases h with rfl | ⟨es, rfl⟩
  · exact V.le_nil _
  · exact V.le_of_eq (by rw [V.bare])
theorem rowOK.pure {v : V} (h : rowOK v) : PureV v := by
  rcases h with rfl | ⟨es, rfl⟩
  · exact PureV.nil
  · exact PureV.sl _ _
theorem rowOK.bare {v : V} (h : rowOK v) : rowOK v.bare ∧ v.bare.bare = v.bare := by
  rcases h with rfl | ⟨es, rfl⟩ <;> exact ⟨.inr ⟨_, by rw [V.bare]⟩, by simp [V.bare]⟩
theorem _root_.Go.Duo.Call.argle {P : Program} {gl : Nat → V} {k : FuncId} {as bs : List V} {st : List O} {K : V → List O → Prop} (h : CLe st as bs) (hc : Duo.Call P gl k bs st K) : Duo.Call P gl k as st K := fun w s xs hst hs hxs => by
  obtain ⟨hl, hle⟩ := h.spec
  refine hc w s xs hst hs ⟨hl ▸ hxs.1, fun i c x hci hxi => ?_⟩
  have hi : i < as.length := by rw [hl]; exact (List.getElem?_eq_some_iff.1 hci).1
  exact hle i as[i] c (List.getElem?_eq_getElem hi) hci w s x hst (hxs.2 i as[i] x (List.getElem?_eq_getElem hi) hxi)
end Go.Duo

namespace Go.Duo
open Go
def Pr.kind : Pr → Int | .mk k _ _ _ _ _ _ => k
def Pr.chan : Pr → Str | .mk _ c _ _ _ _ _ => c
def Pr.labels : Pr → List Str | .mk _ _ _ l _ _ _ => l
theorem encP_f0 (p : Pr) (u : V) : (encP p).cells.headD u = .int .i64 p.kind := by obtain ⟨k, c, v, l, a, t, ks⟩ := p; rw [encP_mk]; rfl
theorem encP_f1 (p : Pr) (u : V) : ((encP p).cells.drop 1).headD u = .str p.chan := by obtain ⟨k, c, v, l, a, t, ks⟩ := p; rw [encP_mk]; rfl
theorem encP_f3 (p : Pr) (u : V) : ((encP p).cells.drop 3).headD u = .sl (p.labels.map .str) none := by obtain ⟨k, c, v, l, a, t, ks⟩ := p; rw [encP_mk]; rfl
structure Rx where
  o : Int
  i : Int
  c : Int
  p : Bool
  deriving DecidableEq
def encR (r : Rx) : V := .agg [.int .i64 r.o, .int .i64 r.i, .int .i64 r.c, .bool r.p]
def Rx.zero : Rx := ⟨0, 0, 0, false⟩
theorem encR_cells (r : Rx) : (encR r).cells = [.int .i64 r.o, .int .i64 r.i, .int .i64 r.c, .bool r.p] := rfl
/-- The two cells of an array of two numbers. -/
def encD (d : Int × Int) : V := .agg [.int .i64 d.1, .int .i64 d.2]
theorem encD_cells (d : Int × Int) : (encD d).cells = [.int .i64 d.1, .int .i64 d.2] := rfl
def meetL (a b : Pr) : Bool := match epL a.chan with
  | some (k, p) => decide (nameL k (!p) = b.chan)
  | none => false
theorem meetL_eq (a b : Pr) : meetL a b = (epO a.chan && decide (dualN a.chan = b.chan)) := by unfold meetL dualN epO epK epP; cases epL a.chan <;> simp
def fitL (a b : Pr) : Bool := decide (a.kind = 2) && decide (b.kind = 3) || decide (a.kind = 4) && decide (b.kind = 5) && decide (a.labels.headD [] ∈ b.labels)
/-- Where the program's code takes the first label, there is one. -/
def hasL (a : Pr) : Prop := a.kind = 4 → a.labels ≠ []
theorem Real.row {α : Type} {f : α → V} {l : List α} (h : Real (.sl (l.map f) none)) : l.length ≤ 9223372036854775807 := by simpa [maxLen] using h.sl.1
section
variable {α β : Type}
def partL (n : Nat) (f : Nat → Nat → Option α) (i k : Nat) : List α := (List.range i).flatMap (fun i => (List.range n).filterMap (f i)) ++ (List.range k).filterMap (f i)
def pairsL (n : Nat) (f : Nat → Nat → Option α) : List α := (List.range n).flatMap fun i => (List.range n).filterMap (f i)
theorem partL_zero (n : Nat) (f : Nat → Nat → Option α) : partL n f 0 0 = [] := rfl
theorem partL_end (n : Nat) (f : Nat → Nat → Option α) : partL n f n 0 = pairsL n f := by simp [partL, pairsL]
theorem partL_succ (n : Nat) (f : Nat → Nat → Option α) (i k : Nat) : partL n f i (k + 1) = partL n f i k ++ (f i k).toList := by
  rw [partL, partL, List.range_succ, List.filterMap_append, ← List.append_assoc]
  cases h : f i k <;> simp [h]
theorem partL_some {n : Nat} {f : Nat → Nat → Option α} {i k : Nat} {x : α} (h : f i k = some x) : partL n f i (k + 1) = partL n f i k ++ [x] := by rw [partL_succ, h]; rfl
theorem partL_none {n : Nat} {f : Nat → Nat → Option α} {i k : Nat} (h : f i k = none) : partL n f i (k + 1) = partL n f i k := by rw [partL_succ, h]; simp
theorem partL_turn (n : Nat) (f : Nat → Nat → Option α) (i : Nat) : partL n f i n = partL n f (i + 1) 0 := by
  simp [partL, List.range_succ, List.flatMap_append]
theorem partL_skip {n : Nat} {f : Nat → Nat → Option α} {i : Nat} : ∀ k, (∀ j, j < k → f i j = none) → partL n f i k = partL n f i 0 := by
  intro k
  induction k with
  | zero => intro _; rfl
  | succ k ih => intro h; rw [partL_none (h k (Nat.lt_succ_self k)), ih fun j hj => h j (by omega)]
theorem range_flat_le (n : Nat) (f : Nat → Nat → Option α) : ∀ i, ((List.range i).flatMap fun i => (List.range n).filterMap (f i)).length ≤ i * n := by
  intro i
  induction i with
  | zero => simp
  | succ i ih =>
    rw [List.range_succ, List.flatMap_append, List.length_append, Nat.succ_mul]
    have h1 : ((List.range n).filterMap (f i)).length ≤ n := by have := List.length_filterMap_le (f i) (List.range n); rwa [List.length_range] at this
    simp only [List.flatMap_cons, List.flatMap_nil, List.append_nil]
    omega
theorem partL_len {n : Nat} {f : Nat → Nat → Option α} {i k : Nat} (hn : n ≤ 1000000) (hi : i ≤ n) (hk : k ≤ n) : (partL n f i k).length ≤ 1000001000000 := by
  have h1 := range_flat_le n f i
  have h2 : ((List.range k).filterMap (f i)).length ≤ k := by have := List.length_filterMap_le (f i) (List.range k); rwa [List.length_range] at this
  have h3 : i * n ≤ 1000000 * 1000000 := Nat.mul_le_mul (by omega) hn
  rw [partL, List.length_append]
  omega
theorem mem_pairsL {n : Nat} {f : Nat → Nat → Option α} {x : α} : x ∈ pairsL n f ↔ ∃ i k, i < n ∧ k < n ∧ f i k = some x := by
  unfold pairsL
  simp only [List.mem_flatMap, List.mem_filterMap, List.mem_range]
  constructor
  · rintro ⟨i, hi, k, hk, h⟩; exact ⟨i, k, hi, hk, h⟩
  · rintro ⟨i, k, hi, hk, h⟩; exact ⟨i, hi, k, hk, h⟩
end
def Pr.z : Pr := .mk 0 [] [] [] [] (.mk 0 0 [] 0 [] []) []
/-- The redex of two threads. -/
def rxAt (l : List Pr) (i k : Nat) : Option Rx := if i ≠ k ∧ meetL (l.getD i .z) (l.getD k .z) = true ∧ fitL (l.getD i .z) (l.getD k .z) = true then some ⟨i, k, epK (l.getD i .z).chan, epP (l.getD i .z).chan⟩ else none
def listL (l : List Pr) : List Rx := pairsL l.length (rxAt l)
def clAt (l : List Pr) (i k : Nat) : Option (Int × Int) := if i < k ∧ meetL (l.getD i .z) (l.getD k .z) = true ∧ fitL (l.getD i .z) (l.getD k .z) = false ∧ fitL (l.getD k .z) (l.getD i .z) = false then some ((i : Int), (k : Int)) else none
def clashL (l : List Pr) : List (Int × Int) := pairsL l.length (clAt l)
theorem rxAt_some {l : List Pr} {i k : Nat} (hi : i < l.length) (hk : k < l.length) (h : i ≠ k) (h1 : meetL l[i] l[k] = true) (h2 : fitL l[i] l[k] = true) : rxAt l i k = some ⟨i, k, epK l[i].chan, epP l[i].chan⟩ := by
  unfold rxAt; rw [getD_ltI _ _ _ hi, getD_ltI _ _ _ hk, if_pos ⟨h, h1, h2⟩]
theorem rxAt_none {l : List Pr} {i k : Nat} (hi : i < l.length) (hk : k < l.length) (h : i = k ∨ meetL l[i] l[k] = false ∨ fitL l[i] l[k] = false) : rxAt l i k = none := by
  unfold rxAt; rw [getD_ltI _ _ _ hi, getD_ltI _ _ _ hk, if_neg]
  rintro ⟨h1, h2, h3⟩
  rcases h with h | h | h
  · exact h1 h
  · rw [h] at h2; cases h2
  · rw [h] at h3; cases h3
theorem clAt_some {l : List Pr} {i k : Nat} (hi : i < l.length) (hk : k < l.length) (h : i < k) (h1 : meetL l[i] l[k] = true) (h2 : fitL l[i] l[k] = false) (h3 : fitL l[k] l[i] = false) : clAt l i k = some ((i : Int), (k : Int)) := by
  unfold clAt; rw [getD_ltI _ _ _ hi, getD_ltI _ _ _ hk, if_pos ⟨h, h1, h2, h3⟩]
theorem clAt_none {l : List Pr} {i k : Nat} (hi : i < l.length) (hk : k < l.length) (h : k ≤ i ∨ meetL l[i] l[k] = false ∨ fitL l[i] l[k] = true ∨ fitL l[k] l[i] = true) : clAt l i k = none := by
  unfold clAt; rw [getD_ltI _ _ _ hi, getD_ltI _ _ _ hk, if_neg]
  rintro ⟨h1, h2, h3, h4⟩
  rcases h with h | h | h | h
  · omega
  · rw [h] at h2; cases h2
  · rw [h] at h3; cases h3
  · rw [h] at h4; cases h4
structure Th where
  ch : UInt8
  p : Bool
  kind : UInt8
  label : UInt8
def encTh (t : Th) : V := .agg [.int .u8 t.ch.toNat, .bool t.p, .int .u8 t.kind.toNat, .int .u8 t.label.toNat]
theorem encTh_cells (t : Th) : (encTh t).cells = [.int .u8 t.ch.toNat, .bool t.p, .int .u8 t.kind.toNat, .int .u8 t.label.toNat] := rfl
def Ty.z : Ty := .mk 0 0 [] 0 [] []
def stopL : Pr := .mk 1 [] [] [] [] .z []
def chanL (t : Th) : Str := if t.ch = 9 then [120] else nameL t.ch.toNat t.p
def labelL (t : Th) : Str := if t.label.toNat % 3 = 0 then [97] else if t.label.toNat % 3 = 1 then [98] else [99]
def threadL (t : Th) : Pr :=
  if t.kind.toNat % 4 = 0 then .mk 2 (chanL t) [] [] [⟨2, [], 1⟩] .z [stopL]
  else if t.kind.toNat % 4 = 1 then .mk 3 (chanL t) [120] [] [] .z [stopL]
  else if t.kind.toNat % 4 = 2 then .mk 4 (chanL t) [] [labelL t] [] .z [stopL]
  else .mk 5 (chanL t) [] [labelL t, [100]] [] .z [stopL, stopL]
theorem threadL_hasL (t : Th) : hasL (threadL t) := by
  unfold threadL hasL
  split
  · simp [Pr.kind]
  · split
    · simp [Pr.kind]
    · split <;> simp [Pr.kind, Pr.labels]
theorem labelL_get (t : Th) : ([V.str [97], V.str [98], V.str [99]] : List V).getD ((t.label.toNat : Int) % 3).toNat V.undef = .str (labelL t) := by
  unfold labelL
  have h : t.label.toNat % 3 = 0 ∨ t.label.toNat % 3 = 1 ∨ t.label.toNat % 3 = 2 := by omega
  have e : ((t.label.toNat : Int) % 3).toNat = t.label.toNat % 3 := by omega
  rw [e]
  rcases h with h | h | h <;> rw [h] <;> rfl
theorem chanL_9 {t : Th} (h : (t.ch.toNat : Int) = 9) : chanL t = [120] := if_pos (UInt8.toNat.inj (by simpa using (show t.ch.toNat = 9 by omega)))
theorem chanL_n {t : Th} (h : ¬ (t.ch.toNat : Int) = 9) : chanL t = nameL t.ch.toNat t.p := if_neg fun h' => h (by rw [h']; rfl)
def thrL (l : List Th) (i : Nat) : List V := (l.take i).map fun t => encP (threadL t)
theorem thrL_zero (l : List Th) : thrL l 0 = [] := rfl
theorem thrL_succ {l : List Th} {i : Nat} (h : i < l.length) : thrL l (i + 1) = thrL l i ++ [encP (threadL l[i])] := by
  unfold thrL; rw [List.take_add_one, List.getElem?_eq_getElem h, List.map_append]; rfl
theorem thrL_len (l : List Th) (i : Nat) : (thrL l i).length ≤ i := by rw [thrL, List.length_map, List.length_take]; omega
theorem thrL_end (l : List Th) : thrL l l.length = (l.map threadL).map encP := by rw [thrL, List.take_length, List.map_map]; rfl
def zT : List V := [.int .i64 0, .int .i64 0, .str [], .int .i64 0, .sl [] none, .sl [] none]
theorem encT_z : (encT .z).cells = zT := by rw [Ty.z, encT_mk]; rfl
theorem stopL_enc : encP stopL = .agg [.int .i64 1, .str [], .str [], .sl [] none, .sl [] none, .int .i64 0, .int .i64 0, .str [], .int .i64 0, .sl [] none, .sl [] none, .sl [] none] := by rw [stopL, encP_mk, encT_z]; rfl
theorem thr0 {t : Th} (h : (t.kind.toNat : Int) % 4 = 0) {c : Str} (hc : chanL t = c) : encP (threadL t) = .agg [.int .i64 2, .str c, .str [], .sl [] none, .sl [.agg [.int .i64 2, .str [], .int .i64 1]] none, .int .i64 0, .int .i64 0, .str [], .int .i64 0, .sl [] none, .sl [] none, .sl [encP stopL] none] := by
  subst hc; rw [threadL, if_pos (by omega), encP_mk, encT_z]; rfl
theorem thr1 {t : Th} (h : (t.kind.toNat : Int) % 4 = 1) {c : Str} (hc : chanL t = c) : encP (threadL t) = .agg [.int .i64 3, .str c, .str [120], .sl [] none, .sl [] none, .int .i64 0, .int .i64 0, .str [], .int .i64 0, .sl [] none, .sl [] none, .sl [encP stopL] none] := by
  subst hc; rw [threadL, if_neg (by omega), if_pos (by omega), encP_mk, encT_z]; rfl
theorem thr2 {t : Th} (h : (t.kind.toNat : Int) % 4 = 2) {c : Str} (hc : chanL t = c) : encP (threadL t) = .agg [.int .i64 4, .str c, .str [], .sl [.str (labelL t)] none, .sl [] none, .int .i64 0, .int .i64 0, .str [], .int .i64 0, .sl [] none, .sl [] none, .sl [encP stopL] none] := by
  subst hc; rw [threadL, if_neg (by omega), if_neg (by omega), if_pos (by omega), encP_mk, encT_z]; rfl
theorem thr3 {t : Th} (h : (t.kind.toNat : Int) % 4 = 3) {c : Str} (hc : chanL t = c) : encP (threadL t) = .agg [.int .i64 5, .str c, .str [], .sl [.str (labelL t), .str [100]] none, .sl [] none, .int .i64 0, .int .i64 0, .str [], .int .i64 0, .sl [] none, .sl [] none, .sl [encP stopL, encP stopL] none] := by
  subst hc; rw [threadL, if_neg (by omega), if_neg (by omega), if_neg (by omega), encP_mk, encT_z]; rfl
end Go.Duo

namespace Go.Duo
open Go
theorem PB : (∀ (t : Ty) (l : List V), ((encT t).cells ++ l).take 6 = (encT t).cells) ∧
    (∀ (t : Ty) (l : List V), ((encT t).cells ++ l).drop 6 = l) ∧
    (∀ (t : Ty) (l : List V), ((encT t).cells ++ l).length = l.length + 6) ∧
    (∀ (t : Ty) (l : List V), ((encT t).cells ++ l).all V.one = l.all V.one) ∧
    (∀ (t : Ty), (encT t).cells.take 6 = (encT t).cells) ∧
    (∀ (t : Ty), .agg (encT t).cells = encT t) ∧
    (∀ (t : Ty), (encT t).cells.length = 6) ∧
    (∀ (t : Ty), (encT t).cells.all V.one = true) ∧
    (∀ (p : Pr), (encP p).cells.take 12 = (encP p).cells) ∧
    (∀ (p : Pr), .agg (encP p).cells = encP p) ∧
    (∀ (p : Pr), (encP p).cells.length = 12) ∧
    (∀ (p : Pr), (encP p).cells.all V.one = true) ∧
    (∀ (p : Pr) (n : Nat), ((encP p).cells.drop n).length = 12 - n) ∧
    (∀ (p : Pr) (u : V), (encP p).cells.headD u = .int .i64 p.kind) ∧
    (∀ (p : Pr) (u : V), ((encP p).cells.drop 1).headD u = .str p.chan) ∧
    (∀ (p : Pr) (u : V), ((encP p).cells.drop 3).headD u = .sl (p.labels.map .str) none) ∧
    (∀ (s : Str), epV s = .tuple [.int .i64 (epK s), .bool (epP s), .bool (epO s)]) ∧
    (∀ (s : Str), dualV s = .tuple [.str (dualN s), .bool (epO s)]) :=
  ⟨@take_T, @drop_T, @len_T, @all_T, @encT_take, @encT_cells, @encT_len, @encT_one, @encP_take, @encP_cells, @encP_len, @encP_one, @encP_dlen, @encP_f0, @encP_f1, @encP_f3, @epV_eq, @dualV_eq⟩
end Go.Duo
