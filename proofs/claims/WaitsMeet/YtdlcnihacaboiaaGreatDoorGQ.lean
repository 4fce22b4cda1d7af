/-
  A part of the proof.
-/
import Derived.Test.YtdlcnihacaboiaaGreatDoorGJ
set_option linter.all false
namespace Go.Duo
open Go
section
variable {P : Program} {gl : Nat → V} {r : Option Nat} {e : Env} {st : List O} {w w' : World} {s s' : S} {ops : Array Oper} {m : Nat}
theorem anyQ4 {S : Bool → List O} {q : Nat} {res : List (V × Option ((Nat → V) × O))} {n0 : Nat} {w0 : World} {s0 : Duo.S} (hok : anyOK ops m = true) (hqm : q < m) (as : List Nat) (has : ∀ i ∈ as, dep ops i q = true ∨ ∃ j ∈ as, dep ops i j = true) (hrl : res.length = m)
    (hat : ∀ (i : Nat) (o : Oper), (ops.toList.take m)[i]? = some o → ∃ v u, res[i]? = some (v, u) ∧ (envOf ((ops.toList.take m).take i) (res.take i) e).fits o.dst ∧ (u.isSome = true → o.dst.isSome = true) ∧
      ∀ b, (b = true → i ≠ q ∧ dep ops q i = false) → (b = false → i ∉ as) → OpB2 P gl r ops o (envOf ((ops.toList.take m).take i) (res.take i) e) (S b) (S (b || decide (i = q))) v u)
    (hn0 : n0 ≤ w0.heap.size) (hlen0 : s0.st.length ≤ (S true).length) (hwf0 : s0.g.length = s0.st.length) {Q : Exit → Act → World → Prop}
    (hfin : ∀ a w s, Sim P gl w s → Evolve w0 s0 w s → ActOK w s n0 (applyUps (upsOf (ops.toList.take m) res) (envOf (ops.toList.take m) res e) (S true)).1 a → s.st = (applyUps (upsOf (ops.toList.take m) res) (envOf (ops.toList.take m) res e) (S true)).2 → wpOpsIn (Fr r) 0 P ops Q (List.range' m (ops.size - m)) a w) :
    ∀ (fuel : Nat) (L : Array Bool) (a : Act) (w : World) (s : Duo.S) (B : Nat → Nat), InvQ S q P gl ops m res e n0 w0 s0 L a w s B → L.count false ≤ fuel → wpAnyIn (Fr r) 0 P .any ops Q fuel L a w := by
  obtain ⟨hm, hdown, hlook, hdst, hrest⟩ := anyOK_spec hok
  have hl : (ops.toList.take m).length = m := by simp; omega
  have hget : ∀ i, i < m → (ops.toList.take m)[i]? = ops[i]? := fun i hi => by rw [List.getElem?_take_of_lt hi]; simp
  -- what a temporary holds behind the first i, one behind the other
  have henv : ∀ (i : Nat) (t : Tmp), i ≤ m → ((∀ j, j < m → dstAt ops j ≠ some t) → (envOf ((ops.toList.take m).take i) (res.take i) e).get t = e.get t) ∧
      ∀ j v u, j < i → dstAt ops j = some t → res[j]? = some (v, u) → (envOf ((ops.toList.take m).take i) (res.take i) e).get t = v := fun i t hi => by
    have hg : ∀ k o, ((ops.toList.take m).take i)[k]? = some o → k < i ∧ dstAt ops k = o.dst := fun k o hk => by
      have hki : k < i := by
        have := (List.getElem?_eq_some_iff.1 hk).1
        simp at this
        omega
      rw [List.getElem?_take_of_lt hki, hget k (by omega)] at hk
      exact ⟨hki, by simp [dstAt, hk]⟩
    refine ⟨fun h => envOf_other _ _ _ _ fun k o hk he => ?_, fun j v u hj hd hr => ?_⟩
    · obtain ⟨h1, h2⟩ := hg k o hk
      exact h k (by omega) (h2.trans he)
    · have hjs : j < ops.size := by omega
      refine envOf_at _ _ _ _ j ops[j] v u (by rw [List.getElem?_take_of_lt hj, hget j (by omega)]; exact Array.getElem?_eq_getElem hjs) (by rw [List.getElem?_take_of_lt hj]; exact hr) (by simpa [dstAt, hjs] using hd) fun k o hk ho he => ?_
      obtain ⟨h1, h2⟩ := hg k o ho
      have := hdst j k t (by omega) (by omega) hd (h2.trans he)
      omega
  -- the end of the first phase
  have hdone : ∀ (fuel : Nat) (L : Array Bool) (a : Act) (w : World) (s : Duo.S) (B : Nat → Nat), InvQ S q P gl ops m res e n0 w0 s0 L a w s B → L.count false ≤ fuel → (∀ j, j < m → L.getD j false = true) → wpAnyIn (Fr r) 0 P .any ops Q fuel L a w := fun fuel L a w s B hI hf hall => by
    have hA : ActOK w s n0 (envOf (ops.toList.take m) res e) a := by
      refine ⟨by rw [envOf_n]; exact hI.n, fun t => ?_, hI.marks⟩
      obtain ⟨g1, g2⟩ := henv m t (Nat.le_refl _)
      have t1 : (ops.toList.take m).take m = ops.toList.take m := List.take_of_length_le (by omega)
      have t2 : res.take m = res := List.take_of_length_le (by omega)
      rw [t1, t2] at g1 g2
      by_cases hex : ∃ j, j < m ∧ dstAt ops j = some t
      · obtain ⟨j, hj, hd⟩ := hex
        obtain ⟨v, u, hr, _⟩ := hat j (ops[j]'(by omega)) (by rw [hget j hj]; exact Array.getElem?_eq_getElem _)
        rw [g2 j v u hj hd hr]
        exact (hI.new j t v u (hall j hj) hd hr).1
      · rw [g1 fun j hj hd => hex ⟨j, hj, hd⟩]
        exact hI.old t fun j hj hd => hex ⟨j, hj, hd⟩
    obtain ⟨bs, q1, q2, _, q4⟩ := ups_blocks (P := P) (w := w) (s := s) (w0 := w0) (a := a) (B := B) (ops.toList.take m) res 0 (fun j o v f ob d ho hr hd => by
      have hj : j < m := by have := (List.getElem?_eq_some_iff.1 ho).1; omega
      rw [hget j hj] at ho
      have := (hI.new j d v (some (f, ob)) (hall j hj) (by simp [dstAt, ho, hd]) hr).2 f ob rfl
      simpa using this) (fun j j' v v' fo fo' hr hr' he => by
      have hj : j < m := by have := (List.getElem?_eq_some_iff.1 hr).1; omega
      have hj' : j' < m := by have := (List.getElem?_eq_some_iff.1 hr').1; omega
      exact hI.inj j j' v v' fo fo' (hall j hj) (hall j' hj') hr hr' (by simpa using he))
    have hstE : s.st = S true := by rw [hI.st, hall q hqm]
    have hlen1 : s0.st.length ≤ s.st.length := by rw [hstE]; exact hlen0
    obtain ⟨s', k1, k2, k3, k4⟩ := register (upsOf (ops.toList.take m) res) bs s _ hI.sim hI.ev hlen1 hA q1 q2 q4
    rw [hstE] at k3 k4
    refine chain (m := m) (fun i hi hmi => (hrest (by omega)).2 i hi hmi) hdown (ops.size - m) m (by omega) (Nat.le_refl _) fuel L a w hI.closed.1 (fun i hi => ⟨fun h => hI.pre i h, fun h => hall i h⟩) hf (hfin a w s' k1 k2 k3 k4)
  intro fuel
  induction fuel with
  | zero =>
    intro L a w s B hI hf
    refine hdone 0 L a w s B hI hf fun j hj => ?_
    cases hx : L.getD j false with
    | true => rfl
    | false =>
      have := count_set (L := L) (i := j) (by rw [hI.closed.1]; omega) hx
      omega
  | succ fuel ih =>
    intro L a w s B hI hf
    by_cases hall : ∀ j, j < m → L.getD j false = true
    · exact hdone _ L a w s B hI hf hall
    · -- some operation of the first phase is ready
      have hsize := hI.closed.1
      have hmin : ∃ j, j < m ∧ j ∈ Region.ready .any ops L := by
        have hex : ∃ j, j < m ∧ L.getD j false = false := by
          apply Classical.byContradiction
          intro hno
          refine hall fun j hj => ?_
          cases hx : L.getD j false with
          | true => rfl
          | false => exact absurd ⟨j, hj, hx⟩ hno
        obtain ⟨j, hj⟩ := hex
        induction j using Nat.strongRecOn with
        | _ j ihj =>
          by_cases hd : ∃ i, i < j ∧ L.getD i false = false
          · obtain ⟨i, hi, hx⟩ := hd
            exact ihj i hi ⟨by omega, hx⟩
          · refine ⟨j, hj.1, (ready_spec hsize).2 ⟨by omega, hj.2, fun i hdep => ?_⟩⟩
            cases hx : L.getD i false with
            | true => rfl
            | false => exact absurd ⟨i, hdown j i hdep, hx⟩ hd
      obtain ⟨j0, _, hj0⟩ := hmin
      refine ⟨fun h0 => by rw [h0] at hj0; simp at hj0, fun i hi => ?_⟩
      obtain ⟨hilt, hifalse, hideps⟩ := (ready_spec hsize).1 hi
      have him : i < m := by
        apply Classical.byContradiction
        intro hge
        by_cases heq : i = m
        · subst heq
          refine hall fun j hj => ?_
          obtain ⟨hsucc, _⟩ := hrest hilt
          have key : ∀ d j, j < i → i - j = d → L.getD j false = true := by
            intro d
            induction d using Nat.strongRecOn with
            | _ d ihd =>
              intro j hj hd
              obtain ⟨j', h1, h2, h3⟩ := hsucc j hj
              by_cases hj' : j' = i
              · subst hj'; exact hideps j h3
              · exact hI.closed.2 j' j (ihd (i - j') (by omega) j' (by omega) rfl) h3
          exact key _ j hj rfl
        · have := hideps _ ((hrest (by omega)).2 i hilt (by omega))
          have := hI.pre _ this
          omega
      have hoi : ops[i]? = some ops[i] := Array.getElem?_eq_getElem hilt
      obtain ⟨v, u, hres, hfit, hud, hB⟩ := hat i ops[i] (by rw [hget i him]; exact hoi)
      -- what the operation looks at is known
      have hA : ActOK w s n0 ⟨e.n, ((ops[i]).looksAt ops).map fun t => (t, (envOf ((ops.toList.take m).take i) (res.take i) e).get t)⟩ a := by
        refine ⟨hI.n, fun t => ?_, hI.marks⟩
        show Rep w s (getM _ t) _
        rw [getM_map (fun t => (envOf ((ops.toList.take m).take i) (res.take i) e).get t)]
        split
        · rename_i hlk
          obtain ⟨g1, g2⟩ := henv i t (by omega)
          by_cases hex : ∃ j, j < m ∧ dstAt ops j = some t
          · obtain ⟨j, hj, hd⟩ := hex
            have hdep := hlook i j _ t him hj hoi hlk hd
            obtain ⟨vj, uj, hrj, _⟩ := hat j (ops[j]'(by omega)) (by rw [hget j hj]; exact Array.getElem?_eq_getElem _)
            rw [g2 j vj uj (hdown i j hdep) hd hrj]
            exact (hI.new j t vj uj (hideps j hdep) hd hrj).1
          · rw [g1 fun j hj hd => hex ⟨j, hj, hd⟩]
            exact hI.old t fun j hj hd => hex ⟨j, hj, hd⟩
        · exact .undef _
      have hbq : L.getD q false = true → i ≠ q ∧ dep ops q i = false := fun hb => by
        refine ⟨fun he => absurd hb (by subst he; rw [hifalse]; simp), ?_⟩
        cases hd : dep ops q i with
        | false => rfl
        | true => have := hI.closed.2 q i hb hd; rw [hifalse] at this; cases this
      have hbq2 : L.getD q false = false → i ∉ as := fun hb hia => by
        have key : ∀ j, j ∈ as → L.getD j false = true → L.getD q false = true := by
          intro j
          induction j using Nat.strongRecOn with
          | _ j ihj =>
            intro hja hjL
            rcases has j hja with h | ⟨k, hk, h⟩
            · exact hI.closed.2 j q hjL h
            · exact ihj k (hdown j k h) hk (hI.closed.2 j k hjL h)
        rcases has i hia with h | ⟨k, hk, h⟩
        · rw [hideps q h] at hb; cases hb
        · rw [key k hk (hideps k h)] at hb; cases hb
      have hstep := hB (L.getD q false) hbq hbq2 ⟨e.n, ((ops[i]).looksAt ops).map fun t => (t, (envOf ((ops.toList.take m).take i) (res.take i) e).get t)⟩ (fun t ht => by show getM _ t = _; rw [getM_map (fun t => (envOf ((ops.toList.take m).take i) (res.take i) e).get t), if_pos ht]) n0 w s a
        (wpAnyIn (Fr r) 0 P .any ops Q fuel (L.setIfInBounds i true)) Q (Nat.le_trans hn0 hI.ev.size) hI.st hI.sim hA (fun x w' s' k1 k2 k3 k4 k5 => ?_)
      · unfold wpOpIn
        rw [hoi]
        exact hstep
      · have hcs := count_set (L := L) (i := i) (by omega) hifalse
        have hwf := hI.sim.wf
        -- the block of what has come
        obtain ⟨bn, hbn⟩ : ∃ bn, ∀ f o, u = some (f, o) → w.heap.size ≤ bn ∧ Pend P w' s' f o x bn := by
          cases u with
          | none => exact ⟨0, by simp⟩
          | some fo =>
            obtain ⟨f, o⟩ := fo
            obtain ⟨bn, h1, h2⟩ := k5 f o rfl
            exact ⟨bn, fun f' o' he => by simp only [Option.some.injEq, Prod.mk.injEq] at he; obtain ⟨rfl, rfl⟩ := he; exact ⟨h1, h2⟩⟩
        have hdi : ∀ j t, j < m → j ≠ i → dstAt ops j = some t → (ops[i]).dst ≠ some t := fun j t hj hne hd he => hne (hdst j i t hj him hd (by simp [dstAt, hilt, he]))
        refine ih _ (a.put (ops[i]).dst x) w' s' (fun j => if j = i then bn else B j) ⟨hI.closed.set hi, fun j hj => ?_, k3.trans (by rw [getD_set (by omega)]; by_cases hiq : i = q <;> simp [hiq]), k1, hI.ev.trans hwf0 hI.sim.len k2, by rw [put_size]; exact hI.n, by rw [put_defers]; exact hI.marks.evolve k2 hwf, fun t ht => ?_, fun j t vj uj hL hd hrj => ?_, fun j j' v1 v2 fo fo' hL hL' hr hr' hBe => ?_⟩ (by omega)
        · rw [getD_set (by omega)] at hj
          split at hj
          · rename_i he; subst he; exact him
          · exact hI.pre j hj
        · rw [put_other (fun he => ht i him (by simp [dstAt, hilt, he]))]
          exact (hI.old t ht).evolve k2 hwf
        · rw [getD_set (by omega)] at hL
          by_cases hji : j = i
          · subst hji
            rw [hres] at hrj
            simp only [Option.some.injEq, Prod.mk.injEq] at hrj
            obtain ⟨rfl, rfl⟩ := hrj
            have hd' : (ops[j]).dst = some t := by simpa [dstAt, hilt] using hd
            have hlt : t < a.tmps.size := by
              rw [hd'] at hfit
              have h1 : t < (envOf ((ops.toList.take m).take j) (res.take j) e).n := hfit
              rw [envOf_n] at h1
              exact Nat.lt_of_lt_of_le h1 hI.n
            rw [hd', put_same hlt]
            refine ⟨k4, fun f o hu => ?_⟩
            rw [if_pos rfl]
            obtain ⟨h1, h2⟩ := hbn f o hu
            exact ⟨Nat.le_trans hI.ev.size h1, h2⟩
          · rw [if_neg (fun he => hji he.symm)] at hL
            have hjm := hI.pre j hL
            rw [put_other (hdi j t hjm hji hd)]
            obtain ⟨h1, h2⟩ := hI.new j t vj uj hL hd hrj
            refine ⟨h1.evolve k2 hwf, fun f o hu => ?_⟩
            rw [if_neg hji]
            obtain ⟨h3, h4⟩ := h2 f o hu
            exact ⟨h3, h4.evolve hI.sim k2⟩
        · rw [getD_set (by omega)] at hL hL'
          have hlt : ∀ j v fo, j ≠ i → L.getD j false = true → res[j]? = some (v, some fo) → B j < w.heap.size := fun j v fo hji hL hr => by
            have hjm := hI.pre j hL
            obtain ⟨v', u', hr', _, hud', _⟩ := hat j (ops[j]'(by omega)) (by rw [hget j hjm]; exact Array.getElem?_eq_getElem _)
            rw [hr] at hr'
            simp only [Option.some.injEq, Prod.mk.injEq] at hr'
            obtain ⟨rfl, rfl⟩ := hr'
            obtain ⟨d, hd⟩ := Option.isSome_iff_exists.1 (hud' rfl)
            obtain ⟨_, h2⟩ := hI.new j d v (some fo) hL (by simp [dstAt, show j < ops.size by omega, hd]) hr
            obtain ⟨_, _, _, h3, _⟩ := (h2 fo.1 fo.2 rfl).2
            exact h3
          have hnew : ∀ v fo, res[i]? = some (v, some fo) → w.heap.size ≤ bn := fun v' fo hr => by
            rw [hres] at hr
            simp only [Option.some.injEq, Prod.mk.injEq] at hr
            exact (hbn fo.1 fo.2 hr.2).1
          by_cases h1 : j = i
          · by_cases h2 : j' = i
            · omega
            · subst h1
              rw [if_pos rfl, if_neg h2] at hBe
              rw [if_neg (fun he => h2 he.symm)] at hL'
              have := hlt j' v2 fo' h2 hL' hr'
              have := hnew v1 fo hr
              omega
          · rw [if_neg (fun he => h1 he.symm)] at hL
            by_cases h2 : j' = i
            · subst h2
              rw [if_neg h1, if_pos rfl] at hBe
              have := hlt j v1 fo h1 hL hr
              have := hnew v2 fo' hr'
              omega
            · rw [if_neg h1, if_neg h2] at hBe
              rw [if_neg (fun he => h2 he.symm)] at hL'
              exact hI.inj j j' v1 v2 fo fo' hL hL' hr hr' hBe
theorem envOf_app : ∀ (l l2 : List Oper) (res res2 : List (V × Option ((Nat → V) × O))) (e : Env), l.length = res.length → envOf (l ++ l2) (res ++ res2) e = envOf l2 res2 (envOf l res e) ∧ upsOf (l ++ l2) (res ++ res2) = upsOf l res ++ upsOf l2 res2 := by
  intro l
  induction l with
  | nil => intro l2 res res2 e h; cases res with
    | nil => exact ⟨rfl, rfl⟩
    | cons => simp at h
  | cons o l ih =>
    intro l2 res res2 e h
    cases res with
    | nil => simp at h
    | cons p res =>
      obtain ⟨v, u⟩ := p
      simp only [List.cons_append, envOf, upsOf]
      obtain ⟨h1, h2⟩ := ih l2 res res2 (e.put o.dst v) (by simpa using h)
      exact ⟨h1, by rw [h2, List.append_assoc]⟩
/-- ls: what may come ahead of the call and behind it; as: what comes behind it alone. -/
def callOK (ops : Array Oper) (m q : Nat) (ls as : List Nat) : Bool :=
  (List.range q).all (fun i => dep ops q i || ls.contains i) && (List.range m).all (fun i => decide (i ≤ q) || as.contains i) && as.all (fun i => dep ops i q || as.any fun j => dep ops i j)
/-- **A region that draws its order, with a call among the first.** q: the call. -/
theorem AW.anyC {id : Nat} {Q : Exit → Env → List O → Prop} (hfol : P.follows .mixedOrders = true) (m q : Nat) (ls as : List Nat) (oq : Oper) (hok : anyOK ops m = true) (hqm : q < m) (hoq0 : ops.toList[q]? = some oq) (hg : oq.guard = none) (hls : callOK ops m q ls as = true)
    (h : awA P gl ops (ops.toList.take q) e st [] fun e1 s1 => s1 = st ∧ e1.fits oq.dst ∧ ∃ vq st', step1 P gl (e1.ev gl) st oq.op (fun v s2 => v = vq ∧ s2 = st') ∧ st.length ≤ st'.length ∧ awS P gl ops e1 st' ls ∧
      awA P gl ops ((ops.toList.take m).drop (q + 1)) (e1.put oq.dst vq) st' [] fun e2 s2 => awL P gl ops (ops.toList.drop m) e2 s2 (Q .normal)) : AW P gl r (.region id ops true) Q e st := fun n0 w s a hn hst hs ha => by
  have hoq : ops[q]? = some oq := by simpa using hoq0
  refine wpIn_region_any hfol ?_
  have hE0 := Evolve.drawn (w := w) hs.wf (w.drawn + 1)
  have hS0 := hs.drawn (w.drawn + 1)
  have hA0 := ha.evolve hE0 hs.wf
  simp only [callOK, Bool.and_eq_true, List.all_eq_true, List.mem_range, Bool.or_eq_true, decide_eq_true_eq, List.contains_iff_mem, List.any_eq_true] at hls
  obtain ⟨⟨hl1, hl2⟩, hl3⟩ := hls
  obtain ⟨res1, hrun1, hK⟩ := awA_run (r := r) _ _ _ h
  rw [List.nil_append] at hK
  obtain ⟨hm, hdown, hlook, hdstu, hrest0⟩ := anyOK_spec hok
  obtain ⟨hs1, hfq, vq, st', hst', hlen', hS, hA2⟩ := hK
  have hups1 : upsOf (ops.toList.take q) res1 = [] := by
    have := congrArg List.length hs1
    rw [applyUps_len] at this
    exact List.length_eq_zero_iff.1 (by omega)
  rw [hups1] at hst' hS hA2 hfq
  simp only [applyUps] at hst' hS hA2 hfq
  obtain ⟨res2, hrun2, hrest⟩ := awA_run (r := r) _ _ _ hA2
  rw [List.nil_append] at hrest
  obtain ⟨hlen1, hat1⟩ := runA_at _ _ _ hrun1
  obtain ⟨hlen2, hat2⟩ := runA_at _ _ _ hrun2
  have hqs : q < ops.size := by omega
  have hlq : (ops.toList.take q).length = q := by simp; omega
  have hl : ops.toList.take m = ops.toList.take q ++ (oq :: (ops.toList.take m).drop (q + 1)) := by
    have h1 : (ops.toList.take m)[q]'(by simp; omega) = oq := by
      have := (List.getElem?_eq_some_iff.1 hoq0).2
      rw [List.getElem_take]
      exact this
    have h2 := (List.take_append_drop q (ops.toList.take m)).symm
    rw [List.take_take, Nat.min_eq_left (by omega), List.drop_eq_getElem_cons (by simp; omega), h1] at h2
    exact h2
  have hrl : (res1 ++ ((vq, none) :: res2)).length = m := by
    have := congrArg List.length hl
    simp only [List.length_append, List.length_cons, List.length_take, Array.length_toList] at this hlen1 hlen2 ⊢
    omega
  have hres1 : ∀ i, i < q → (res1 ++ ((vq, none) :: res2))[i]? = res1[i]? := fun i hi => List.getElem?_append_left (by omega)
  have hresq : (res1 ++ ((vq, none) :: res2))[q]? = some (vq, none) := by
    rw [List.getElem?_append_right (by omega), show q - res1.length = 0 by omega]; rfl
  have hres2 : ∀ k, (res1 ++ ((vq, none) :: res2))[q + 1 + k]? = res2[k]? := fun k => by
    rw [List.getElem?_append_right (by omega), show q + 1 + k - res1.length = k + 1 by omega]; rfl
  have htk1 : ∀ i, i ≤ q → (ops.toList.take m).take i = (ops.toList.take q).take i ∧ (res1 ++ ((vq, none) :: res2)).take i = res1.take i := fun i hi => by
    refine ⟨by rw [List.take_take, List.take_take, Nat.min_eq_left (by omega), Nat.min_eq_left hi], List.take_append_of_le_length (by omega)⟩
  have hag : ∀ {i : Nat} {o : Oper} {t : Tmp}, i < m → ops[i]? = some o → t ∈ o.looksAt ops → (envOf (ops.toList.take m) (res1 ++ ((vq, none) :: res2)) e).get t = (envOf ((ops.toList.take m).take i) ((res1 ++ ((vq, none) :: res2)).take i) e).get t := fun hi ho ht => env_agree (e := e) hok hrl hi ho ht
  have hend := envOf_app (ops.toList.take q) (oq :: (ops.toList.take m).drop (q + 1)) res1 ((vq, none) :: res2) e (by omega)
  rw [← hl] at hend
  have hL0 : (Array.replicate ops.size false).getD q false = false := by
    simp only [Array.getD_eq_getD_getElem?, Array.getElem?_replicate]
    split <;> rfl
  refine anyQ4 (S := fun b => if b then st' else st) (q := q) (res := res1 ++ ((vq, none) :: res2)) (Q := fun x a' w' => ∃ e' s', Sim P gl w' s' ∧ Evolve w s w' s' ∧ ActOK w' s' n0 e' a' ∧ Q x e' s'.st) hok hqm as (fun i hi => (hl3 i hi).imp (fun h => h) fun ⟨j, h1, h2⟩ => ⟨j, h1, h2⟩) hrl (fun i o hio => ?_) (w0 := { w with drawn := w.drawn + 1 }) (s0 := s) hn (by rw [hst]; exact hlen') hs.len (fun a' w' s' k1 k2 k3 k4 => ?_) ops.size _ a _ s (fun _ => 0)
    ⟨⟨by simp, fun i j hi => ?_⟩, fun i hi => ?_, (by rw [hL0]; exact hst), hS0, Evolve.refl hS0.wf, hA0.n, hA0.marks, fun t _ => hA0.get t, fun j t v u hL => ?_, fun j j' v v' fo fo' hL => ?_⟩ (by simp [Array.count_replicate])
  · -- each operation
    have him : i < m := by have := (List.getElem?_eq_some_iff.1 hio).1; simp at this; omega
    have hoi : ops[i]? = some o := by rw [List.getElem?_take_of_lt him] at hio; simpa using hio
    rcases Nat.lt_trichotomy i q with hiq | hiq | hiq
    · obtain ⟨v, u, hr0, hfit, hus, hB⟩ := hat1 i o (by rw [List.getElem?_take_of_lt hiq]; simpa using hoi)
      obtain ⟨t1, t2⟩ := htk1 i (by omega)
      refine ⟨v, u, (hres1 i hiq).trans hr0, by rw [t1, t2]; exact hfit, hus, fun b hb hb2 => ?_⟩
      rw [t1, t2]
      cases b with
      | false =>
        simp only [Bool.false_or, decide_eq_false (Nat.ne_of_lt hiq), Bool.false_eq_true, if_false]
        exact hB
      | true =>
        have hin : i ∈ ls := by
          rcases hl1 i hiq with h | h
          · rw [(hb rfl).2] at h; cases h
          · exact h
        obtain ⟨o', d, ho', hg', hd', hA⟩ := awS_mem hS i hin
        rw [hoi] at ho'
        simp only [Option.some.injEq] at ho'
        subst ho'
        have hu : u = none := upsOf_nil _ _ hups1 i o v u (by rw [List.getElem?_take_of_lt hiq]; simpa using hoi) hr0 (by rw [hd']; rfl)
        subst hu
        obtain ⟨v1, u1, ⟨hv1, hu1⟩, hB'⟩ := stepA_full (r := r) hA
        subst hu1
        have hv : v1 = v := by
          rw [hv1]
          have hno : ∀ (k : Nat) (o' : Oper), i < k → (ops.toList.take q)[k]? = some o' → o'.dst ≠ some d := fun k o' hk ho'' he => by
            have hkq : k < q := by have := (List.getElem?_eq_some_iff.1 ho'').1; omega
            rw [List.getElem?_take_of_lt hkq] at ho''
            have := hdstu i k d him (by omega) (by simp [dstAt, hoi, hd']) (by simp [dstAt, (show ops[k]? = some o' by simpa using ho''), he])
            omega
          exact envOf_at _ _ _ _ i o v none (by rw [List.getElem?_take_of_lt hiq]; simpa using hoi) hr0 hd' hno
        subst hv
        simp only [Bool.true_or, if_true]
        intro e' he n0' w1 s1 a1 next Q1 hn1 hst1 hs1' ha1 hk1
        rw [if_pos (by simp [Region.wanted, hg'])]
        refine hB' e' (fun x hx => ?_) n0' w1 s1 a1 next Q1 hn1 hst1 hs1' ha1 hk1
        cases x with
        | tmp t =>
          have ht : t ∈ o.looksAt ops := List.mem_append_left _ (List.mem_filterMap.2 ⟨.tmp t, by simpa using hx, rfl⟩)
          have e1 := he t ht
          show (envOf (ops.toList.take q) res1 e).get t = e'.get t
          rw [e1]
          -- what it looks at comes ahead of it
          have hno : ∀ (j : Nat) (o' : Oper), (ops.toList.take q)[j]? = some o' → o'.dst = some t → j < i := fun j o' hj hd => by
            have hjq : j < q := by have := (List.getElem?_eq_some_iff.1 hj).1; omega
            rw [List.getElem?_take_of_lt hjq] at hj
            exact hdown i j (hlook i j o t him (by omega) hoi ht (by simp [dstAt, (show ops[j]? = some o' by simpa using hj), hd]))
          by_cases hex : ∃ j, j < i ∧ dstAt ops j = some t
          · obtain ⟨j, hj, hd⟩ := hex
            obtain ⟨vj, uj, hrj⟩ : ∃ vj uj, res1[j]? = some (vj, uj) := ⟨(res1[j]'(by omega)).1, (res1[j]'(by omega)).2, List.getElem?_eq_getElem _⟩
            have hoj : ops[j]? = some (ops[j]'(by omega)) := Array.getElem?_eq_getElem _
            have hdj : (ops[j]'(by omega)).dst = some t := by simpa [dstAt, hoj] using hd
            have hnu : ∀ (k : Nat) (o' : Oper), j < k → (ops.toList.take q)[k]? = some o' → o'.dst ≠ some t := fun k o' hk ho'' he => by
              have hkq : k < q := by have := (List.getElem?_eq_some_iff.1 ho'').1; omega
              rw [List.getElem?_take_of_lt hkq] at ho''
              have := hdstu j k t (by omega) (by omega) hd (by simp [dstAt, (show ops[k]? = some o' by simpa using ho''), he])
              omega
            rw [envOf_at _ _ _ _ j _ vj uj (by rw [List.getElem?_take_of_lt (by omega)]; simpa using hoj) hrj hdj hnu,
              envOf_at _ _ _ _ j _ vj uj (by rw [List.getElem?_take_of_lt hj, List.getElem?_take_of_lt (by omega)]; simpa using hoj) (by rw [List.getElem?_take_of_lt hj]; exact hrj) hdj fun k o' hk ho' => by
                have hki : k < i := by have := (List.getElem?_eq_some_iff.1 ho').1; simp at this; omega
                rw [List.getElem?_take_of_lt hki] at ho'
                exact hnu k o' hk ho']
          · rw [envOf_other _ _ _ _ (fun k o' ho' hd => by
              have hki := hno k o' ho' hd
              have hkq : k < q := by have := (List.getElem?_eq_some_iff.1 ho').1; omega
              rw [List.getElem?_take_of_lt hkq] at ho'
              exact hex ⟨k, hki, by simp [dstAt, (show ops[k]? = some o' by simpa using ho'), hd]⟩),
              envOf_other _ _ _ _ (fun k o' ho' hd => by
              have hki : k < i := by have := (List.getElem?_eq_some_iff.1 ho').1; simp at this; omega
              rw [List.getElem?_take_of_lt hki, List.getElem?_take_of_lt (by omega)] at ho'
              exact hex ⟨k, hki, by simp [dstAt, (show ops[k]? = some o' by simpa using ho'), hd]⟩)]
        | _ => rfl
    · subst hiq
      have ho : o = oq := by rw [hoq] at hoi; cases hoi; rfl
      subst ho
      obtain ⟨t1, t2⟩ := htk1 i (Nat.le_refl _)
      replace t1 : (ops.toList.take m).take i = ops.toList.take i := t1.trans (by rw [List.take_take, Nat.min_self])
      have t3 : res1.take i = res1 := List.take_of_length_le (by omega)
      rw [t3] at t2
      rw [t1, t2]
      refine ⟨vq, none, hresq, hfq, by simp, fun b hb hb2 => ?_⟩
      cases b with
      | true => exact absurd rfl (hb rfl).1
      | false =>
        simp only [Bool.false_or, decide_true, if_true, Bool.false_eq_true, if_false]
        intro e' he n0' w1 s1 a1 next Q1 hn1 hst1 hs1' ha1 hk1
        rw [if_pos (by simp [Region.wanted, hg])]
        have hstep : step1 P gl (e'.ev gl) st o.op (fun v s2 => v = vq ∧ s2 = st') := step1_congr (fun x hx => by
          cases x with
          | tmp t =>
            have ht : t ∈ o.looksAt ops := List.mem_append_left _ (List.mem_filterMap.2 ⟨.tmp t, by simpa using hx, rfl⟩)
            exact (he t ht).symm
          | _ => rfl) hst'
        refine step1_sound hstep n0' w1 s1 a1 next Q1 hn1 hst1 hs1' ha1 fun v x w2 s2 j1 j2 j3 ⟨j4, j5⟩ => ?_
        subst j4
        exact hk1 x w2 s2 j1 j2 j5 j3 (by simp)
    · obtain ⟨k, rfl⟩ : ∃ k, i = q + 1 + k := ⟨i - (q + 1), by omega⟩
      obtain ⟨v, u, hr0, hfit, hus, hB⟩ := hat2 k o (by rw [List.getElem?_drop, List.getElem?_take_of_lt him]; simpa using hoi)
      have t1 : (ops.toList.take m).take (q + 1 + k) = ops.toList.take q ++ (oq :: ((ops.toList.take m).drop (q + 1)).take k) := by
        conv => lhs; rw [hl]
        rw [List.take_append, hlq, show q + 1 + k - q = k + 1 by omega, List.take_succ_cons, List.take_of_length_le (by omega)]
      have t2 : (res1 ++ ((vq, none) :: res2)).take (q + 1 + k) = res1 ++ ((vq, none) :: res2.take k) := by
        rw [List.take_append, show q + 1 + k - res1.length = k + 1 by omega, List.take_succ_cons, List.take_of_length_le (by omega)]
      have t3 := (envOf_app (ops.toList.take q) (oq :: ((ops.toList.take m).drop (q + 1)).take k) res1 ((vq, none) :: res2.take k) e (by omega)).1
      rw [t1, t2, t3]
      refine ⟨v, u, (hres2 k).trans hr0, hfit, hus, fun b hb hb2 => ?_⟩
      cases b with
      | false =>
        rcases hl2 _ him with h | h
        · omega
        · exact absurd h (hb2 rfl)
      | true =>
        simp only [Bool.true_or, if_true]
        exact hB
  · -- the end
    have hE := hE0.trans hs.len hs.len k2
    rw [hend.1, hend.2, hups1, List.nil_append] at k3 k4
    simp only [if_true, upsOf, upOf, envOf, List.nil_append] at k3 k4
    have hlen : (ops.toList.drop m).length = ops.size - m := by simp
    rw [← hlen]
    refine awL_sound (r := r) (ops.toList.drop m) m _ _ rfl hrest n0 w' s' a' _ (Nat.le_trans hn hE.size) k4 k1 k3 fun e'' s'' a'' w'' j1 j2 j3 j4 => ⟨e'', s'', j1, hE.trans hs.len k1.len j2, j3, j4⟩
  all_goals (exfalso; simp only [Array.getD_eq_getD_getElem?, Array.getElem?_replicate] at *)
  · split at hi <;> simp at hi
  · split at hi <;> simp at hi
  · split at hL <;> simp at hL
  · split at hL <;> simp at hL
end
end Go.Duo
