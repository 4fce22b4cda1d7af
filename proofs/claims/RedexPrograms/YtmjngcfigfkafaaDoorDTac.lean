/-
  A part of the proof.
-/
import Derived.Test.YtmjngcfigfkafaaDoorDReg
set_option linter.all false
namespace Go.Duo
open Go
section
variable {P : Program} {gl : Nat → V} {r : Option Nat} {e : Env} {st : List O} {Q : Exit → Env → List O → Prop} {x y : V}
/-- It fits, reckoned. -/
def fitB (e : Env) : Option Tmp → Bool
  | none => true
  | some d => Nat.blt d e.n
theorem fits_of {d : Option Tmp} (h : fitB e d = true) : e.fits d := by
  cases d with
  | none => trivial
  | some d => simpa [fitB, Env.fits] using h
theorem Call.body {k : FuncId} {fn : Func} {c : Code} {args : List V} {K : V → List O → Prop} (n : Nat) (m : List (Nat × V)) (hf : P.funcs[k]? = some fn) (hb : fn.body = some c) (he : env0 fn.ntmps args = ⟨n, m⟩)
    (h : AW P gl none c (fun x e' st' => (x = .normal ∨ x = .ret) ∧ resP P e' st' fn.results.toList fun vs => ∃ j v st'', st.length ≤ j ∧ V.le (trimS j st') ((resV vs).trim j) v ∧ StLe (trimS j st') st'' ∧ K v st'') ⟨n, m⟩ st) : Call P gl k args st K :=
  Call.of_body hf hb (he ▸ h)
theorem storeP_mono {K K' : List O → Prop} (hk : ∀ v, K v → K' v) {t : TypeId} (h : storeP P t st x y K) : storeP P t st x y K' := by
  unfold storeP at h ⊢
  cases hl : lay P t with
  | none => simp [hl] at h
  | some ng =>
    rw [hl] at h
    cases x <;> try exact h.elim
    · rename_i id off
      try simp only at h ⊢
      cases ho : st[id]? with
      | none => simp [ho] at h
      | some o =>
        rw [ho] at h
        cases o <;> try exact h.elim
        exact ⟨h.1, h.2.1, h.2.2.1, hk _ h.2.2.2⟩
    · rename_i id ver off
      try simp only at h ⊢
      cases ho : st[id]? with
      | none => simp [ho] at h
      | some o =>
        rw [ho] at h
        cases o <;> try exact h.elim
        exact ⟨h.1, h.2.1, h.2.2.1, h.2.2.2.1, h.2.2.2.2.1, h.2.2.2.2.2.1, h.2.2.2.2.2.2.1, hk _ h.2.2.2.2.2.2.2⟩
theorem makeP_mono {K K' : V → List O → Prop} (hk : ∀ v st', K v st' → K' v st') {t : TypeId} (h : makeP P t st x y K) : makeP P t st x y K' := by
  unfold makeP at h ⊢
  cases he : elt P t with
  | none => simp [he] at h
  | some a =>
    obtain ⟨e, sz, by_⟩ := a
    rw [he] at h
    simp only at h ⊢
    split at h
    · exact ⟨h.1, h.2.1, h.2.2.1, h.2.2.2.1, h.2.2.2.2.1, h.2.2.2.2.2.1, h.2.2.2.2.2.2.1, h.2.2.2.2.2.2.2.1, hk _ _ h.2.2.2.2.2.2.2.2⟩
    · exact h.elim
theorem buildSliceP_mono {K K' : V → List O → Prop} (hk : ∀ v st', K v st' → K' v st') {t : TypeId} {len : Nat} {ps : List (Nat × V)} (h : buildSliceP P t st len ps K) : buildSliceP P t st len ps K' := by
  unfold buildSliceP at h ⊢
  cases he : elt P t with
  | none => simp [he] at h
  | some o =>
    obtain ⟨e, sz, by_⟩ := o
    rw [he] at h
    simp only at h ⊢
    split at h
    · rw [if_pos (by assumption)]; exact hk _ _ h
    · rw [if_neg (by assumption)]; exact ⟨h.1, h.2.1, h.2.2.1, hk _ _ h.2.2.2⟩
theorem appendP_mono {K K' : V → List O → Prop} (hk : ∀ v st', K v st' → K' v st') {t : TypeId} (h : appendP P t st x y K) : appendP P t st x y K' := by
  unfold appendP at h ⊢
  cases he : elt P t with
  | none => simp [he] at h
  | some esb =>
    obtain ⟨e, sz, by_⟩ := esb
    cases hr : rowOf y with
    | none => simp [he, hr] at h
    | some es2 =>
      rw [he, hr] at h
      simp only at h ⊢
      cases x <;> try exact h.2.elim
      · rename_i es tk
        cases tk with
        | none => exact h.2.elim
        | some id =>
          simp only at h ⊢
          cases ho : st[id]? with
          | none => simp [ho] at h
          | some o =>
            rw [ho] at h
            cases o <;> try exact h.2.elim
            obtain ⟨h0, h1, h2, h3, h4, h5, h6⟩ := h
            exact ⟨h0, h1, h2, h3, h4, h5, hk _ _ h6⟩
      rotate_left
      · rename_i id ver
        simp only at h ⊢
        cases ho : st[id]? with
        | none => simp [ho] at h
        | some o =>
          rw [ho] at h
          cases o <;> try exact h.2.elim
          obtain ⟨h0, h1, h2, h3, h4, h5, h6⟩ := h
          exact ⟨h0, h1, h2, h3, h4, h5, hk _ _ h6⟩
      · obtain ⟨h0, h1, h2, h3 | ⟨k, v, h4, h5⟩⟩ := h
        · exact ⟨h0, h1, h2, .inl (hk _ _ h3)⟩
        · exact ⟨h0, h1, h2, .inr ⟨k, v, h4, hk _ _ h5⟩⟩
theorem Call.mono {k : FuncId} {args : List V} {K K' : V → List O → Prop} (h : Call P gl k args st K) (hk : ∀ v st', K v st' → K' v st') : Call P gl k args st K' := fun w s xs hst hs hxs =>
  CallsIn.mono (h w s xs hst hs hxs) fun _ _ ⟨v, x, s', h1, h2, h3, h4, h5⟩ => ⟨v, x, s', h1, h2, h3, h4, hk _ _ h5⟩
theorem step1_mono {ρ : Operand → V} {op : Op} {K K' : V → List O → Prop} (hk : ∀ v st', K v st' → K' v st') (h : step1 P gl ρ st op K) : step1 P gl ρ st op K' := by
  by_cases hc : calm op = true
  · obtain ⟨v, h1, h2⟩ := step1_det hc h
    exact h1 _ (hk _ _ h2)
  · cases op <;> simp only [calm, not_true_eq_false] at hc <;> simp only [step1] at h ⊢
    case store => exact storeP_mono (fun _ => hk _ _) h
    case makeSlice => exact makeP_mono hk h
    case box => exact ⟨h.1, hk _ _ h.2⟩
    case alloc t =>
      cases hz : zro P t with
      | none => simp [hz] at h
      | some z => rw [hz] at h; exact hk _ _ h
    case buildSlice => exact ⟨h.1, buildSliceP_mono hk h.2⟩
    case call c =>
      cases hcal : c.callee with
      | value f =>
        rw [hcal] at h
        simp only at h ⊢
        cases hf : ρ f <;> rw [hf] at h <;> try exact h.elim
        · rename_i fn fs cs
          cases fn <;> try exact h.elim
          exact ⟨h.1, Call.mono h.2 hk⟩
        · rename_i id
          simp only at h ⊢
          unfold yldP at h ⊢
          cases ho : st[id]? with
          | none => rw [ho] at h; exact h.elim
          | some o =>
            rw [ho] at h
            cases o with
            | yld xs i go =>
              cases go
              · exact h.elim
              · exact ⟨h.1, h.2.1, h.2.2.1, hk _ _ h.2.2.2.1, hk _ _ h.2.2.2.2⟩
            | _ => exact h.elim
      | invoke => rw [hcal] at h; exact h.elim
      | builtin b =>
        rw [hcal] at h hc
        cases b <;> simp only [not_true_eq_false] at hc <;> try exact h.elim
        simp only at h ⊢
        split at h
        · exact ⟨h.1, appendP_mono hk h.2⟩
        · exact h.elim
    all_goals exact h.elim
/-- One operation; what comes behind is hidden. -/
theorem awL_k {ops : Array Oper} {o : Oper} {rest : List Oper} {K : Env → List O → Prop} (hg : o.guard = none) (hf : fitB e o.dst = true) (h : ∀ K2 : V → List O → Prop, (∀ v st', awL P gl ops rest (e.put o.dst v) st' K → K2 v st') → step1 P gl (e.ev gl) st o.op K2) :
    awL P gl ops (o :: rest) e st K := by
  unfold awL
  refine ⟨fits_of hf, ?_⟩
  rw [hg]
  exact h _ fun _ _ h => h
theorem awL_kyes {ops : Array Oper} {o : Oper} {rest : List Oper} {K : Env → List O → Prop} {j d : Nat} {want : Bool} (hg : o.guard = some (j, want)) (hd : (ops[j]?).bind (·.dst) = some d) (hv : e.get d = .bool want) (hf : fitB e o.dst = true)
    (h : ∀ K2 : V → List O → Prop, (∀ v st', awL P gl ops rest (e.put o.dst v) st' K → K2 v st') → step1 P gl (e.ev gl) st o.op K2) : awL P gl ops (o :: rest) e st K := by
  unfold awL
  refine ⟨fits_of hf, ?_⟩
  rw [hg]
  have := h _ fun _ _ h => h
  simp only [hd]
  rw [hv]
  simp only [Split]
  cases want
  · refine ⟨fun h => (by cases h), fun _ => ?_⟩
    rw [if_neg (by simp)]; exact this
  · refine ⟨fun _ => ?_, fun h => (by cases h)⟩
    rw [if_pos rfl]; exact this
theorem awA_kyes {ops : Array Oper} {o : Oper} {rest : List Oper} {ups : List Up} {K : Env → List O → Prop} {j d : Nat} {want : Bool} (hg : o.guard = some (j, want)) (hd : (ops[j]?).bind (·.dst) = some d) (hv : e.get d = .bool want) (hf : fitB e o.dst = true)
    (h : ∀ K2 : V → Option ((Nat → V) × O) → Prop, (∀ v, awA P gl ops rest (e.put o.dst v) st ups K → K2 v none) → (∀ d v f ob, o.dst = some d → awA P gl ops rest (e.put o.dst v) st (ups ++ [(d, f, ob)]) K → K2 v (some (f, ob))) → stepA P gl (e.ev gl) st o.op K2) :
    awA P gl ops (o :: rest) e st ups K := by
  unfold awA
  refine ⟨fits_of hf, ?_⟩
  rw [hg]
  simp only [hd, hv, if_true]
  refine h _ (fun v hv => hv) (fun d v f ob hd hv => ?_)
  simp only [hd] at hv ⊢
  exact hv
theorem awL_no {ops : Array Oper} {o : Oper} {rest : List Oper} {K : Env → List O → Prop} {j d : Nat} {want : Bool} (hg : o.guard = some (j, want)) (hd : (ops[j]?).bind (·.dst) = some d) (hv : e.get d = .bool (!want)) (hf : fitB e o.dst = true)
    (k : awL P gl ops rest (e.put o.dst (.tuple [])) st K) : awL P gl ops (o :: rest) e st K := by
  unfold awL
  refine ⟨fits_of hf, ?_⟩
  rw [hg]
  simp only [hd]
  rw [hv]
  simp only [Split]
  cases want
  · refine ⟨fun _ => ?_, fun h => by cases h⟩
    rw [if_neg (by simp)]; exact k
  · refine ⟨fun h => (by cases h), fun _ => ?_⟩
    rw [if_pos rfl]; exact k
/-- The guard's own operation was passed over. -/
theorem awL_hole {ops : Array Oper} {o : Oper} {rest : List Oper} {K : Env → List O → Prop} {j d : Nat} {want : Bool} (hg : o.guard = some (j, want)) (hd : (ops[j]?).bind (·.dst) = some d) (hv : e.get d = .tuple []) (hf : fitB e o.dst = true)
    (k : awL P gl ops rest (e.put o.dst (.tuple [])) st K) : awL P gl ops (o :: rest) e st K := by
  unfold awL
  refine ⟨fits_of hf, ?_⟩
  rw [hg]
  simp only [hd]
  rw [hv]
  exact k
theorem awA_hole {ops : Array Oper} {o : Oper} {rest : List Oper} {ups : List Up} {K : Env → List O → Prop} {j d : Nat} {want : Bool} (hg : o.guard = some (j, want)) (hd : (ops[j]?).bind (·.dst) = some d) (hv : e.get d = .tuple []) (hf : fitB e o.dst = true)
    (k : awA P gl ops rest (e.put o.dst (.tuple [])) st ups K) : awA P gl ops (o :: rest) e st ups K := by
  unfold awA
  refine ⟨fits_of hf, ?_⟩
  rw [hg]
  simp only [hd]
  rw [hv]
  exact k
theorem awA_no {ops : Array Oper} {o : Oper} {rest : List Oper} {ups : List Up} {K : Env → List O → Prop} {j d : Nat} {want : Bool} (hg : o.guard = some (j, want)) (hd : (ops[j]?).bind (·.dst) = some d) (hv : e.get d = .bool (!want)) (hf : fitB e o.dst = true)
    (k : awA P gl ops rest (e.put o.dst (.tuple [])) st ups K) : awA P gl ops (o :: rest) e st ups K := by
  unfold awA
  refine ⟨fits_of hf, ?_⟩
  rw [hg]
  simp only [hd, hv]
  rw [if_neg (by cases want <;> simp)]
  exact k
/-- What comes behind is hidden while a piece of code is walked. -/
theorem AW.seqK {x y : Code} (h : ∀ K' : Env → List O → Prop, (∀ e st, AW P gl r y Q e st → K' e st) → AW P gl r x (thenQ K' Q) e st) : AW P gl r (.seq x y) Q e st := .seq (h _ fun _ _ h => h)
theorem AW.condK {c : Operand} {x y : Code} (b : Bool) (hc : e.ev gl c = .bool b) (hx : b = true → AW P gl r x Q e st) (hy : b = false → AW P gl r y Q e st) : AW P gl r (.cond c x y) Q e st := .cond hc hx hy
theorem awA_c {ops : Array Oper} {o : Oper} {rest : List Oper} {ups : List Up} {K : Env → List O → Prop} (hg : o.guard = none) (hc : calm o.op = true) (hf : fitB e o.dst = true)
    (h : ∀ K2 : V → List O → Prop, (∀ v st', st' = st → awA P gl ops rest (e.put o.dst v) st ups K → K2 v st') → step1 P gl (e.ev gl) st o.op K2) : awA P gl ops (o :: rest) e st ups K := by
  unfold awA
  refine ⟨fits_of hf, ?_⟩
  rw [hg]
  have h1 := h (fun v st' => st' = st → awA P gl ops rest (e.put o.dst v) st ups K) (fun v st' _ h _ => h)
  obtain ⟨v, h2, h3⟩ := step1_det hc h1
  have h4 := h3 rfl
  have h5 : step1 P gl (e.ev gl) st o.op fun v _ => awA P gl ops rest (e.put o.dst v) st ups K := h2 _ h4
  unfold stepA
  cases ho : o.op <;> rw [ho] at hc h5 <;> first
    | (simp only [calm, Bool.false_eq_true] at hc; done)
    | exact (if_pos hc).symm ▸ h5
    | skip
  rename_i c
  simp only at h5 ⊢
  cases hcal : c.callee with
  | value f => simp only [calm, hcal, Bool.false_eq_true] at hc
  | invoke a b => simp only [calm, hcal, Bool.false_eq_true] at hc
  | builtin b =>
    simp only [calm, hcal] at hc
    cases b <;> first
      | (simp only [Bool.false_eq_true] at hc; done)
      | (simp only [calm, hcal]; rw [if_pos trivial]; exact h5)
end
end Go.Duo
