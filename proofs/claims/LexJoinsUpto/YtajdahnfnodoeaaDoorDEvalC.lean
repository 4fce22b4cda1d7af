/-
  Runs at fixed inputs: code, loops, functions.
-/
import Derived.Test.YtajdahnfnodoeaaDoorDEval
set_option linter.all false
namespace Go.Duo
open Go
abbrev CallE := FuncId → List V → List O → Option (V × List O)
section
variable {P : Program} {gl : Nat → V} {r : Option Nat} {e : Env} {st : List O} {Q : Exit → Env → List O → Prop}

/-- What a reckoner of calls must keep. -/
def CallE.ok (P : Program) (gl : Nat → V) (call : CallE) : Prop := ∀ k args st v st', call k args st = some (v, st') → Call P gl k args st (fun v' st'' => v' = v ∧ st'' = st')

def keep (st : List O) (o : Option V) : Option (V × List O) := match o with
  | some v => some (v, st)
  | none => none
theorem keep_eq {o : Option V} {v : V} {st' : List O} (h : keep st o = some (v, st')) : o = some v ∧ st' = st := by
  unfold keep at h
  split at h
  · simp only [Option.some.injEq, Prod.mk.injEq] at h; exact ⟨by rw [h.1], h.2.symm⟩
  · cases h

def ifcE (P : Program) (t : TypeId) (op : BinOp) (x : V) : Option V :=
  match isIfc P t with
  | true => match x, op with
    | .niliface, .eql => some (.bool true)
    | .niliface, .neq => some (.bool false)
    | .iface _ _, .eql => some (.bool false)
    | .iface _ _, .neq => some (.bool true)
    | _, _ => none
  | false => none
theorem ifcE_sound {K : V → Prop} {t : TypeId} {op : BinOp} {x v : V} (h : ifcE P t op x = some v) (hk : K v) : ifcP P t op x K := by
  unfold ifcE at h; unfold ifcP
  split at h <;> try (cases h; done)
  rename_i hi
  refine ⟨hi, ?_⟩
  split at h <;> first | (cases h; done) | (simp only [Option.some.injEq] at h; subst h; exact hk)

def stepE (P : Program) (call : CallE) (ρ : Operand → V) (st : List O) (op : Op) : Option (V × List O) :=
  match op with
  | .move x => some (ρ x, st)
  | .assign x => some (ρ x, st)
  | .pick c a b => match ρ c with
    | .bool t => some (if t then ρ a else ρ b, st)
    | _ => none
  | .binOp op t x y _ => match isNilC y with
    | true => keep st (ifcE P t op (ρ x))
    | false => keep st (binE P t op (ρ x) (ρ y))
  | .unOp op _ x => keep st (unE op (ρ x))
  | .convert src dst x => match P.underlying src, P.underlying dst, ρ x with
    | some (.int _), some (.int k), .int _ n => some (.int k (k.wrap n), st)
    | some .string, some .string, .str l => some (.str l, st)
    | _, _, _ => none
  | .extract x i => match ρ x with
    | .tuple vs => if i < vs.length then some (vs.getD i .undef, st) else none
    | _ => none
  | .makeFunc fn first captured => some (.func fn (first.toList.map ρ) (captured.toList.map ρ), st)
  | .nilCheck x => if notNil (ρ x) = true then some (ρ x, st) else none
  | .load t x => keep st (loadE P t st (ρ x))
  | .store t x y => match storeE P t st (ρ x) (ρ y) with
    | some st' => some (.undef, st')
    | none => none
  | .fieldAddr t x f => keep st (faE P t st f (ρ x))
  | .field t x f => keep st (fieldE P t f (ρ x))
  | .indexAddr t x i => keep st (iaE P t st (ρ x) (ρ i))
  | .index t x i => keep st (ixE P t (ρ x) (ρ i))
  | .slice t x lo hi mx => keep st (sliceE P t (ρ x) (lo.map ρ) (hi.map ρ) (mx.map ρ))
  | .box t x => if (ρ x).cells.all V.one = true then some (.ptr st.length 0, st ++ [.box t (ρ x).cells]) else none
  | .alloc t => match zro P t with
    | some z => some (.ptr st.length 0, st ++ [.box t z])
    | none => none
  | .makeSlice t x y => makeE P t st (ρ x) (ρ y)
  | .build t parts => keep st (buildE P t (parts.toList.map fun p => (p.1, ρ p.2)))
  | .buildSlice t len parts => if len = 0 then (if parts.size = 0 ∧ (elt P t).isSome = true then some (.nil, st) else none) else match buildSliceE P t len (parts.toList.map fun p => (p.1, ρ p.2)) with
    | some (es, e, sz) => some (.sl es (some st.length), st ++ [.tok e sz len])
    | none => none
  | .call c => match c.callee with
    | .value f => match ρ f with
      | .func (.func k) fs cs => if ent P k = true then call k (fs ++ c.args.toList.map ρ ++ cs) st else none
      | _ => none
    | .builtin .len => match c.args.toList, c.argTypes.toList with
      | [x], [t] => keep st (lenE st P t (ρ x))
      | _, _ => none
    | .builtin .append => match c.args.toList, c.argTypes.toList with
      | [x, y], [t, u] => if t = u then appE P t st (ρ x) (ρ y) else none
      | _, _ => none
    | .builtin .max => match c.args.toList with
      | [x, y] => match ρ x, ρ y with
        | .int k a, .int _ b => some (.int k (if a < b then b else a), st)
        | _, _ => none
      | _ => none
    | .builtin .min => match c.args.toList with
      | [x, y] => match ρ x, ρ y with
        | .int k a, .int _ b => some (.int k (if b < a then b else a), st)
        | _, _ => none
      | _ => none
    | _ => none
  | _ => none

theorem stepE_sound {call : CallE} (hc : call.ok P gl) {ρ : Operand → V} {op : Op} {v : V} {st' : List O} {K : V → List O → Prop} (h : stepE P call ρ st op = some (v, st')) (hk : K v st') : step1 P gl ρ st op K := by
  have kp : ∀ {o : Option V} {X : Prop}, keep st o = some (v, st') → (o = some v → K v st → X) → X := fun hh hX => by
    obtain ⟨h1, rfl⟩ := keep_eq hh
    exact hX h1 hk
  have in1 : ∀ {a : V} {s : List O}, some (a, s) = some (v, st') → K a s := fun hh => by
    simp only [Option.some.injEq, Prod.mk.injEq] at hh
    obtain ⟨rfl, rfl⟩ := hh
    exact hk
  unfold stepE at h; unfold step1
  cases op <;> (try simp only at h ⊢) <;> (try (cases h; done))
  case move => exact in1 h
  case assign => exact in1 h
  case pick =>
    split at h <;> try (cases h; done)
    rename_i hh; simp only [hh]; exact in1 h
  case binOp op t x y yt =>
    cases hny : isNilC y with
    | true =>
      simp only [hny] at h
      simp only [if_true]
      exact kp h fun h1 h2 => ifcE_sound h1 h2
    | false =>
      simp only [hny] at h
      simp only [Bool.false_eq_true, if_false]
      exact kp h fun h1 h2 => binE_sound h1 h2
  case unOp => exact kp h fun h1 h2 => unE_sound h1 h2
  case convert =>
    split at h <;> try (cases h; done)
    · rename_i h1 h2 h3; simp only [h1, h2, h3]; exact in1 h
    · rename_i h1 h2 h3; simp only [h1, h2, h3]; exact in1 h
  case extract =>
    split at h <;> try (cases h; done)
    rename_i hh; simp only [hh]
    split at h <;> try (cases h; done)
    exact ⟨by assumption, in1 h⟩
  case makeFunc => exact in1 h
  case nilCheck =>
    split at h <;> try (cases h; done)
    exact ⟨by assumption, in1 h⟩
  case load => exact kp h fun h1 h2 => loadE_sound h1 h2
  case store =>
    split at h <;> try (cases h; done)
    rename_i hh
    exact storeE_sound hh (in1 h)
  case fieldAddr => exact kp h fun h1 h2 => faE_sound h1 h2
  case field => exact kp h fun h1 h2 => fieldE_sound h1 h2
  case indexAddr => exact kp h fun h1 h2 => iaE_sound h1 h2
  case index => exact kp h fun h1 h2 => ixE_sound h1 h2
  case slice => exact kp h fun h1 h2 => sliceE_sound h1 h2
  case box =>
    split at h <;> try (cases h; done)
    exact ⟨by assumption, in1 h⟩
  case alloc =>
    split at h <;> try (cases h; done)
    rename_i hh; simp only [hh]; exact in1 h
  case makeSlice => exact makeE_sound h hk
  case build => exact kp h fun h1 h2 => buildE_sound h1 h2
  case buildSlice t len parts =>
    split at h
    · rename_i h0
      split at h <;> try (cases h; done)
      rename_i hh
      refine ⟨fun _ => hh.1, ?_⟩
      unfold buildSliceP
      cases he : elt P t with
      | none => rw [he] at hh; cases hh.2
      | some a =>
        obtain ⟨a, b, c⟩ := a
        simp only
        rw [if_pos h0]
        exact in1 h
    · rename_i h0
      refine ⟨fun hh => absurd hh h0, ?_⟩
      split at h <;> try (cases h; done)
      rename_i hh
      unfold buildSliceE at hh; unfold buildSliceP
      split at hh <;> try (cases hh; done)
      rename_i he
      simp only [he]
      rw [if_neg h0]
      split at hh <;> try (cases hh; done)
      rename_i hcc
      simp only [Option.some.injEq, Prod.mk.injEq] at hh
      obtain ⟨rfl, rfl, rfl⟩ := hh
      exact ⟨hcc.1, hcc.2.1, partsB_spec hcc.2.2, in1 h⟩
  case call c =>
    cases hcal : c.callee with
    | value f =>
      rw [hcal] at h
      simp only at h ⊢
      split at h <;> try (cases h; done)
      rename_i hf
      simp only [hf]
      split at h <;> try (cases h; done)
      refine ⟨by assumption, ?_⟩
      exact Call.mono (hc _ _ _ _ _ h) fun v' s' hv => by obtain ⟨rfl, rfl⟩ := hv; exact hk
    | invoke a m => rw [hcal] at h; cases h
    | builtin b =>
      rw [hcal] at h
      cases b <;> (try simp only at h ⊢) <;> (try (cases h; done))
      case len =>
        split at h <;> try (cases h; done)
        rename_i h1 h2; simp only [h1, h2]; exact kp h fun h1 h2 => lenE_sound h1 h2
      case append =>
        split at h <;> try (cases h; done)
        rename_i h1 h2; simp only [h1, h2]
        split at h <;> try (cases h; done)
        exact ⟨by assumption, appE_sound h hk⟩
      all_goals
        split at h <;> try (cases h; done)
        rename_i h1; simp only [h1]
        split at h <;> try (cases h; done)
        rename_i h1 h2; simp only [h1, h2]; exact in1 h

noncomputable def getE (m : List (Nat × V)) (t : Nat) : V :=
  @List.rec (Nat × V) (fun _ => V) V.undef (fun p _ ih => @Prod.rec Nat V (fun _ => V) (fun a v => @Bool.rec (fun _ => V) ih v (Nat.beq a t)) p) m
theorem getE_eq (m : List (Nat × V)) (t : Nat) : getE m t = getM m t := by
  induction m with
  | nil => rfl
  | cons p m ih =>
    obtain ⟨a, v⟩ := p
    show @Bool.rec (fun _ => V) (getE m t) v (Nat.beq a t) = _
    unfold getM
    cases h : Nat.beq a t with
    | true => rw [if_pos (Nat.eq_of_beq_eq_true h)]
    | false => rw [if_neg (Nat.ne_of_beq_eq_false h), ← ih]
noncomputable def evE (gl : Nat → V) (e : Env) : Operand → V
  | .tmp t => getE e.m t
  | .const v => V.ofConst v
  | .global g => gl g
  | .func f => .func (.func f) [] []
theorem evE_eq (gl : Nat → V) (e : Env) : evE gl e = e.ev gl := by
  funext x
  cases x <;> first | rfl | exact getE_eq _ _

theorem split_same {b want : Bool} {A B : Prop} (h : b = want) (hA : A) : Split b (if want then A else B) (if want then B else A) := by
  subst h; cases b <;> simp [Split, hA]
theorem split_other {b want : Bool} {A B : Prop} (h : ¬ b = want) (hB : B) : Split b (if want then A else B) (if want then B else A) := by
  cases b <;> cases want <;> first | exact absurd rfl h | simp [Split, hB]

/-- The operations of a region, one behind the other. -/
noncomputable def regE (P : Program) (gl : Nat → V) (call : CallE) (ops : Array Oper) : List Oper → Env → List O → Option (Env × List O)
  | [], e, st => some (e, st)
  | o :: rest, e, st => match fitB e o.dst with
    | false => none
    | true => match o.guard with
      | none => match stepE P call (evE gl e) st o.op with
        | some (v, st') => regE P gl call ops rest (e.put o.dst v) st'
        | none => none
      | some (j, want) => match (ops[j]?).bind (·.dst) with
        | none => none
        | some d => match getE e.m d with
          | .bool b => match b == want with
            | true => match stepE P call (evE gl e) st o.op with
              | some (v, st') => regE P gl call ops rest (e.put o.dst v) st'
              | none => none
            | false => regE P gl call ops rest (e.put o.dst (.tuple [])) st
          | .tuple [] => regE P gl call ops rest (e.put o.dst (.tuple [])) st
          | _ => none

theorem regE_sound {call : CallE} (hc : call.ok P gl) {ops : Array Oper} {K : Env → List O → Prop} : ∀ (l : List Oper) (e : Env) (st : List O) (e' : Env) (st' : List O), regE P gl call ops l e st = some (e', st') → K e' st' → awL P gl ops l e st K := by
  intro l
  induction l with
  | nil =>
    intro e st e' st' h hk
    simp only [regE, Option.some.injEq, Prod.mk.injEq] at h
    obtain ⟨rfl, rfl⟩ := h
    exact hk
  | cons o rest ih =>
    intro e st e' st' h hk
    unfold regE at h
    rw [evE_eq] at h
    unfold awL
    split at h <;> try (cases h; done)
    rename_i hf
    refine ⟨fits_of hf, ?_⟩
    cases hg : o.guard with
    | none =>
      rw [hg] at h
      simp only at h ⊢
      split at h <;> try (cases h; done)
      rename_i hs
      exact stepE_sound (K := fun v st' => awL P gl ops rest (e.put o.dst v) st' K) hc hs (ih _ _ _ _ h hk)
    | some jw =>
      obtain ⟨j, want⟩ := jw
      rw [hg] at h
      simp only at h ⊢
      split at h <;> try (cases h; done)
      rename_i hd
      simp only [hd]
      split at h <;> try (cases h; done)
      case h_2 hb =>
        rw [getE_eq] at hb
        simp only [show e.get _ = _ from hb]
        exact ih _ _ _ _ h hk
      rename_i hb
      rw [getE_eq] at hb
      simp only [show e.get _ = _ from hb]
      split at h
      · rename_i hbw
        split at h <;> try (cases h; done)
        rename_i hs
        exact split_same (by simpa using hbw) (stepE_sound (K := fun v st' => awL P gl ops rest (e.put o.dst v) st' K) hc hs (ih _ _ _ _ h hk))
      · rename_i hbw
        exact split_other (by simpa using hbw) (ih _ _ _ _ h hk)

mutual
def V.eqb : V → V → Bool
  | .undef, .undef => true
  | .int k n, .int k' n' => decide (k = k') && decide (n = n')
  | .bool a, .bool b => decide (a = b)
  | .str a, .str b => decide (a = b)
  | .agg a, .agg b => V.eqbL a b
  | .tuple a, .tuple b => V.eqbL a b
  | .sl a t, .sl b t' => V.eqbL a b && decide (t = t')
  | .nil, .nil => true
  | .ptr i o, .ptr i' o' => decide (i = i') && decide (o = o')
  | .dptr a, .dptr b => V.eqbL a b
  | .nilptr, .nilptr => true
  | .nilfunc, .nilfunc => true
  | .niliface, .niliface => true
  | .map i, .map j => decide (i = j)
  | _, _ => false
def V.eqbL : List V → List V → Bool
  | [], [] => true
  | a :: as, b :: bs => V.eqb a b && V.eqbL as bs
  | _, _ => false
end
mutual
theorem V.eqb_eq : ∀ {a b : V}, V.eqb a b = true → a = b := fun {a b} h => by
  cases a <;> cases b <;> simp only [V.eqb, Bool.and_eq_true, decide_eq_true_eq] at h <;> first | (cases h; done) | rfl | (subst h; rfl) | (obtain ⟨rfl, rfl⟩ := h; rfl) | (rw [V.eqbL_eq h]) | (rw [V.eqbL_eq h.1, h.2])
theorem V.eqbL_eq : ∀ {a b : List V}, V.eqbL a b = true → a = b := fun {a b} h => by
  cases a <;> cases b <;> simp only [V.eqbL, Bool.and_eq_true] at h <;> first | (cases h; done) | rfl | (rw [V.eqb_eq h.1, V.eqbL_eq h.2])
end
def O.eqb : O → O → Bool
  | .box t cs, .box t' cs' => decide (t = t') && V.eqbL cs cs'
  | .map a b, .map a' b' => V.eqbL a a' && V.eqbL b b'
  | .tok e s n, .tok e' s' n' => decide (e = e') && decide (s = s') && decide (n = n')
  | .arr e s v es, .arr e' s' v' es' => decide (e = e') && decide (s = s') && decide (v = v') && V.eqbL es es'
  | .dead, .dead => true
  | _, _ => false
theorem O.eqb_eq {a b : O} (h : O.eqb a b = true) : a = b := by
  cases a <;> cases b <;> simp only [O.eqb, Bool.and_eq_true, decide_eq_true_eq] at h <;> first | (cases h; done) | rfl | (rw [h.1, V.eqbL_eq h.2]) | (rw [V.eqbL_eq h.1, V.eqbL_eq h.2]) | (rw [h.1.1, h.1.2, h.2]) | (rw [h.1.1.1, h.1.1.2, h.1.2, V.eqbL_eq h.2])
def stEqb : List O → List O → Bool
  | [], [] => true
  | a :: as, b :: bs => O.eqb a b && stEqb as bs
  | _, _ => false
theorem stEqb_eq : ∀ {a b : List O}, stEqb a b = true → a = b := fun {a b} h => by
  induction a generalizing b with
  | nil => cases b with
    | nil => rfl
    | cons => cases h
  | cons x a ih => cases b with
    | nil => cases h
    | cons y b =>
      simp only [stEqb, Bool.and_eq_true] at h
      rw [O.eqb_eq h.1, ih h.2]

/-- Operations that may come in whatever order. -/
def stepAE (P : Program) (call : CallE) (ρ : Operand → V) (st : List O) (op : Op) : Option (V × Option ((Nat → V) × O)) :=
  match op with
  | .alloc t => match zro P t with
    | some z => some (.undef, some (fun i => .ptr i 0, .box t z))
    | none => none
  | .buildSlice t len parts => if len = 0 then (if parts.size = 0 ∧ (elt P t).isSome = true then some (.nil, none) else none) else match buildSliceE P t len (parts.toList.map fun p => (p.1, ρ p.2)) with
    | some (es, e, sz) => some (.sl es none, some (fun i => .sl es (some i), .tok e sz len))
    | none => none
  | op => if calm op = true then match stepE P (fun _ _ _ => none) ρ st op with
      | some (v, _) => some (v, none)
      | none => none
    else match op with
    | .call c => match c.callee with
      | .value f => match ρ f with
        | .func (.func k) fs cs => if ent P k = true then match call k (fs ++ c.args.toList.map ρ ++ cs) st with
          | some (v, st') => if stEqb st' st = true then some (v, none) else none
          | none => none
          else none
        | _ => none
      | .builtin .append => match c.args.toList, c.argTypes.toList with
        | [x, y], [t, u] => if t = u then match elt P t, rowOf (ρ y), ρ x with
          | some (e, sz, by_), some es2, .nil => if (es2.all fun e => e.cells.length == sz) = true ∧ es2.length * by_ ≤ 140737488355328 ∧ es2.length ≤ maxLen then match es2 with
            | [] => some (.nil, none)
            | _ => some (.sl es2 none, some (fun i => .sl es2 (some i), .tok e sz es2.length))
            else none
          | _, _, _ => none
          else none
        | _, _ => none
      | _ => none
    | _ => none

theorem stepAE_sound {call : CallE} (hc : call.ok P gl) {ρ : Operand → V} {op : Op} {v : V} {u : Option ((Nat → V) × O)} {K : V → Option ((Nat → V) × O) → Prop} (h : stepAE P call ρ st op = some (v, u)) (hk : K v u) : stepA P gl ρ st op K := by
  have in1 : ∀ {a : V} {s : Option ((Nat → V) × O)}, some (a, s) = some (v, u) → K a s := fun hh => by
    simp only [Option.some.injEq, Prod.mk.injEq] at hh
    obtain ⟨rfl, rfl⟩ := hh
    exact hk
  have cm : calm op = true → (match stepE P (fun _ _ _ => none) ρ st op with
      | some (v, _) => some (v, (none : Option ((Nat → V) × O)))
      | none => none) = some (v, u) → step1 P gl ρ st op (fun v _ => K v none) := fun hcm h => by
    split at h <;> try (cases h; done)
    rename_i hs
    exact stepE_sound (K := fun v _ => K v none) (fun k args st v st' hh => by cases hh) hs (in1 h)
  cases op <;> (try (simp only [stepAE, calm, Bool.false_eq_true, if_false] at h; cases h; done))
  case alloc t =>
    simp only [stepAE] at h; unfold stepA; simp only
    split at h <;> try (cases h; done)
    rename_i hh; simp only [hh]; exact in1 h
  case buildSlice t len parts =>
    simp only [stepAE] at h; unfold stepA; simp only
    split at h
    · rename_i h0
      split at h <;> try (cases h; done)
      rename_i hh
      refine ⟨fun _ => hh.1, ?_⟩
      unfold buildSliceA
      cases he : elt P t with
      | none => rw [he] at hh; cases hh.2
      | some a =>
        obtain ⟨a, b, c⟩ := a
        simp only
        rw [if_pos h0]
        exact in1 h
    · rename_i h0
      refine ⟨fun hh => absurd hh h0, ?_⟩
      split at h <;> try (cases h; done)
      rename_i hh
      unfold buildSliceE at hh; unfold buildSliceA
      split at hh <;> try (cases hh; done)
      rename_i he
      simp only [he]
      rw [if_neg h0]
      split at hh <;> try (cases hh; done)
      rename_i hcc
      simp only [Option.some.injEq, Prod.mk.injEq] at hh
      obtain ⟨rfl, rfl, rfl⟩ := hh
      exact ⟨hcc.1, hcc.2.1, partsB_spec hcc.2.2, in1 h⟩
  case call c =>
    unfold stepA; simp only
    cases hcal : c.callee with
    | value f =>
      simp only [stepAE, calm, hcal, Bool.false_eq_true, if_false] at h ⊢
      split at h <;> try (cases h; done)
      rename_i hf
      simp only [hf]
      split at h <;> try (cases h; done)
      refine ⟨by assumption, ?_⟩
      split at h <;> try (cases h; done)
      rename_i hcl
      split at h <;> try (cases h; done)
      rename_i heq
      exact ⟨_, Call.mono (hc _ _ _ _ _ hcl) fun v' s' hv => ⟨hv.1, hv.2.trans (stEqb_eq heq)⟩, in1 h⟩
    | invoke a m => simp only [stepAE, calm, hcal, Bool.false_eq_true, if_false] at h; cases h
    | builtin b =>
      cases b <;> (try (simp only [stepAE, calm, hcal, Bool.false_eq_true, if_false] at h; cases h; done))
      case append =>
        simp only [stepAE, calm, hcal, Bool.false_eq_true, if_false] at h ⊢
        split at h <;> try (cases h; done)
        rename_i h1 h2; simp only [h1, h2]
        split at h <;> try (cases h; done)
        refine ⟨by assumption, ?_⟩
        split at h <;> try (cases h; done)
        rename_i he hr hx
        split at h <;> try (cases h; done)
        rename_i hcc
        unfold appendA
        simp only [he, hr, hx]
        refine ⟨fun e he => by simpa using List.all_eq_true.1 hcc.1 e he, hcc.2.1, hcc.2.2, .inr ?_⟩
        split at h
        · exact ⟨fun _ => in1 h, fun hh => absurd rfl hh⟩
        · rename_i hne
          exact ⟨fun hh => absurd hh hne, fun _ => in1 h⟩
      all_goals
        simp only [stepAE, calm, hcal, if_true] at h ⊢
        exact cm (by simp only [calm, hcal]) h
  all_goals
    simp only [stepAE, calm, if_true] at h
    unfold stepA
    simp only [calm, if_true]
    exact cm rfl h

noncomputable def anyE (P : Program) (gl : Nat → V) (call : CallE) (ops : Array Oper) : List Oper → Env → List O → List Up → Option (Env × List O)
  | [], e, st, ups => some (applyUps ups e st)
  | o :: rest, e, st, ups => if fitB e o.dst = true then match o.guard with
    | none => match stepAE P call (e.ev gl) st o.op with
      | some (v, none) => anyE P gl call ops rest (e.put o.dst v) st ups
      | some (v, some (f, ob)) => match o.dst with
        | some d => anyE P gl call ops rest (e.put o.dst v) st (ups ++ [(d, f, ob)])
        | none => none
      | none => none
    | some (j, want) => match (ops[j]?).bind (·.dst) with
      | none => none
      | some d => match e.get d with
        | .bool b => if b = want then match stepAE P call (e.ev gl) st o.op with
            | some (v, none) => anyE P gl call ops rest (e.put o.dst v) st ups
            | some (v, some (f, ob)) => match o.dst with
              | some d => anyE P gl call ops rest (e.put o.dst v) st (ups ++ [(d, f, ob)])
              | none => none
            | none => none
          else anyE P gl call ops rest (e.put o.dst (.tuple [])) st ups
        | .tuple [] => anyE P gl call ops rest (e.put o.dst (.tuple [])) st ups
        | _ => none
    else none
theorem anyE_sound {call : CallE} (hc : call.ok P gl) {ops : Array Oper} {K : Env → List O → Prop} : ∀ (l : List Oper) (e : Env) (st : List O) (ups : List Up) (e' : Env) (st' : List O), anyE P gl call ops l e st ups = some (e', st') → K e' st' → awA P gl ops l e st ups K := by
  intro l
  induction l with
  | nil =>
    intro e st ups e' st' h hk
    simp only [anyE, Option.some.injEq] at h
    unfold awA
    rw [h]; exact hk
  | cons o rest ih =>
    intro e st ups e' st' h hk
    unfold anyE at h
    unfold awA
    split at h <;> try (cases h; done)
    rename_i hf
    refine ⟨fits_of hf, ?_⟩
    cases hg : o.guard with
    | none =>
      rw [hg] at h
      simp only at h ⊢
      split at h <;> try (cases h; done)
      · rename_i hs
        exact stepAE_sound hc hs (ih _ _ _ _ _ h hk)
      · rename_i hs
        split at h <;> try (cases h; done)
        rename_i hd
        refine stepAE_sound hc hs ?_
        rw [hd] at h ⊢
        exact ih _ _ _ _ _ h hk
    | some jw =>
      obtain ⟨j, want⟩ := jw
      rw [hg] at h
      simp only at h ⊢
      split at h <;> try (cases h; done)
      rename_i hd
      simp only [hd]
      split at h <;> try (cases h; done)
      case h_2 hb =>
        simp only [hb]
        exact ih _ _ _ _ _ h hk
      rename_i hb
      simp only [hb]
      split at h
      · rename_i hbw
        rw [if_pos hbw]
        split at h <;> try (cases h; done)
        · rename_i hs
          exact stepAE_sound hc hs (ih _ _ _ _ _ h hk)
        · rename_i hs
          split at h <;> try (cases h; done)
          rename_i hd
          refine stepAE_sound hc hs ?_
          rw [hd] at h ⊢
          exact ih _ _ _ _ _ h hk
      · rename_i hbw
        rw [if_neg hbw]
        exact ih _ _ _ _ _ h hk

/-- The first number of operations that may come in whatever order at which all is well. -/
def findM (ops : Array Oper) : Nat → Option Nat
  | 0 => if anyOK ops 0 = true then some 0 else none
  | n + 1 => match findM ops n with
    | some m => some m
    | none => if anyOK ops (n + 1) = true then some (n + 1) else none
theorem findM_ok {ops : Array Oper} {m : Nat} : ∀ n, findM ops n = some m → anyOK ops m = true := by
  intro n
  induction n with
  | zero => intro h; unfold findM at h; split at h <;> first | (cases h; done) | (simp only [Option.some.injEq] at h; subst h; assumption)
  | succ n ih =>
    intro h
    unfold findM at h
    split at h
    · rename_i hh; simp only [Option.some.injEq] at h; subst h; exact ih hh
    · split at h <;> first | (cases h; done) | (simp only [Option.some.injEq] at h; subst h; assumption)

/-- The frame, each temporary once. -/
def known (t : Nat) (v : V) : Option (Nat × V) := match v with | .undef => none | v => some (t, v)
theorem known_eq {t : Nat} {v : V} {b : Nat × V} (h : known t v = some b) : b = (t, v) := by
  unfold known at h; split at h <;> first | (cases h; done) | (simp only [Option.some.injEq] at h; exact h.symm)
noncomputable def Env.norm (e : Env) : Env := ⟨e.n, (List.range e.n).filterMap fun t => known t (getE e.m t)⟩
theorem Env.norm_le (st : List O) (e : Env) : Env.le st e e.norm := by
  refine ⟨Nat.le_refl _, fun t => ?_⟩
  have key : ∀ l : List Nat, getM (l.filterMap fun t => known t (getE e.m t)) t = .undef ∨ getM (l.filterMap fun t => known t (getE e.m t)) t = e.get t := by
    intro l
    induction l with
    | nil => exact .inl rfl
    | cons a l ih =>
      rw [List.filterMap_cons]
      split
      · exact ih
      · rename_i b hb
        rw [known_eq hb]
        simp only [getM]
        by_cases hat : a = t
        · subst hat; rw [if_pos rfl]; exact .inr (getE_eq _ _)
        · rw [if_neg hat]; exact ih
  rcases key (List.range e.n) with h | h
  · show V.le st _ (getM ((List.range e.n).filterMap fun t => known t (getE e.m t)) t)
    rw [h]; exact V.le_undef _ _
  · show V.le st _ (getM ((List.range e.n).filterMap fun t => known t (getE e.m t)) t)
    rw [h]; exact V.le_refl _ _

noncomputable def Env.normAt (m : Nat) (e : Env) : Env := @Bool.rec (fun _ => Env) e e.norm (Nat.beq (Nat.mod m 6) 0)
theorem Env.normAt_le (st : List O) (m : Nat) (e : Env) : Env.le st e (e.normAt m) := by
  unfold Env.normAt
  cases Nat.beq (Nat.mod m 6) 0
  · exact Env.le_refl _ _
  · exact Env.norm_le _ _
abbrev ResE := Option (Exit × Env × List O)
noncomputable def loopE (f : Env → List O → ResE) : Nat → Env → List O → ResE
  | 0, _, _ => none
  | m + 1, e, st => match f (e.normAt m) st with
    | some (.normal, e', st') => loopE f m e' st'
    | r => r

noncomputable def codeE (P : Program) (gl : Nat → V) (call : CallE) (m : Nat) : Code → Env → List O → ResE
  | .skip, e, st => some (.normal, e, st)
  | .label _, e, st => some (.normal, e, st)
  | .exit id, e, st => some (.exit id, e, st)
  | .ret, e, st => some (.ret, e, st)
  | .region _ ops false, e, st => match regE P gl call ops ops.toList e st with
    | some (e', st') => some (.normal, e', st')
    | none => none
  | .region _ ops true, e, st => match findM ops ops.size with
    | none => none
    | some m => match anyE P gl call ops (ops.toList.take m) e st [] with
      | none => none
      | some (e', st') => match regE P gl call ops (ops.toList.drop m) e' st' with
        | some (e', st') => some (.normal, e', st')
        | none => none
  | .seq x y, e, st => match codeE P gl call m x e st with
    | some (.normal, e', st') => codeE P gl call m y e' st'
    | r => r
  | .cond c x y, e, st => match evE gl e c with
    | .bool true => codeE P gl call m x e st
    | .bool false => codeE P gl call m y e st
    | _ => none
  | .block id c, e, st => match codeE P gl call m c e st with
    | some (.exit j, e', st') => if j = id then some (.normal, e', st') else some (.exit j, e', st')
    | r => r
  | .loop c, e, st => loopE (codeE P gl call m c) m e st
  | _, _, _ => none

theorem loopE_sound {c : Code} {f : Env → List O → ResE} (hf : ∀ e st x e' st' Q, f e st = some (x, e', st') → Q x e' st' → AW P gl r c Q e st) :
    ∀ (m : Nat) (e : Env) (st : List O) (x : Exit) (e' : Env) (st' : List O) (Q : Exit → Env → List O → Prop), loopE f m e st = some (x, e', st') → x ≠ .normal ∧ (Q x e' st' → AW P gl r (.loop c) Q e st) := by
  intro m e st x e' st' Q h
  have hx : ∀ m e st, loopE f m e st = some (x, e', st') → x ≠ .normal := by
    intro m
    induction m with
    | zero => intro e st h; cases h
    | succ m ih =>
      intro e st h
      unfold loopE at h
      split at h
      · exact ih _ _ h
      · rename_i hne
        intro hh
        subst hh
        exact hne _ _ h
  refine ⟨hx m e st h, fun hq => ?_⟩
  refine AW.loopN (fun n e st => loopE f n e st = some (x, e', st')) m h ?_
  intro n e st h
  cases n with
  | zero => cases h
  | succ n =>
    unfold loopE at h
    refine .pre (Env.normAt_le _ n _) (StLe.refl _) ?_
    split at h
    · rename_i hh
      exact hf _ _ _ _ _ _ hh ⟨n, Nat.lt_succ_self _, h⟩
    · rename_i hne
      refine hf _ _ _ _ _ _ h ?_
      cases x with
      | normal => exact (hne _ _ h).elim
      | _ => exact hq

theorem codeE_sound {call : CallE} (hc : call.ok P gl) (hfol : P.follows .mixedOrders = true) {m : Nat} : ∀ (c : Code) (e : Env) (st : List O) (x : Exit) (e' : Env) (st' : List O) (Q : Exit → Env → List O → Prop), codeE P gl call m c e st = some (x, e', st') → Q x e' st' → AW P gl r c Q e st := by
  intro c
  induction c with
  | skip =>
    intro e st x e' st' Q h hq
    simp only [codeE, Option.some.injEq, Prod.mk.injEq] at h
    obtain ⟨rfl, rfl, rfl⟩ := h
    exact .skip hq
  | label l =>
    intro e st x e' st' Q h hq
    simp only [codeE, Option.some.injEq, Prod.mk.injEq] at h
    obtain ⟨rfl, rfl, rfl⟩ := h
    exact .label hq
  | exit l =>
    intro e st x e' st' Q h hq
    simp only [codeE, Option.some.injEq, Prod.mk.injEq] at h
    obtain ⟨rfl, rfl, rfl⟩ := h
    exact .exit hq
  | ret =>
    intro e st x e' st' Q h hq
    simp only [codeE, Option.some.injEq, Prod.mk.injEq] at h
    obtain ⟨rfl, rfl, rfl⟩ := h
    exact .ret hq
  | region id ops draw =>
    intro e st x e' st' Q h hq
    cases draw with
    | false =>
      unfold codeE at h
      split at h <;> try (cases h; done)
      rename_i hr
      simp only [Option.some.injEq, Prod.mk.injEq] at h
      obtain ⟨rfl, rfl, rfl⟩ := h
      exact .region (regE_sound hc _ _ _ _ _ hr hq)
    | true =>
      unfold codeE at h
      split at h <;> try (cases h; done)
      rename_i hm
      split at h <;> try (cases h; done)
      rename_i ha
      split at h <;> try (cases h; done)
      rename_i hr
      simp only [Option.some.injEq, Prod.mk.injEq] at h
      obtain ⟨rfl, rfl, rfl⟩ := h
      exact AW.any hfol _ (findM_ok _ hm) (anyE_sound hc _ _ _ _ _ _ ha (regE_sound hc _ _ _ _ _ hr hq))
  | seq a b iha ihb =>
    intro e st x e' st' Q h hq
    unfold codeE at h
    refine .seq ?_
    split at h
    · rename_i hh
      exact iha _ _ _ _ _ _ hh (ihb _ _ _ _ _ _ h hq)
    · rename_i hne
      refine iha _ _ _ _ _ _ h ?_
      cases x with
      | normal => exact (hne _ _ h).elim
      | _ => exact hq
  | cond c a b iha ihb =>
    intro e st x e' st' Q h hq
    unfold codeE at h
    rw [evE_eq] at h
    split at h <;> try (cases h; done)
    · rename_i hc
      exact .cond hc (fun _ => iha _ _ _ _ _ _ h hq) (fun hh => by cases hh)
    · rename_i hc
      exact .cond hc (fun hh => by cases hh) (fun _ => ihb _ _ _ _ _ _ h hq)
  | block id a iha =>
    intro e st x e' st' Q h hq
    unfold codeE at h
    refine .block ?_
    split at h
    · rename_i hh
      refine iha _ _ _ _ _ _ hh ?_
      simp only [blockQ]
      split at h
      · simp only [Option.some.injEq, Prod.mk.injEq] at h
        obtain ⟨rfl, rfl, rfl⟩ := h
        rw [if_pos (by assumption)]; exact hq
      · simp only [Option.some.injEq, Prod.mk.injEq] at h
        obtain ⟨rfl, rfl, rfl⟩ := h
        rw [if_neg (by assumption)]; exact hq
    · rename_i hne
      refine iha _ _ _ _ _ _ h ?_
      cases x with
      | exit j => exact (hne _ _ _ h).elim
      | _ => exact hq
  | loop a iha =>
    intro e st x e' st' Q h hq
    unfold codeE at h
    exact (loopE_sound (r := r) iha m e st x e' st' Q h).2 hq
  | _ => intro e st x e' st' Q h hq; cases h

def resE (P : Program) (e : Env) (st : List O) : List ResultVar → Option (List V)
  | [] => some []
  | .tmp t :: l => match resE P e st l with
    | some vs => some (e.get t :: vs)
    | none => none
  | .cell a t :: l => match loadE P t st (e.get a) with
    | some v => match resE P e st l with
      | some vs => some (v :: vs)
      | none => none
    | none => none
theorem resE_sound : ∀ (l : List ResultVar) (vs : List V) (K : List V → Prop), resE P e st l = some vs → K vs → resP P e st l K := by
  intro l
  induction l with
  | nil => intro vs K h hk; simp only [resE, Option.some.injEq] at h; subst h; exact hk
  | cons a l ih =>
    intro vs K h hk
    cases a with
    | tmp t =>
      unfold resE at h
      split at h <;> try (cases h; done)
      rename_i hh
      simp only [Option.some.injEq] at h
      subst h
      exact ih _ (fun vs => K (e.get t :: vs)) hh hk
    | cell b t =>
      unfold resE at h
      split at h <;> try (cases h; done)
      rename_i hl
      split at h <;> try (cases h; done)
      rename_i hh
      simp only [Option.some.injEq] at h
      subst h
      refine loadE_sound (K := fun v => resP P e st l fun vs => K (v :: vs)) hl ?_
      exact ih _ (fun vs => K (_ :: vs)) hh hk

def isEnd : Exit → Bool
  | .normal | .ret => true
  | _ => false

/-- A function at fixed arguments; n: how deep the calls may lie; m: how many rounds a loop may have. -/
noncomputable def funE (P : Program) (gl : Nat → V) (known : CallE) (m : Nat) : Nat → CallE
  | 0 => fun _ _ _ => none
  | n + 1 => fun k args st => match known k args st with
    | some r => some r
    | none => match P.funcs[k]? with
      | some fn => match fn.body with
        | some c => match codeE P gl (funE P gl known m n) m c (env0 fn.ntmps args) st with
          | some (x, e', st') => if isEnd x = true then match resE P e' st' fn.results.toList with
            | some vs => some ((resV vs).trim st.length, trimS st.length st')
            | none => none
            else none
          | none => none
        | none => none
      | none => none

/-- **What a run at fixed arguments gives is so.** -/
theorem funE_sound {known : CallE} (hkn : known.ok P gl) (hfol : P.follows .mixedOrders = true) {m : Nat} : ∀ n, (funE P gl known m n).ok P gl := by
  intro n
  induction n with
  | zero => intro k args st v st' h; cases h
  | succ n ih =>
    intro k args st v st' h
    unfold funE at h
    split at h
    · rename_i hh
      simp only [Option.some.injEq] at h
      subst h
      exact hkn _ _ _ _ _ hh
    split at h <;> try (cases h; done)
    rename_i fn hfn
    split at h <;> try (cases h; done)
    rename_i c hb
    split at h <;> try (cases h; done)
    rename_i x e' st1 hcode
    split at h <;> try (cases h; done)
    rename_i hx
    split at h <;> try (cases h; done)
    rename_i vs hres
    simp only [Option.some.injEq, Prod.mk.injEq] at h
    obtain ⟨rfl, rfl⟩ := h
    refine Call.of_body hfn hb (codeE_sound ih hfol _ _ _ _ _ _ _ hcode ⟨?_, ?_⟩)
    · cases x <;> first | exact .inl rfl | exact .inr rfl | cases hx
    · exact resE_sound _ _ _ hres ⟨st.length, _, _, Nat.le_refl _, V.le_refl _ _, StLe.refl _, rfl, rfl⟩
end
end Go.Duo
