/-
  A part of the proof.
-/
import Derived.Test.YtmjngcfigfkafaaDoorDEval
set_option linter.all false
namespace Go.Duo
open Go
abbrev CallE := FuncId → List V → List O → Option (V × List O)
section
variable {P : Program} {gl : Nat → V} {r : Option Nat} {e : Env} {st : List O} {Q : Exit → Env → List O → Prop}
/-- What a reckoner of calls must keep. -/
def CallE.ok (P : Program) (gl : Nat → V) (call : CallE) : Prop := ∀ k args st v st', call k args st = some (v, st') → Call P gl k args st (fun v' st'' => v' = v ∧ st'' = st')
def keep (st : List O) (o : Option V) : Option (V × List O) := match o with
  | some v => some (v, st)
  | none => none
theorem keep_eq {o : Option V} {v : V} {st' : List O} (h : keep st o = some (v, st')) : o = some v ∧ st' = st := by
  unfold keep at h
  split at h
  · simp only [Option.some.injEq, Prod.mk.injEq] at h; exact ⟨by rw [h.1], h.2.symm⟩
  · cases h
def ifcE (P : Program) (t : TypeId) (op : BinOp) (x : V) : Option V :=
  match isIfc P t with
  | true => match x, op with
    | .niliface, .eql => some (.bool true)
    | .niliface, .neq => some (.bool false)
    | .iface _ _, .eql => some (.bool false)
    | .iface _ _, .neq => some (.bool true)
    | _, _ => none
  | false => none
theorem ifcE_sound {K : V → Prop} {t : TypeId} {op : BinOp} {x v : V} (h : ifcE P t op x = some v) (hk : K v) : ifcP P t op x K := by
  unfold ifcE at h; unfold ifcP
  split at h <;> try (cases h; done)
  rename_i hi
  refine ⟨hi, ?_⟩
  split at h <;> first | (cases h; done) | (simp only [Option.some.injEq] at h; subst h; exact hk)
def stepE (P : Program) (call : CallE) (ρ : Operand → V) (st : List O) (op : Op) : Option (V × List O) :=
  match op with
  | .move x => some (ρ x, st)
  | .assign x => some (ρ x, st)
  | .pick c a b => match ρ c with
    | .bool t => some (if t then ρ a else ρ b, st)
    | _ => none
  | .binOp op t x y _ => match isNilC y with
    | true => keep st (ifcE P t op (ρ x))
    | false => keep st (binE P t op (ρ x) (ρ y))
  | .unOp op _ x => keep st (unE op (ρ x))
  | .convert src dst x => match P.underlying src, P.underlying dst, ρ x with
    | some (.int _), some (.int k), .int _ n => some (.int k (k.wrap n), st)
    | some .string, some .string, .str l => some (.str l, st)
    | _, _, _ => none
  | .extract x i => match ρ x with
    | .tuple vs => if i < vs.length then some (vs.getD i .undef, st) else none
    | _ => none
  | .makeFunc fn first captured => some (.func fn (first.toList.map ρ) (captured.toList.map ρ), st)
  | .nilCheck x => if notNil (ρ x) = true then some (ρ x, st) else none
  | .load t x => keep st (loadE P t st (ρ x))
  | .store t x y => match storeE P t st (ρ x) (ρ y) with
    | some st' => some (.undef, st')
    | none => none
  | .fieldAddr t x f => keep st (faE P t st f (ρ x))
  | .field t x f => keep st (fieldE P t f (ρ x))
  | .indexAddr t x i => keep st (iaE P t st (ρ x) (ρ i))
  | .index t x i => keep st (ixE P t (ρ x) (ρ i))
  | .slice t x lo hi mx => keep st (sliceE P t (ρ x) (lo.map ρ) (hi.map ρ) (mx.map ρ))
  | .box t x => if (ρ x).cells.all V.one = true then some (.ptr st.length 0, st ++ [.box t (ρ x).cells]) else none
  | .alloc t => match zro P t with
    | some z => some (.ptr st.length 0, st ++ [.box t z])
    | none => none
  | .makeSlice t x y => makeE P t st (ρ x) (ρ y)
  | .build t parts => keep st (buildE P t (parts.toList.map fun p => (p.1, ρ p.2)))
  | .buildSlice t len parts => if len = 0 then (if parts.size = 0 ∧ (elt P t).isSome = true then some (.nil, st) else none) else match buildSliceE P t len (parts.toList.map fun p => (p.1, ρ p.2)) with
    | some (es, e, sz) => some (.sl es (some st.length), st ++ [.tok e sz len])
    | none => none
  | .call c => match c.callee with
    | .value f => match ρ f with
      | .func (.func k) fs cs => if ent P k = true then call k (fs ++ c.args.toList.map ρ ++ cs) st else none
      | _ => none
    | .builtin .len => match c.args.toList, c.argTypes.toList with
      | [x], [t] => keep st (lenE st P t (ρ x))
      | _, _ => none
    | .builtin .append => match c.args.toList, c.argTypes.toList with
      | [x, y], [t, u] => if t = u then appE P t st (ρ x) (ρ y) else none
      | _, _ => none
    | .builtin .max => match c.args.toList with
      | [x, y] => match ρ x, ρ y with
        | .int k a, .int _ b => some (.int k (if a < b then b else a), st)
        | _, _ => none
      | _ => none
    | .builtin .min => match c.args.toList with
      | [x, y] => match ρ x, ρ y with
        | .int k a, .int _ b => some (.int k (if b < a then b else a), st)
        | _, _ => none
      | _ => none
    | _ => none
  | _ => none
theorem stepE_sound {call : CallE} (hc : call.ok P gl) {ρ : Operand → V} {op : Op} {v : V} {st' : List O} {K : V → List O → Prop} (h : stepE P call ρ st op = some (v, st')) (hk : K v st') : step1 P gl ρ st op K := by
  have kp : ∀ {o : Option V} {X : Prop}, keep st o = some (v, st') → (o = some v → K v st → X) → X := fun hh hX => by
    obtain ⟨h1, rfl⟩ := keep_eq hh
    exact hX h1 hk
  have in1 : ∀ {a : V} {s : List O}, some (a, s) = some (v, st') → K a s := fun hh => by
    simp only [Option.some.injEq, Prod.mk.injEq] at hh
    obtain ⟨rfl, rfl⟩ := hh
    exact hk
  unfold stepE at h; unfold step1
  cases op <;> (try simp only at h ⊢) <;> (try (cases h; done))
  case move => exact in1 h
  case assign => exact in1 h
  case pick =>
    split at h <;> try (cases h; done)
    rename_i hh; simp only [hh]; exact in1 h
  case binOp op t x y yt =>
    cases hny : isNilC y with
    | true =>
      simp only [hny] at h
      simp only [if_true]
      exact kp h fun h1 h2 => ifcE_sound h1 h2
    | false =>
      simp only [hny] at h
      simp only [Bool.false_eq_true, if_false]
      exact kp h fun h1 h2 => binE_sound h1 h2
  case unOp => exact kp h fun h1 h2 => unE_sound h1 h2
  case convert =>
    split at h <;> try (cases h; done)
    · rename_i h1 h2 h3; simp only [h1, h2, h3]; exact in1 h
    · rename_i h1 h2 h3; simp only [h1, h2, h3]; exact in1 h
  case extract =>
    split at h <;> try (cases h; done)
    rename_i hh; simp only [hh]
    split at h <;> try (cases h; done)
    exact ⟨by assumption, in1 h⟩
  case makeFunc => exact in1 h
  case nilCheck =>
    split at h <;> try (cases h; done)
    exact ⟨by assumption, in1 h⟩
  case load => exact kp h fun h1 h2 => loadE_sound h1 h2
  case store =>
    split at h <;> try (cases h; done)
    rename_i hh
    exact storeE_sound hh (in1 h)
  case fieldAddr => exact kp h fun h1 h2 => faE_sound h1 h2
  case field => exact kp h fun h1 h2 => fieldE_sound h1 h2
  case indexAddr => exact kp h fun h1 h2 => iaE_sound h1 h2
  case index => exact kp h fun h1 h2 => ixE_sound h1 h2
  case slice => exact kp h fun h1 h2 => sliceE_sound h1 h2
  case box =>
    split at h <;> try (cases h; done)
    exact ⟨by assumption, in1 h⟩
  case alloc =>
    split at h <;> try (cases h; done)
    rename_i hh; simp only [hh]; exact in1 h
  case makeSlice => exact makeE_sound h hk
  case build => exact kp h fun h1 h2 => buildE_sound h1 h2
  case buildSlice t len parts =>
    split at h
    · rename_i h0
      split at h <;> try (cases h; done)
      rename_i hh
      refine ⟨fun _ => hh.1, ?_⟩
      unfold buildSliceP
      cases he : elt P t with
      | none => rw [he] at hh; cases hh.2
      | some a =>
        obtain ⟨a, b, c⟩ := a
        simp only
        rw [if_pos h0]
        exact in1 h
    · rename_i h0
      refine ⟨fun hh => absurd hh h0, ?_⟩
      split at h <;> try (cases h; done)
      rename_i hh
      unfold buildSliceE at hh; unfold buildSliceP
      split at hh <;> try (cases hh; done)
      rename_i he
      simp only [he]
      rw [if_neg h0]
      split at hh <;> try (cases hh; done)
      rename_i hcc
      simp only [Option.some.injEq, Prod.mk.injEq] at hh
      obtain ⟨rfl, rfl, rfl⟩ := hh
      exact ⟨hcc.1, hcc.2.1, partsB_spec hcc.2.2, in1 h⟩
  case call c =>
    cases hcal : c.callee with
    | value f =>
      rw [hcal] at h
      simp only at h ⊢
      split at h <;> try (cases h; done)
      rename_i hf
      simp only [hf]
      split at h <;> try (cases h; done)
      refine ⟨by assumption, ?_⟩
      exact Call.mono (hc _ _ _ _ _ h) fun v' s' hv => by obtain ⟨rfl, rfl⟩ := hv; exact hk
    | invoke a m => rw [hcal] at h; cases h
    | builtin b =>
      rw [hcal] at h
      cases b <;> (try simp only at h ⊢) <;> (try (cases h; done))
      case len =>
        split at h <;> try (cases h; done)
        rename_i h1 h2; simp only [h1, h2]; exact kp h fun h1 h2 => lenE_sound h1 h2
      case append =>
        split at h <;> try (cases h; done)
        rename_i h1 h2; simp only [h1, h2]
        split at h <;> try (cases h; done)
        exact ⟨by assumption, appE_sound h hk⟩
      all_goals
        split at h <;> try (cases h; done)
        rename_i h1; simp only [h1]
        split at h <;> try (cases h; done)
        rename_i h1 h2; simp only [h1, h2]; exact in1 h
mutual
def V.eqb : V → V → Bool
  | .undef, .undef => true
  | .int k n, .int k' n' => decide (k = k') && decide (n = n')
  | .bool a, .bool b => decide (a = b)
  | .str a, .str b => decide (a = b)
  | .agg a, .agg b => V.eqbL a b
  | .tuple a, .tuple b => V.eqbL a b
  | .sl a t, .sl b t' => V.eqbL a b && decide (t = t')
  | .nil, .nil => true
  | .ptr i o, .ptr i' o' => decide (i = i') && decide (o = o')
  | .dptr a, .dptr b => V.eqbL a b
  | .nilptr, .nilptr => true
  | .nilfunc, .nilfunc => true
  | .niliface, .niliface => true
  | .map i, .map j => decide (i = j)
  | _, _ => false
def V.eqbL : List V → List V → Bool
  | [], [] => true
  | a :: as, b :: bs => V.eqb a b && V.eqbL as bs
  | _, _ => false
end
mutual
theorem V.eqb_eq : ∀ {a b : V}, V.eqb a b = true → a = b := fun {a b} h => by
  cases a <;> cases b <;> simp only [V.eqb, Bool.and_eq_true, decide_eq_true_eq] at h <;> first | (cases h; done) | rfl | (subst h; rfl) | (obtain ⟨rfl, rfl⟩ := h; rfl) | (rw [V.eqbL_eq h]) | (rw [V.eqbL_eq h.1, h.2])
theorem V.eqbL_eq : ∀ {a b : List V}, V.eqbL a b = true → a = b := fun {a b} h => by
  cases a <;> cases b <;> simp only [V.eqbL, Bool.and_eq_true] at h <;> first | (cases h; done) | rfl | (rw [V.eqb_eq h.1, V.eqbL_eq h.2])
end
def O.eqb : O → O → Bool
  | .box t cs, .box t' cs' => decide (t = t') && V.eqbL cs cs'
  | .map a b, .map a' b' => V.eqbL a a' && V.eqbL b b'
  | .tok e s n, .tok e' s' n' => decide (e = e') && decide (s = s') && decide (n = n')
  | .arr e s v es, .arr e' s' v' es' => decide (e = e') && decide (s = s') && decide (v = v') && V.eqbL es es'
  | .dead, .dead => true
  | _, _ => false
theorem O.eqb_eq {a b : O} (h : O.eqb a b = true) : a = b := by
  cases a <;> cases b <;> simp only [O.eqb, Bool.and_eq_true, decide_eq_true_eq] at h <;> first | (cases h; done) | rfl | (rw [h.1, V.eqbL_eq h.2]) | (rw [V.eqbL_eq h.1, V.eqbL_eq h.2]) | (rw [h.1.1, h.1.2, h.2]) | (rw [h.1.1.1, h.1.1.2, h.1.2, V.eqbL_eq h.2])
def stEqb : List O → List O → Bool
  | [], [] => true
  | a :: as, b :: bs => O.eqb a b && stEqb as bs
  | _, _ => false
theorem stEqb_eq : ∀ {a b : List O}, stEqb a b = true → a = b := fun {a b} h => by
  induction a generalizing b with
  | nil => cases b with
    | nil => rfl
    | cons => cases h
  | cons x a ih => cases b with
    | nil => cases h
    | cons y b =>
      simp only [stEqb, Bool.and_eq_true] at h
      rw [O.eqb_eq h.1, ih h.2]
/-- Operations that may come in whatever order. -/
def stepAE (P : Program) (call : CallE) (ρ : Operand → V) (st : List O) (op : Op) : Option (V × Option ((Nat → V) × O)) :=
  match op with
  | .alloc t => match zro P t with
    | some z => some (.undef, some (fun i => .ptr i 0, .box t z))
    | none => none
  | .buildSlice t len parts => if len = 0 then (if parts.size = 0 ∧ (elt P t).isSome = true then some (.nil, none) else none) else match buildSliceE P t len (parts.toList.map fun p => (p.1, ρ p.2)) with
    | some (es, e, sz) => some (.sl es none, some (fun i => .sl es (some i), .tok e sz len))
    | none => none
  | op => if calm op = true then match stepE P (fun _ _ _ => none) ρ st op with
      | some (v, _) => some (v, none)
      | none => none
    else match op with
    | .call c => match c.callee with
      | .value f => match ρ f with
        | .func (.func k) fs cs => if ent P k = true then match call k (fs ++ c.args.toList.map ρ ++ cs) st with
          | some (v, st') => if stEqb st' st = true then some (v, none) else none
          | none => none
          else none
        | _ => none
      | .builtin .append => match c.args.toList, c.argTypes.toList with
        | [x, y], [t, u] => if t = u then match elt P t, rowOf (ρ y), ρ x with
          | some (e, sz, by_), some es2, .nil => if (es2.all fun e => e.cells.length == sz) = true ∧ es2.length * by_ ≤ 140737488355328 ∧ es2.length ≤ maxLen then match es2 with
            | [] => some (.nil, none)
            | _ => some (.sl es2 none, some (fun i => .sl es2 (some i), .tok e sz es2.length))
            else none
          | _, _, _ => none
          else none
        | _, _ => none
      | _ => none
    | _ => none
theorem stepAE_sound {call : CallE} (hc : call.ok P gl) {ρ : Operand → V} {op : Op} {v : V} {u : Option ((Nat → V) × O)} {K : V → Option ((Nat → V) × O) → Prop} (h : stepAE P call ρ st op = some (v, u)) (hk : K v u) : stepA P gl ρ st op K := by
  have in1 : ∀ {a : V} {s : Option ((Nat → V) × O)}, some (a, s) = some (v, u) → K a s := fun hh => by
    simp only [Option.some.injEq, Prod.mk.injEq] at hh
    obtain ⟨rfl, rfl⟩ := hh
    exact hk
  have cm : calm op = true → (match stepE P (fun _ _ _ => none) ρ st op with
      | some (v, _) => some (v, (none : Option ((Nat → V) × O)))
      | none => none) = some (v, u) → step1 P gl ρ st op (fun v _ => K v none) := fun hcm h => by
    split at h <;> try (cases h; done)
    rename_i hs
    exact stepE_sound (K := fun v _ => K v none) (fun k args st v st' hh => by cases hh) hs (in1 h)
  cases op <;> (try (simp only [stepAE, calm, Bool.false_eq_true, if_false] at h; cases h; done))
  case alloc t =>
    simp only [stepAE] at h; unfold stepA; simp only
    split at h <;> try (cases h; done)
    rename_i hh; simp only [hh]; exact in1 h
  case buildSlice t len parts =>
    simp only [stepAE] at h; unfold stepA; simp only
    split at h
    · rename_i h0
      split at h <;> try (cases h; done)
      rename_i hh
      refine ⟨fun _ => hh.1, ?_⟩
      unfold buildSliceA
      cases he : elt P t with
      | none => rw [he] at hh; cases hh.2
      | some a =>
        obtain ⟨a, b, c⟩ := a
        simp only
        rw [if_pos h0]
        exact in1 h
    · rename_i h0
      refine ⟨fun hh => absurd hh h0, ?_⟩
      split at h <;> try (cases h; done)
      rename_i hh
      unfold buildSliceE at hh; unfold buildSliceA
      split at hh <;> try (cases hh; done)
      rename_i he
      simp only [he]
      rw [if_neg h0]
      split at hh <;> try (cases hh; done)
      rename_i hcc
      simp only [Option.some.injEq, Prod.mk.injEq] at hh
      obtain ⟨rfl, rfl, rfl⟩ := hh
      exact ⟨hcc.1, hcc.2.1, partsB_spec hcc.2.2, in1 h⟩
  case call c =>
    unfold stepA; simp only
    cases hcal : c.callee with
    | value f =>
      simp only [stepAE, calm, hcal, Bool.false_eq_true, if_false] at h ⊢
      split at h <;> try (cases h; done)
      rename_i hf
      simp only [hf]
      split at h <;> try (cases h; done)
      refine ⟨by assumption, ?_⟩
      split at h <;> try (cases h; done)
      rename_i hcl
      split at h <;> try (cases h; done)
      rename_i heq
      exact ⟨_, Call.mono (hc _ _ _ _ _ hcl) fun v' s' hv => ⟨hv.1, hv.2.trans (stEqb_eq heq)⟩, in1 h⟩
    | invoke a m => simp only [stepAE, calm, hcal, Bool.false_eq_true, if_false] at h; cases h
    | builtin b =>
      cases b <;> (try (simp only [stepAE, calm, hcal, Bool.false_eq_true, if_false] at h; cases h; done))
      case append =>
        simp only [stepAE, calm, hcal, Bool.false_eq_true, if_false] at h ⊢
        split at h <;> try (cases h; done)
        rename_i h1 h2; simp only [h1, h2]
        split at h <;> try (cases h; done)
        refine ⟨by assumption, ?_⟩
        split at h <;> try (cases h; done)
        rename_i he hr hx
        split at h <;> try (cases h; done)
        rename_i hcc
        unfold appendA
        simp only [he, hr, hx]
        refine ⟨fun e he => by simpa using List.all_eq_true.1 hcc.1 e he, hcc.2.1, hcc.2.2, .inr ?_⟩
        split at h
        · exact ⟨fun _ => in1 h, fun hh => absurd rfl hh⟩
        · rename_i hne
          exact ⟨fun hh => absurd hh hne, fun _ => in1 h⟩
      all_goals
        simp only [stepAE, calm, hcal, if_true] at h ⊢
        exact cm (by simp only [calm, hcal]) h
  all_goals
    simp only [stepAE, calm, if_true] at h
    unfold stepA
    simp only [calm, if_true]
    exact cm rfl h
/-- The frame, each temporary once. -/
def known (t : Nat) (v : V) : Option (Nat × V) := match v with | .undef => none | v => some (t, v)
end
end Go.Duo
