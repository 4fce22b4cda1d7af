/-
  A part of the proof.
-/
import Derived.Test.YtmjngcfigfkafaaDoorDEvalC
import Derived.Test.YtmjngcfigfkafaaDoorDKit
import Derived.Attr
import Derived.Test.YtmjngcfigfkafaaDoorDLate
set_option linter.all false
namespace Go.Duo
open Go
section
variable {P : Program} {gl : Nat → V} {r : Option Nat} {e : Env} {st : List O} {Q : Exit → Env → List O → Prop}
def nocall : CallE := fun _ _ _ => none
theorem nocall_ok : CallE.ok P gl nocall := fun _ _ _ _ _ h => by cases h
/-- Here the reckoning stops. -/
def stopOp : Op → Bool
  | .call c => match c.callee with
    | .value _ => true
    | _ => false
  | _ => false
def fitsL (n : Nat) : List Oper → Bool
  | [] => true
  | o :: l => (match o.dst with | none => true | some d => Nat.blt d n) && fitsL n l
def regS (P : Program) (gl : Nat → V) : List Oper → Env → List O → Option (Env × List O × List Oper)
  | [], e, st => some (e, st, [])
  | o :: rest, e, st => match o.guard with
    | some _ => some (e, st, o :: rest)
    | none => match stopOp o.op with
      | true => some (e, st, o :: rest)
      | false => match stepE P nocall (e.ev gl) st o.op with
        | some (v, st') => regS P gl rest (e.put o.dst v) st'
        | none => none
/-- The same in pieces, as simp likes it. -/
def regB (P : Program) (gl : Nat → V) (b : Bool) (o : Oper) (rest : List Oper) (e : Env) (st : List O) : Option (Env × List O × List Oper) :=
  match b with
  | true => some (e, st, o :: rest)
  | false => match stepE P nocall (e.ev gl) st o.op with
    | some (v, st') => regS P gl rest (e.put o.dst v) st'
    | none => none
def regC (P : Program) (gl : Nat → V) (d : Option Tmp) (rest : List Oper) (e : Env) : Option (V × List O) → Option (Env × List O × List Oper)
  | some (v, st') => regS P gl rest (e.put d v) st'
  | none => none
theorem regS_nil (P : Program) (gl : Nat → V) (e : Env) (st : List O) : regS P gl [] e st = some (e, st, []) := rfl
theorem regS_g (P : Program) (gl : Nat → V) (d : Option Tmp) (op : Op) (t : TypeId) (p : String) (a : Array Edge) (g : Nat × Bool) (rest : List Oper) (e : Env) (st : List O) :
    regS P gl (⟨d, op, t, p, a, some g⟩ :: rest) e st = some (e, st, ⟨d, op, t, p, a, some g⟩ :: rest) := rfl
theorem regS_op (P : Program) (gl : Nat → V) (d : Option Tmp) (op : Op) (t : TypeId) (p : String) (a : Array Edge) (rest : List Oper) (e : Env) (st : List O) :
    regS P gl (⟨d, op, t, p, a, none⟩ :: rest) e st = regB P gl (stopOp op) ⟨d, op, t, p, a, none⟩ rest e st := by
  simp only [regS, regB]
theorem regB_t (P : Program) (gl : Nat → V) (o : Oper) (rest : List Oper) (e : Env) (st : List O) : regB P gl true o rest e st = some (e, st, o :: rest) := rfl
theorem regB_f (P : Program) (gl : Nat → V) (d : Option Tmp) (op : Op) (t : TypeId) (p : String) (a : Array Edge) (rest : List Oper) (e : Env) (st : List O) :
    regB P gl false ⟨d, op, t, p, a, none⟩ rest e st = regC P gl d rest e (stepE P nocall (e.ev gl) st op) := by
  simp only [regB, regC]
theorem regC_s (P : Program) (gl : Nat → V) (d : Option Tmp) (rest : List Oper) (e : Env) (v : V) (st' : List O) : regC P gl d rest e (some (v, st')) = regS P gl rest (e.put d v) st' := rfl
theorem put_n (e : Env) (d : Option Tmp) (v : V) : (e.put d v).n = e.n := by cases d <;> rfl
theorem awL_S {ops : Array Oper} {K : Env → List O → Prop} : ∀ {l : List Oper} {e : Env} {st : List O} {e' : Env} {st' : List O} {rest : List Oper}, fitsL e.n l = true → regS P gl l e st = some (e', st', rest) → awL P gl ops rest e' st' K → awL P gl ops l e st K := by
  intro l
  induction l with
  | nil =>
    intro e st e' st' rest _ h hk
    simp only [regS, Option.some.injEq, Prod.mk.injEq] at h
    obtain ⟨rfl, rfl, rfl⟩ := h
    exact hk
  | cons o l ih =>
    intro e st e' st' rest hf h hk
    unfold regS at h
    split at h
    · simp only [Option.some.injEq, Prod.mk.injEq] at h
      obtain ⟨rfl, rfl, rfl⟩ := h
      exact hk
    · rename_i hg
      split at h
      · simp only [Option.some.injEq, Prod.mk.injEq] at h
        obtain ⟨rfl, rfl, rfl⟩ := h
        exact hk
      · split at h <;> try (cases h; done)
        rename_i hs
        simp only [fitsL, Bool.and_eq_true] at hf
        unfold awL
        refine ⟨?_, ?_⟩
        · cases hd : o.dst with
          | none => trivial
          | some d => have := hf.1; rw [hd] at this; simpa [Env.fits] using this
        · rw [hg]
          exact stepE_sound (K := fun v st' => awL P gl ops l (e.put o.dst v) st' K) nocall_ok hs (ih (by rw [put_n]; exact hf.2) h hk)
theorem awL_S1 {ops : Array Oper} {K : Env → List O → Prop} {d : Option Tmp} {op : Op} {t : TypeId} {p : String} {a : Array Edge} {l : List Oper} {e' : Env} {st' : List O} {rest : List Oper} (_ : stopOp op = false) (hf : fitsL e.n (⟨d, op, t, p, a, none⟩ :: l) = true)
    (h : regS P gl (⟨d, op, t, p, a, none⟩ :: l) e st = some (e', st', rest)) (hk : awL P gl ops rest e' st' K) : awL P gl ops (⟨d, op, t, p, a, none⟩ :: l) e st K := awL_S hf h hk
theorem awL_nil {ops : Array Oper} {K : Env → List O → Prop} (h : K e st) : awL P gl ops [] e st K := h
/-- A call of a function: what it does is known. -/
theorem awL_call {ops : Array Oper} {K : Env → List O → Prop} {d : Option Tmp} {f : Operand} {args : Array Operand} {ats : Array TypeId} {t : TypeId} {p : String} {a : Array Edge} {rest : List Oper} {k : FuncId} {fs cs : List V} {vs : List V} {v0 : V} {st0 : List O}
    (hf : e.ev gl f = .func (.func k) fs cs) (he : ent P k = true) (ha : fs ++ args.toList.map (e.ev gl) ++ cs = vs) (hc : Call P gl k vs st fun v st' => v = v0 ∧ st' = st0) (hfit : fitB e d = true) (hk : awL P gl ops rest (e.put d v0) st0 K) :
    awL P gl ops (⟨d, .call ⟨.value f, args, ats⟩, t, p, a, none⟩ :: rest) e st K := by
  unfold awL
  refine ⟨fits_of hfit, ?_⟩
  simp only [step1, hf, ha]
  exact ⟨he, Call.mono hc (by rintro v st' ⟨rfl, rfl⟩; exact hk)⟩
/-- The guard lets it be. -/
theorem awL_gyes {ops : Array Oper} {K : Env → List O → Prop} {d : Option Tmp} {op : Op} {t : TypeId} {p : String} {a : Array Edge} {rest : List Oper} {j c : Nat} {want : Bool}
    (hd : (ops[j]?).bind (·.dst) = some c) (hv : e.get c = .bool want) (h : awL P gl ops (⟨d, op, t, p, a, none⟩ :: rest) e st K) : awL P gl ops (⟨d, op, t, p, a, some (j, want)⟩ :: rest) e st K := by
  unfold awL at h ⊢
  refine ⟨h.1, ?_⟩
  simp only [hd]
  rw [hv]
  simp only [Split]
  have := h.2
  cases want
  · exact ⟨fun h => (by cases h), fun _ => by rw [if_neg (by simp)]; exact this⟩
  · exact ⟨fun _ => by rw [if_pos rfl]; exact this, fun h => by cases h⟩
theorem awL_gno {ops : Array Oper} {K : Env → List O → Prop} {d : Option Tmp} {op : Op} {t : TypeId} {p : String} {a : Array Edge} {rest : List Oper} {j c : Nat} {want : Bool}
    (hd : (ops[j]?).bind (·.dst) = some c) (hv : e.get c = .bool (!want)) (hf : fitB e d = true) (h : awL P gl ops rest (e.put d (.tuple [])) st K) : awL P gl ops (⟨d, op, t, p, a, some (j, want)⟩ :: rest) e st K := awL_no rfl hd hv hf h
theorem awL_gcase {ops : Array Oper} {K : Env → List O → Prop} {d : Option Tmp} {op : Op} {t : TypeId} {p : String} {a : Array Edge} {rest : List Oper} {j c : Nat} {want b : Bool}
    (_ : (ops[j]?).bind (·.dst) = some c) (_ : e.get c = .bool b) (h1 : b = true → awL P gl ops (⟨d, op, t, p, a, some (j, want)⟩ :: rest) e st K) (h2 : b = false → awL P gl ops (⟨d, op, t, p, a, some (j, want)⟩ :: rest) e st K) :
    awL P gl ops (⟨d, op, t, p, a, some (j, want)⟩ :: rest) e st K := by cases b <;> simp_all
def anyS (P : Program) (gl : Nat → V) : List Oper → Env → List O → List Up → Option (Env × List Up × List Oper)
  | [], e, _, ups => some (e, ups, [])
  | o :: rest, e, st, ups => match o.guard with
    | some _ => some (e, ups, o :: rest)
    | none => match stopOp o.op with
      | true => some (e, ups, o :: rest)
      | false => match stepAE P nocall (e.ev gl) st o.op, o.dst with
        | some (v, none), d => anyS P gl rest (e.put d v) st ups
        | some (v, some (f, ob)), some d => anyS P gl rest (e.put (some d) v) st (ups ++ [(d, f, ob)])
        | _, _ => none
def anB (P : Program) (gl : Nat → V) (b : Bool) (o : Oper) (rest : List Oper) (e : Env) (st : List O) (ups : List Up) : Option (Env × List Up × List Oper) :=
  match b with
  | true => some (e, ups, o :: rest)
  | false => match stepAE P nocall (e.ev gl) st o.op, o.dst with
    | some (v, none), d => anyS P gl rest (e.put d v) st ups
    | some (v, some (f, ob)), some d => anyS P gl rest (e.put (some d) v) st (ups ++ [(d, f, ob)])
    | _, _ => none
def anC (P : Program) (gl : Nat → V) (d : Option Tmp) (rest : List Oper) (e : Env) (st : List O) (ups : List Up) : Option (V × Option ((Nat → V) × O)) → Option (Env × List Up × List Oper)
  | some (v, none) => anyS P gl rest (e.put d v) st ups
  | some (v, some (f, ob)) => match d with
    | some d => anyS P gl rest (e.put (some d) v) st (ups ++ [(d, f, ob)])
    | none => none
  | none => none
theorem anyS_nil (P : Program) (gl : Nat → V) (e : Env) (st : List O) (ups : List Up) : anyS P gl [] e st ups = some (e, ups, []) := rfl
theorem anyS_g (P : Program) (gl : Nat → V) (d : Option Tmp) (op : Op) (t : TypeId) (p : String) (a : Array Edge) (g : Nat × Bool) (rest : List Oper) (e : Env) (st : List O) (ups : List Up) :
    anyS P gl (⟨d, op, t, p, a, some g⟩ :: rest) e st ups = some (e, ups, ⟨d, op, t, p, a, some g⟩ :: rest) := rfl
theorem anyS_op (P : Program) (gl : Nat → V) (d : Option Tmp) (op : Op) (t : TypeId) (p : String) (a : Array Edge) (rest : List Oper) (e : Env) (st : List O) (ups : List Up) :
    anyS P gl (⟨d, op, t, p, a, none⟩ :: rest) e st ups = anB P gl (stopOp op) ⟨d, op, t, p, a, none⟩ rest e st ups := by
  simp only [anyS, anB]
theorem anB_t (P : Program) (gl : Nat → V) (o : Oper) (rest : List Oper) (e : Env) (st : List O) (ups : List Up) : anB P gl true o rest e st ups = some (e, ups, o :: rest) := rfl
theorem anB_f (P : Program) (gl : Nat → V) (d : Option Tmp) (op : Op) (t : TypeId) (p : String) (a : Array Edge) (rest : List Oper) (e : Env) (st : List O) (ups : List Up) :
    anB P gl false ⟨d, op, t, p, a, none⟩ rest e st ups = anC P gl d rest e st ups (stepAE P nocall (e.ev gl) st op) := by
  simp only [anB]
  cases stepAE P nocall (e.ev gl) st op with
  | none => rfl
  | some u => obtain ⟨v, _ | ⟨f, ob⟩⟩ := u <;> cases d <;> rfl
theorem anC_s (P : Program) (gl : Nat → V) (d : Option Tmp) (rest : List Oper) (e : Env) (st : List O) (ups : List Up) (v : V) : anC P gl d rest e st ups (some (v, none)) = anyS P gl rest (e.put d v) st ups := rfl
theorem anC_n (P : Program) (gl : Nat → V) (d : Tmp) (rest : List Oper) (e : Env) (st : List O) (ups : List Up) (v : V) (f : Nat → V) (ob : O) : anC P gl (some d) rest e st ups (some (v, some (f, ob))) = anyS P gl rest (e.put (some d) v) st (ups ++ [(d, f, ob)]) := rfl
theorem awA_S {ops : Array Oper} {K : Env → List O → Prop} : ∀ {l : List Oper} {e : Env} {ups : List Up} {e' : Env} {ups' : List Up} {rest : List Oper}, fitsL e.n l = true → anyS P gl l e st ups = some (e', ups', rest) → awA P gl ops rest e' st ups' K → awA P gl ops l e st ups K := by
  intro l
  induction l with
  | nil =>
    intro e ups e' ups' rest _ h hk
    simp only [anyS, Option.some.injEq, Prod.mk.injEq] at h
    obtain ⟨rfl, rfl, rfl⟩ := h
    exact hk
  | cons o l ih =>
    intro e ups e' ups' rest hf h hk
    unfold anyS at h
    split at h
    · simp only [Option.some.injEq, Prod.mk.injEq] at h
      obtain ⟨rfl, rfl, rfl⟩ := h
      exact hk
    · rename_i hg
      split at h
      · simp only [Option.some.injEq, Prod.mk.injEq] at h
        obtain ⟨rfl, rfl, rfl⟩ := h
        exact hk
      · simp only [fitsL, Bool.and_eq_true] at hf
        have hfit : e.fits o.dst := by
          cases hd : o.dst with
          | none => trivial
          | some d => have := hf.1; rw [hd] at this; simpa [Env.fits] using this
        unfold awA
        refine ⟨hfit, ?_⟩
        rw [hg]
        split at h <;> try (cases h; done)
        · rename_i hs
          refine stepAE_sound nocall_ok hs ?_
          exact ih (by rw [put_n]; exact hf.2) h hk
        · rename_i hs hd
          refine stepAE_sound nocall_ok hs ?_
          rw [hd]
          exact ih (by rw [put_n]; exact hf.2) h hk
theorem awA_S1 {ops : Array Oper} {K : Env → List O → Prop} {d : Option Tmp} {op : Op} {t : TypeId} {p : String} {a : Array Edge} {l : List Oper} {ups : List Up} {e' : Env} {ups' : List Up} {rest : List Oper} (_ : stopOp op = false) (hf : fitsL e.n (⟨d, op, t, p, a, none⟩ :: l) = true)
    (h : anyS P gl (⟨d, op, t, p, a, none⟩ :: l) e st ups = some (e', ups', rest)) (hk : awA P gl ops rest e' st ups' K) : awA P gl ops (⟨d, op, t, p, a, none⟩ :: l) e st ups K := awA_S hf h hk
theorem awA_nil {ops : Array Oper} {ups : List Up} {K : Env → List O → Prop} {e' : Env} {st' : List O} (ha : applyUps ups e st = (e', st')) (h : K e' st') : awA P gl ops [] e st ups K := by
  unfold awA; rw [ha]; exact h
theorem awA_call {ops : Array Oper} {K : Env → List O → Prop} {d : Option Tmp} {f : Operand} {args : Array Operand} {ats : Array TypeId} {t : TypeId} {p : String} {a : Array Edge} {rest : List Oper} {ups : List Up} {k : FuncId} {fs cs : List V} {vs : List V} {v0 : V}
    (hf : e.ev gl f = .func (.func k) fs cs) (he : ent P k = true) (ha : fs ++ args.toList.map (e.ev gl) ++ cs = vs) (hc : Call P gl k vs st fun v st' => v = v0 ∧ st' = st) (hfit : fitB e d = true) (hk : awA P gl ops rest (e.put d v0) st ups K) :
    awA P gl ops (⟨d, .call ⟨.value f, args, ats⟩, t, p, a, none⟩ :: rest) e st ups K := by
  unfold awA
  refine ⟨fits_of hfit, ?_⟩
  simp only [stepA, hf, ha]
  exact ⟨he, v0, hc, hk⟩
theorem awA_gyes {ops : Array Oper} {K : Env → List O → Prop} {d : Option Tmp} {op : Op} {t : TypeId} {p : String} {a : Array Edge} {rest : List Oper} {ups : List Up} {j c : Nat} {want : Bool}
    (hd : (ops[j]?).bind (·.dst) = some c) (hv : e.get c = .bool want) (h : awA P gl ops (⟨d, op, t, p, a, none⟩ :: rest) e st ups K) : awA P gl ops (⟨d, op, t, p, a, some (j, want)⟩ :: rest) e st ups K := by
  unfold awA at h ⊢
  refine ⟨h.1, ?_⟩
  simp only [hd, hv, if_true]
  exact h.2
theorem awA_gno {ops : Array Oper} {K : Env → List O → Prop} {d : Option Tmp} {op : Op} {t : TypeId} {p : String} {a : Array Edge} {rest : List Oper} {ups : List Up} {j c : Nat} {want : Bool}
    (hd : (ops[j]?).bind (·.dst) = some c) (hv : e.get c = .bool (!want)) (hf : fitB e d = true) (h : awA P gl ops rest (e.put d (.tuple [])) st ups K) : awA P gl ops (⟨d, op, t, p, a, some (j, want)⟩ :: rest) e st ups K := awA_no rfl hd hv hf h
theorem awA_gcase {ops : Array Oper} {K : Env → List O → Prop} {d : Option Tmp} {op : Op} {t : TypeId} {p : String} {a : Array Edge} {rest : List Oper} {ups : List Up} {j c : Nat} {want b : Bool}
    (_ : (ops[j]?).bind (·.dst) = some c) (_ : e.get c = .bool b) (h1 : b = true → awA P gl ops (⟨d, op, t, p, a, some (j, want)⟩ :: rest) e st ups K) (h2 : b = false → awA P gl ops (⟨d, op, t, p, a, some (j, want)⟩ :: rest) e st ups K) :
    awA P gl ops (⟨d, op, t, p, a, some (j, want)⟩ :: rest) e st ups K := by cases b <;> simp_all
theorem useK {K R : Env → List O → Prop} (h : ∀ e st, R e st → K e st) (hr : R e st) : K e st := h _ _ hr
theorem tq_e {K : Env → List O → Prop} {j : Nat} (h : Q (.exit j) e st) : thenQ K Q (.exit j) e st := h
theorem bq_s {id : Nat} (h : Q .normal e st) : blockQ id Q (.exit id) e st := by simp only [blockQ, if_true]; exact h
theorem bq_o {id j : Nat} (hj : Nat.beq j id = false) (h : Q (.exit j) e st) : blockQ id Q (.exit j) e st := by
  simp only [blockQ]; rw [if_neg (Nat.ne_of_beq_eq_false hj)]; exact h
theorem AW.loopS {α : Type} {c : Code} (n : Nat) (m : α → List (Nat × V)) (o : α → List O) (μ : α → Nat) (a0 : α) (hn : Nat.ble n e.n = true) (h0 : e.has st (m a0)) (hs : StLe st (o a0))
    (round : ∀ a, Clo (o a) → AW P gl r c (thenQ (fun e' st' => ∃ a', μ a' < μ a ∧ ∃ k, (o a).length ≤ k ∧ n ≤ e'.n ∧ (e'.trim k).has (trimS k st') (m a') ∧ StLe (trimS k st') (o a')) Q) ⟨n, m a⟩ (o a)) : AW P gl r (.loop c) Q e st :=
  AW.loop n m o μ a0 (Nat.le_of_ble_eq_true hn) h0 hs fun a => AW.clo fun hc => round a hc
theorem le_self (st : List O) (a : V) : V.le st a a = True := by simp [V.le_refl]
theorem le_und (st : List O) (a : V) : V.le st a .undef = True := by simp [V.le_undef]
theorem le_nilt (st l : List O) (e : TypeId) (sz : Nat) : V.le (st ++ .tok e sz 0 :: l) .nil (.sl [] (some st.length)) = True := by
  simp only [eq_iff_iff, iff_true]
  exact V.le_nil_tok (e := e) (sz := sz) (by rw [st_get0]; rfl)
theorem le_nilt1 (st l : List O) (e : TypeId) (sz : Nat) (a : O) : V.le (st ++ a :: .tok e sz 0 :: l) .nil (.sl [] (some (st.length + 1))) = True := by
  simp only [eq_iff_iff, iff_true]
  exact V.le_nil_tok (e := e) (sz := sz) (by rw [st_get]; rfl)
theorem le_nilt2 (st l : List O) (e : TypeId) (sz : Nat) (a b : O) : V.le (st ++ a :: b :: .tok e sz 0 :: l) .nil (.sl [] (some (st.length + 2))) = True := by
  simp only [eq_iff_iff, iff_true]
  exact V.le_nil_tok (e := e) (sz := sz) (by rw [st_get]; rfl)
theorem le_nils (st : List O) : V.le st .nil (.sl [] none) = True := by simp [V.le_nil]
theorem le_drop (st : List O) (es : List V) (t : Option Nat) : V.le st (.sl es t) (.sl es none) = True := by simp [V.le_sl]
theorem sle_self (st : List O) : StLe st st = True := by simp [StLe.refl]
theorem SV : (∀ v : V, resV [v] = v) ∧ (∀ a b : V, resV [a, b] = .tuple [a, b]) ∧ (∀ a b c : V, resV [a, b, c] = .tuple [a, b, c]) ∧ (∀ a b c d : V, resV [a, b, c, d] = .tuple [a, b, c, d]) ∧ (resV [] = .tuple []) ∧
    (∀ (a b : Nat), (a : Int) + (b : Int) = ((a + b : Nat) : Int)) ∧ (∀ a : Nat, (a : Int) + 1 = ((a + 1 : Nat) : Int)) ∧ (∀ a : Nat, (a : Int) + 2 = ((a + 2 : Nat) : Int)) ∧ (((0 : Nat) : Int) = 0) ∧ (((1 : Nat) : Int) = 1) := ⟨fun _ => rfl, fun _ _ => rfl, fun _ _ _ => rfl, fun _ _ _ _ => rfl, rfl, fun _ _ => rfl, fun _ => rfl, fun _ => rfl, rfl, rfl⟩
theorem ifp {α : Type} {c : Prop} [Decidable c] {a b : α} (h : c) : (if c then a else b) = a := if_pos h
theorem ifn {α : Type} {c : Prop} [Decidable c] {a b : α} (h : ¬ c) : (if c then a else b) = b := if_neg h
theorem OT : (∀ (k : Nat) (e : TypeId) (sz n : Nat), O.trim k (.tok e sz n) = .tok e sz n) ∧ (∀ (k : Nat) (t : TypeId) (cs : List V), O.trim k (.box t cs) = .box t (cs.map (V.trim k))) ∧ (∀ (k : Nat) (e : TypeId) (sz v : Nat) (es : List V), O.trim k (.arr e sz v es) = .arr e sz v es) ∧ (∀ k : Nat, O.trim k .dead = .dead) ∧ (∀ n m : Nat, n + m - n = m) ∧ (∀ n : Nat, n - n = 0) :=
  ⟨fun _ _ _ _ => rfl, fun _ _ _ => rfl, fun _ _ _ _ _ => rfl, fun _ => rfl, fun _ _ => Nat.add_sub_cancel_left .., fun _ => Nat.sub_self _⟩
theorem SI : (∀ (P : Program) (t : TypeId), ifcE P t .eql .niliface = if isIfc P t = true then some (.bool true) else none) ∧ (∀ (P : Program) (t : TypeId), ifcE P t .neq .niliface = if isIfc P t = true then some (.bool false) else none) ∧
    (∀ (P : Program) (t u : TypeId) (v : V), ifcE P t .eql (.iface u v) = if isIfc P t = true then some (.bool false) else none) ∧ (∀ (P : Program) (t u : TypeId) (v : V), ifcE P t .neq (.iface u v) = if isIfc P t = true then some (.bool true) else none) := by
  refine ⟨fun P t => ?_, fun P t => ?_, fun P t u v => ?_, fun P t u v => ?_⟩ <;> (unfold ifcE; cases isIfc P t <;> rfl)
theorem maxLen_eq : maxLen = 9223372036854775807 := rfl
theorem wrap_u8 (x : UInt8) : IntKind.wrap .i64 (x.toNat : Int) = (x.toNat : Int) := by have := UInt8.toNat_lt x; exact i64w _ (by omega) (by omega)
def an1 : Option (V × List O) → Option (V × Option ((Nat → V) × O))
  | some (v, _) => some (v, none)
  | none => none
end
theorem SO : (∀ (x : Operand), stopOp (.move x) = false) ∧
    (∀ (x : Operand), stopOp (.assign x) = false) ∧
    (∀ (c a b : Operand), stopOp (.pick c a b) = false) ∧
    (∀ (t : TypeId), stopOp (.alloc t) = false) ∧
    (∀ (t : TypeId) (v : Operand), stopOp (.box t v) = false) ∧
    (∀ (t : TypeId) (ps : Array (Nat × Operand)), stopOp (.build t ps) = false) ∧
    (∀ (t : TypeId) (n : Nat) (ps : Array (Nat × Operand)), stopOp (.buildSlice t n ps) = false) ∧
    (∀ (t : TypeId) (x : Operand), stopOp (.load t x) = false) ∧
    (∀ (t : TypeId) (x y : Operand), stopOp (.store t x y) = false) ∧
    (∀ (x : Operand), stopOp (.nilCheck x) = false) ∧
    (∀ (op : BinOp) (t : TypeId) (x y : Operand) (u : TypeId), stopOp (.binOp op t x y u) = false) ∧
    (∀ (op : UnOp) (t : TypeId) (x : Operand), stopOp (.unOp op t x) = false) ∧
    (∀ (t u : TypeId) (x : Operand), stopOp (.convert t u x) = false) ∧
    (∀ (fn : Fn) (a b : Array Operand), stopOp (.makeFunc fn a b) = false) ∧
    (∀ (t : TypeId) (a b : Operand), stopOp (.makeSlice t a b) = false) ∧
    (∀ (t : TypeId) (x : Operand) (a b c : Option Operand), stopOp (.slice t x a b c) = false) ∧
    (∀ (t : TypeId) (x : Operand) (f : Nat), stopOp (.fieldAddr t x f) = false) ∧
    (∀ (t : TypeId) (x : Operand) (f : Nat), stopOp (.field t x f) = false) ∧
    (∀ (t : TypeId) (x i : Operand), stopOp (.indexAddr t x i) = false) ∧
    (∀ (t : TypeId) (x i : Operand), stopOp (.index t x i) = false) ∧
    (∀ (x : Operand) (i : Nat), stopOp (.extract x i) = false) ∧
    (∀ (x : Operand) (a : Array Operand) (b : Array TypeId), stopOp (.call ⟨.value x, a, b⟩) = true) ∧
    (∀ (x : Builtin) (a : Array Operand) (b : Array TypeId), stopOp (.call ⟨.builtin x, a, b⟩) = false) :=
  ⟨fun _ => rfl, fun _ => rfl, fun _ _ _ => rfl, fun _ => rfl, fun _ _ => rfl, fun _ _ => rfl, fun _ _ _ => rfl, fun _ _ => rfl, fun _ _ _ => rfl, fun _ => rfl, fun _ _ _ _ _ => rfl, fun _ _ _ => rfl, fun _ _ _ => rfl, fun _ _ _ => rfl, fun _ _ _ => rfl, fun _ _ _ _ _ => rfl, fun _ _ _ => rfl, fun _ _ _ => rfl, fun _ _ _ => rfl, fun _ _ _ => rfl, fun _ _ => rfl, fun _ _ _ => rfl, fun _ _ _ => rfl⟩
theorem SN : (isNilC (.const .nilIface) = true) ∧
    (∀ t : Tmp, isNilC (.tmp t) = false) ∧
    (∀ f : FuncId, isNilC (.func f) = false) ∧
    (∀ g : Nat, isNilC (.global g) = false) ∧
    (∀ (k : IntKind) (n : Int), isNilC (.const (.int k n)) = false) ∧
    (∀ b : Bool, isNilC (.const (.bool b)) = false) ∧
    (∀ s : ByteArray, isNilC (.const (.string s)) = false) ∧
    (∀ (i o : Nat), notNil (.ptr i o) = true) ∧
    (∀ cs : List V, notNil (.dptr cs) = true) :=
  ⟨rfl, fun _ => rfl, fun _ => rfl, fun _ => rfl, fun _ _ => rfl, fun _ => rfl, fun _ => rfl, fun _ _ => rfl, fun _ => rfl⟩
section
variable {P : Program}
theorem SA : (∀ (ρ : Operand → V) (st : List O) (x : Operand), stepAE P nocall ρ st (.move x) = an1 (stepE P nocall ρ st (.move x))) ∧
    (∀ (ρ : Operand → V) (st : List O) (x : Operand), stepAE P nocall ρ st (.assign x) = an1 (stepE P nocall ρ st (.assign x))) ∧
    (∀ (ρ : Operand → V) (st : List O) (c a b : Operand), stepAE P nocall ρ st (.pick c a b) = an1 (stepE P nocall ρ st (.pick c a b))) ∧
    (∀ (ρ : Operand → V) (st : List O) (t : TypeId) (ps : Array (Nat × Operand)), stepAE P nocall ρ st (.build t ps) = an1 (stepE P nocall ρ st (.build t ps))) ∧
    (∀ (ρ : Operand → V) (st : List O) (t : TypeId) (x : Operand), stepAE P nocall ρ st (.load t x) = an1 (stepE P nocall ρ st (.load t x))) ∧
    (∀ (ρ : Operand → V) (st : List O) (x : Operand), stepAE P nocall ρ st (.nilCheck x) = an1 (stepE P nocall ρ st (.nilCheck x))) ∧
    (∀ (ρ : Operand → V) (st : List O) (op : BinOp) (t : TypeId) (x y : Operand) (u : TypeId), stepAE P nocall ρ st (.binOp op t x y u) = an1 (stepE P nocall ρ st (.binOp op t x y u))) ∧
    (∀ (ρ : Operand → V) (st : List O) (op : UnOp) (t : TypeId) (x : Operand), stepAE P nocall ρ st (.unOp op t x) = an1 (stepE P nocall ρ st (.unOp op t x))) ∧
    (∀ (ρ : Operand → V) (st : List O) (t u : TypeId) (x : Operand), stepAE P nocall ρ st (.convert t u x) = an1 (stepE P nocall ρ st (.convert t u x))) ∧
    (∀ (ρ : Operand → V) (st : List O) (fn : Fn) (a b : Array Operand), stepAE P nocall ρ st (.makeFunc fn a b) = an1 (stepE P nocall ρ st (.makeFunc fn a b))) ∧
    (∀ (ρ : Operand → V) (st : List O) (t : TypeId) (x : Operand) (a b c : Option Operand), stepAE P nocall ρ st (.slice t x a b c) = an1 (stepE P nocall ρ st (.slice t x a b c))) ∧
    (∀ (ρ : Operand → V) (st : List O) (t : TypeId) (x : Operand) (f : Nat), stepAE P nocall ρ st (.fieldAddr t x f) = an1 (stepE P nocall ρ st (.fieldAddr t x f))) ∧
    (∀ (ρ : Operand → V) (st : List O) (t : TypeId) (x : Operand) (f : Nat), stepAE P nocall ρ st (.field t x f) = an1 (stepE P nocall ρ st (.field t x f))) ∧
    (∀ (ρ : Operand → V) (st : List O) (t : TypeId) (x i : Operand), stepAE P nocall ρ st (.indexAddr t x i) = an1 (stepE P nocall ρ st (.indexAddr t x i))) ∧
    (∀ (ρ : Operand → V) (st : List O) (t : TypeId) (x i : Operand), stepAE P nocall ρ st (.index t x i) = an1 (stepE P nocall ρ st (.index t x i))) ∧
    (∀ (ρ : Operand → V) (st : List O) (x : Operand) (i : Nat), stepAE P nocall ρ st (.extract x i) = an1 (stepE P nocall ρ st (.extract x i))) ∧
    (∀ (ρ : Operand → V) (st : List O) (a : Array Operand) (b : Array TypeId), stepAE P nocall ρ st (.call ⟨.builtin .len, a, b⟩) = an1 (stepE P nocall ρ st (.call ⟨.builtin .len, a, b⟩))) ∧
    (∀ (ρ : Operand → V) (st : List O) (a : Array Operand) (b : Array TypeId), stepAE P nocall ρ st (.call ⟨.builtin .max, a, b⟩) = an1 (stepE P nocall ρ st (.call ⟨.builtin .max, a, b⟩))) ∧
    (∀ (ρ : Operand → V) (st : List O) (a : Array Operand) (b : Array TypeId), stepAE P nocall ρ st (.call ⟨.builtin .min, a, b⟩) = an1 (stepE P nocall ρ st (.call ⟨.builtin .min, a, b⟩))) ∧
    (∀ (ρ : Operand → V) (st : List O) (t : TypeId), stepAE P nocall ρ st (.alloc t) = (match zro P t with | some z => some (.undef, some ((fun i => .ptr i 0), .box t z)) | none => none : Option (V × Option ((Nat → V) × O)))) ∧
    (∀ (ρ : Operand → V) (st : List O) (t : TypeId) (len : Nat) (parts : Array (Nat × Operand)), stepAE P nocall ρ st (.buildSlice t len parts) = (if len = 0 then (if parts.size = 0 ∧ (elt P t).isSome = true then some (.nil, none) else none) else match buildSliceE P t len (parts.toList.map fun p => (p.1, ρ p.2)) with | some (es, e, sz) => some (.sl es none, some ((fun i => .sl es (some i)), .tok e sz len)) | none => none : Option (V × Option ((Nat → V) × O)))):=
  ⟨fun _ _ _ => rfl, fun _ _ _ => rfl, fun _ _ _ _ _ => rfl, fun _ _ _ _ => rfl, fun _ _ _ _ => rfl, fun _ _ _ => rfl, fun _ _ _ _ _ _ _ => rfl, fun _ _ _ _ _ => rfl, fun _ _ _ _ _ => rfl, fun _ _ _ _ _ => rfl, fun _ _ _ _ _ _ _ => rfl, fun _ _ _ _ _ => rfl, fun _ _ _ _ _ => rfl, fun _ _ _ _ _ => rfl, fun _ _ _ _ _ => rfl, fun _ _ _ _ => rfl, fun _ _ _ _ => rfl, fun _ _ _ _ => rfl, fun _ _ _ _ => rfl, fun _ _ _ => rfl, fun _ _ _ _ _ => rfl⟩
end
theorem an1_s (v : V) (st : List O) : an1 (some (v, st)) = some (v, none) := rfl
theorem SR : (∀ (P : Program) (gl : Nat → V) (e : Env) (st : List O), regS P gl [] e st = some (e, st, [])) ∧
    (∀ (P : Program) (gl : Nat → V) (d : Option Tmp) (op : Op) (t : TypeId) (p : String) (a : Array Edge) (g : Nat × Bool) (rest : List Oper) (e : Env) (st : List O), regS P gl (⟨d, op, t, p, a, some g⟩ :: rest) e st = some (e, st, ⟨d, op, t, p, a, some g⟩ :: rest)) ∧
    (∀ (P : Program) (gl : Nat → V) (d : Option Tmp) (op : Op) (t : TypeId) (p : String) (a : Array Edge) (rest : List Oper) (e : Env) (st : List O), regS P gl (⟨d, op, t, p, a, none⟩ :: rest) e st = regB P gl (stopOp op) ⟨d, op, t, p, a, none⟩ rest e st) ∧
    (∀ (P : Program) (gl : Nat → V) (o : Oper) (rest : List Oper) (e : Env) (st : List O), regB P gl true o rest e st = some (e, st, o :: rest)) ∧
    (∀ (P : Program) (gl : Nat → V) (d : Option Tmp) (op : Op) (t : TypeId) (p : String) (a : Array Edge) (rest : List Oper) (e : Env) (st : List O), regB P gl false ⟨d, op, t, p, a, none⟩ rest e st = regC P gl d rest e (stepE P nocall (e.ev gl) st op)) ∧
    (∀ (P : Program) (gl : Nat → V) (d : Option Tmp) (rest : List Oper) (e : Env) (v : V) (st' : List O), regC P gl d rest e (some (v, st')) = regS P gl rest (e.put d v) st') ∧
    (∀ (P : Program) (gl : Nat → V) (e : Env) (st : List O) (ups : List Up), anyS P gl [] e st ups = some (e, ups, [])) ∧
    (∀ (P : Program) (gl : Nat → V) (d : Option Tmp) (op : Op) (t : TypeId) (p : String) (a : Array Edge) (g : Nat × Bool) (rest : List Oper) (e : Env) (st : List O) (ups : List Up), anyS P gl (⟨d, op, t, p, a, some g⟩ :: rest) e st ups = some (e, ups, ⟨d, op, t, p, a, some g⟩ :: rest)) ∧
    (∀ (P : Program) (gl : Nat → V) (d : Option Tmp) (op : Op) (t : TypeId) (p : String) (a : Array Edge) (rest : List Oper) (e : Env) (st : List O) (ups : List Up), anyS P gl (⟨d, op, t, p, a, none⟩ :: rest) e st ups = anB P gl (stopOp op) ⟨d, op, t, p, a, none⟩ rest e st ups) ∧
    (∀ (P : Program) (gl : Nat → V) (o : Oper) (rest : List Oper) (e : Env) (st : List O) (ups : List Up), anB P gl true o rest e st ups = some (e, ups, o :: rest)) ∧
    (∀ (P : Program) (gl : Nat → V) (d : Option Tmp) (op : Op) (t : TypeId) (p : String) (a : Array Edge) (rest : List Oper) (e : Env) (st : List O) (ups : List Up), anB P gl false ⟨d, op, t, p, a, none⟩ rest e st ups = anC P gl d rest e st ups (stepAE P nocall (e.ev gl) st op)) ∧
    (∀ (P : Program) (gl : Nat → V) (d : Option Tmp) (rest : List Oper) (e : Env) (st : List O) (ups : List Up) (v : V), anC P gl d rest e st ups (some (v, none)) = anyS P gl rest (e.put d v) st ups) ∧
    (∀ (P : Program) (gl : Nat → V) (d : Tmp) (rest : List Oper) (e : Env) (st : List O) (ups : List Up) (v : V) (f : Nat → V) (ob : O), anC P gl (some d) rest e st ups (some (v, some (f, ob))) = anyS P gl rest (e.put (some d) v) st (ups ++ [(d, f, ob)])) :=
  ⟨regS_nil, regS_g, regS_op, regB_t, regB_f, regC_s, anyS_nil, anyS_g, anyS_op, anB_t, anB_f, anC_s, anC_n⟩
attribute [go_sem] SV resP loadP le_self le_und le_nilt le_nilt1 le_nilt2 le_nils le_drop sle_self Env.has Env.trim_get V.trim V.trim.trimL OT List.map_append SR SO SN SA an1_s maxLen_eq ne_eq decide_true decide_false Bool.not_true Bool.not_false wrap_u8 stepE keep binE intE strE eqE unE uB uS loadE storeE faE fieldE iaE ixE sliceE bndOf lenE appE rowOf buildE fillV splice buildSliceE partsB makeE litB SI pack cmpL cmpV S0 S1 S2 S3 V.one V.bare V.bare.bareL pureB Option.map Option.isSome List.getD_cons_zero List.getD_cons_succ List.toList_toArray Bool.false_eq_true and_true true_and if_true if_false Int.toNat_natCast Int.toNat_zero Int.ofNat_lt List.range_succ List.range_zero beq_self_eq_true i64w getD_lt tmod_nn tdiv_nn toNat_sub1 ifp ifn
end Go.Duo

namespace Go.Duo
open Go
section
variable {P : Program} {gl : Nat → V} {st : List O}
theorem late_S {e1 : Env} {op : Op} {R : List O → Prop} {st' : List O} (hs : stepE P nocall (e1.ev gl) st op = some (.undef, st')) (hR : R st') :
    ∃ st', step1 P gl (e1.ev gl) st op (fun v s2 => v = .undef ∧ s2 = st') ∧ R st' := ⟨st', stepE_sound nocall_ok hs ⟨rfl, rfl⟩, hR⟩
theorem awS_S {ops : Array Oper} {e1 : Env} {st' st2 : List O} {ls : List Nat} {i d : Nat} {o : Oper} (ho0 : ops.toList[i]? = some o) (hg : o.guard = none) (hd : o.dst = some d) (hc : calm o.op = true)
    (hs : stepE P nocall (e1.ev gl) st' o.op = some (e1.get d, st2)) (h2 : awS P gl ops e1 st' ls) : awS P gl ops e1 st' (i :: ls) :=
  awS_cons ho0 hg hd hc (fun K2 h => stepE_sound nocall_ok hs (h _ _ rfl)) h2
theorem Call.le {k : FuncId} {args args' : List V} {K : V → List O → Prop} (hl : args.length = args'.length) (h : ∀ (i : Nat) (c d : V), args[i]? = some c → args'[i]? = some d → V.le st c d) (hc : Call P gl k args' st K) : Call P gl k args st K := fun w s xs hst hs hxs =>
  hc w s xs hst hs ⟨by rw [← hl]; exact hxs.1, fun i d x hd hx => by
    have hi : i < args.length := by rw [hl]; exact (List.getElem?_eq_some_iff.1 hd).1
    exact h i args[i] d (List.getElem?_eq_getElem hi) hd w s x hst (hxs.2 i _ x (List.getElem?_eq_getElem hi) hx)⟩
end
end Go.Duo
