/-
  A part of the proof.
-/
import Derived.Test.YtdlcnihacaboiaaGreatDoorGK
import Derived.Test.YtdlcnihacaboiaaGreatDoorGJ
import Derived.Attr
import Derived.Test.YtdlcnihacaboiaaGreatDoorGI
import Derived.Test.YtdlcnihacaboiaaGreatDoorGH
import Derived.Lib.LaidTab
set_option linter.all false
namespace Go.Duo
open Go
section
variable {P : Program} {gl : Nat → V} {r : Option Nat} {e : Env} {st : List O} {Q : Exit → Env → List O → Prop}
def nocall : CallE := fun _ _ _ => none
theorem nocall_ok : CallE.ok P gl nocall := fun _ _ _ _ _ h => by cases h
/-- Here the reckoning stops. -/
def stopOp : Op → Bool
  | .call c => match c.callee with
    | .value _ => true
    | _ => false
  | _ => false
def fitsL (n : Nat) : List Oper → Bool
  | [] => true
  | o :: l => (match o.dst with | none => true | some d => Nat.blt d n) && fitsL n l
def regS (P : Program) (gl : Nat → V) : List Oper → Env → List O → Option (Env × List O × List Oper)
  | [], e, st => some (e, st, [])
  | o :: rest, e, st => match o.guard with
    | some _ => some (e, st, o :: rest)
    | none => match stopOp o.op with
      | true => some (e, st, o :: rest)
      | false => match stepE P nocall (e.ev gl) st o.op with
        | some (v, st') => regS P gl rest (e.put o.dst v) st'
        | none => none
/-- The same in pieces, as simp likes it. -/
def regB (P : Program) (gl : Nat → V) (b : Bool) (o : Oper) (rest : List Oper) (e : Env) (st : List O) : Option (Env × List O × List Oper) :=
  match b with
  | true => some (e, st, o :: rest)
  | false => match stepE P nocall (e.ev gl) st o.op with
    | some (v, st') => regS P gl rest (e.put o.dst v) st'
    | none => none
def regC (P : Program) (gl : Nat → V) (d : Option Tmp) (rest : List Oper) (e : Env) : Option (V × List O) → Option (Env × List O × List Oper)
  | some (v, st') => regS P gl rest (e.put d v) st'
  | none => none
theorem regS_nil (P : Program) (gl : Nat → V) (e : Env) (st : List O) : regS P gl [] e st = some (e, st, []) := rfl
theorem regS_g (P : Program) (gl : Nat → V) (d : Option Tmp) (op : Op) (t : TypeId) (p : String) (a : Array Edge) (g : Nat × Bool) (rest : List Oper) (e : Env) (st : List O) :
    regS P gl (⟨d, op, t, p, a, some g⟩ :: rest) e st = some (e, st, ⟨d, op, t, p, a, some g⟩ :: rest) := rfl
theorem regS_op (P : Program) (gl : Nat → V) (d : Option Tmp) (op : Op) (t : TypeId) (p : String) (a : Array Edge) (rest : List Oper) (e : Env) (st : List O) :
    regS P gl (⟨d, op, t, p, a, none⟩ :: rest) e st = regB P gl (stopOp op) ⟨d, op, t, p, a, none⟩ rest e st := by
  simp only [regS, regB]
theorem regB_t (P : Program) (gl : Nat → V) (o : Oper) (rest : List Oper) (e : Env) (st : List O) : regB P gl true o rest e st = some (e, st, o :: rest) := rfl
theorem regB_f (P : Program) (gl : Nat → V) (d : Option Tmp) (op : Op) (t : TypeId) (p : String) (a : Array Edge) (rest : List Oper) (e : Env) (st : List O) :
    regB P gl false ⟨d, op, t, p, a, none⟩ rest e st = regC P gl d rest e (stepE P nocall (e.ev gl) st op) := by
  simp only [regB, regC]
theorem regC_s (P : Program) (gl : Nat → V) (d : Option Tmp) (rest : List Oper) (e : Env) (v : V) (st' : List O) : regC P gl d rest e (some (v, st')) = regS P gl rest (e.put d v) st' := rfl
theorem put_n (e : Env) (d : Option Tmp) (v : V) : (e.put d v).n = e.n := by cases d <;> rfl
theorem awL_S {ops : Array Oper} {K : Env → List O → Prop} : ∀ {l : List Oper} {e : Env} {st : List O} {e' : Env} {st' : List O} {rest : List Oper}, fitsL e.n l = true → regS P gl l e st = some (e', st', rest) → awL P gl ops rest e' st' K → awL P gl ops l e st K := by
  intro l
  induction l with
  | nil =>
    intro e st e' st' rest _ h hk
    simp only [regS, Option.some.injEq, Prod.mk.injEq] at h
    obtain ⟨rfl, rfl, rfl⟩ := h
    exact hk
  | cons o l ih =>
    intro e st e' st' rest hf h hk
    unfold regS at h
    split at h
    · simp only [Option.some.injEq, Prod.mk.injEq] at h
      obtain ⟨rfl, rfl, rfl⟩ := h
      exact hk
    · rename_i hg
      split at h
      · simp only [Option.some.injEq, Prod.mk.injEq] at h
        obtain ⟨rfl, rfl, rfl⟩ := h
        exact hk
      · split at h <;> try (cases h; done)
        rename_i hs
        simp only [fitsL, Bool.and_eq_true] at hf
        unfold awL
        refine ⟨?_, ?_⟩
        · cases hd : o.dst with
          | none => trivial
          | some d => have := hf.1; rw [hd] at this; simpa [Env.fits] using this
        · rw [hg]
          exact stepE_sound (K := fun v st' => awL P gl ops l (e.put o.dst v) st' K) nocall_ok hs (ih (by rw [put_n]; exact hf.2) h hk)
theorem awL_S1 {ops : Array Oper} {K : Env → List O → Prop} {d : Option Tmp} {op : Op} {t : TypeId} {p : String} {a : Array Edge} {l : List Oper} {e' : Env} {st' : List O} {rest : List Oper} (_ : stopOp op = false) (hf : fitsL e.n (⟨d, op, t, p, a, none⟩ :: l) = true)
    (h : regS P gl (⟨d, op, t, p, a, none⟩ :: l) e st = some (e', st', rest)) (hk : awL P gl ops rest e' st' K) : awL P gl ops (⟨d, op, t, p, a, none⟩ :: l) e st K := awL_S hf h hk
theorem awL_nil {ops : Array Oper} {K : Env → List O → Prop} (h : K e st) : awL P gl ops [] e st K := h
/-- A call of a function: what it does is known. -/
theorem awL_call {ops : Array Oper} {K : Env → List O → Prop} {d : Option Tmp} {f : Operand} {args : Array Operand} {ats : Array TypeId} {t : TypeId} {p : String} {a : Array Edge} {rest : List Oper} {k : FuncId} {fs cs : List V} {vs : List V} {v0 : V} {st0 : List O}
    (hf : e.ev gl f = .func (.func k) fs cs) (he : ent P k = true) (ha : fs ++ args.toList.map (e.ev gl) ++ cs = vs) (hc : Call P gl k vs st fun v st' => v = v0 ∧ st' = st0) (hfit : fitB e d = true) (hk : awL P gl ops rest (e.put d v0) st0 K) :
    awL P gl ops (⟨d, .call ⟨.value f, args, ats⟩, t, p, a, none⟩ :: rest) e st K := by
  unfold awL
  refine ⟨fits_of hfit, ?_⟩
  simp only [step1, hf, ha]
  exact ⟨he, Call.mono hc (by rintro v st' ⟨rfl, rfl⟩; exact hk)⟩
/-- The guard lets it be. -/
theorem awL_gyes {ops : Array Oper} {K : Env → List O → Prop} {d : Option Tmp} {op : Op} {t : TypeId} {p : String} {a : Array Edge} {rest : List Oper} {j c : Nat} {want : Bool}
    (hd : (ops[j]?).bind (·.dst) = some c) (hv : e.get c = .bool want) (h : awL P gl ops (⟨d, op, t, p, a, none⟩ :: rest) e st K) : awL P gl ops (⟨d, op, t, p, a, some (j, want)⟩ :: rest) e st K := by
  unfold awL at h ⊢
  refine ⟨h.1, ?_⟩
  simp only [hd]
  rw [hv]
  simp only [Split]
  have := h.2
  cases want
  · exact ⟨fun h => (by cases h), fun _ => by rw [if_neg (by simp)]; exact this⟩
  · exact ⟨fun _ => by rw [if_pos rfl]; exact this, fun h => by cases h⟩
theorem awL_gno {ops : Array Oper} {K : Env → List O → Prop} {d : Option Tmp} {op : Op} {t : TypeId} {p : String} {a : Array Edge} {rest : List Oper} {j c : Nat} {want : Bool}
    (hd : (ops[j]?).bind (·.dst) = some c) (hv : e.get c = .bool (!want)) (hf : fitB e d = true) (h : awL P gl ops rest (e.put d (.tuple [])) st K) : awL P gl ops (⟨d, op, t, p, a, some (j, want)⟩ :: rest) e st K := awL_no rfl hd hv hf h
theorem awL_gcase {ops : Array Oper} {K : Env → List O → Prop} {d : Option Tmp} {op : Op} {t : TypeId} {p : String} {a : Array Edge} {rest : List Oper} {j c : Nat} {want b : Bool}
    (_ : (ops[j]?).bind (·.dst) = some c) (_ : e.get c = .bool b) (h1 : b = true → awL P gl ops (⟨d, op, t, p, a, some (j, want)⟩ :: rest) e st K) (h2 : b = false → awL P gl ops (⟨d, op, t, p, a, some (j, want)⟩ :: rest) e st K) :
    awL P gl ops (⟨d, op, t, p, a, some (j, want)⟩ :: rest) e st K := by cases b <;> simp_all
def anyS (P : Program) (gl : Nat → V) : List Oper → Env → List O → List Up → Option (Env × List Up × List Oper)
  | [], e, _, ups => some (e, ups, [])
  | o :: rest, e, st, ups => match o.guard with
    | some _ => some (e, ups, o :: rest)
    | none => match stopOp o.op with
      | true => some (e, ups, o :: rest)
      | false => match stepAE P nocall (e.ev gl) st o.op, o.dst with
        | some (v, none), d => anyS P gl rest (e.put d v) st ups
        | some (v, some (f, ob)), some d => anyS P gl rest (e.put (some d) v) st (ups ++ [(d, f, ob)])
        | _, _ => none
def anB (P : Program) (gl : Nat → V) (b : Bool) (o : Oper) (rest : List Oper) (e : Env) (st : List O) (ups : List Up) : Option (Env × List Up × List Oper) :=
  match b with
  | true => some (e, ups, o :: rest)
  | false => match stepAE P nocall (e.ev gl) st o.op, o.dst with
    | some (v, none), d => anyS P gl rest (e.put d v) st ups
    | some (v, some (f, ob)), some d => anyS P gl rest (e.put (some d) v) st (ups ++ [(d, f, ob)])
    | _, _ => none
def anC (P : Program) (gl : Nat → V) (d : Option Tmp) (rest : List Oper) (e : Env) (st : List O) (ups : List Up) : Option (V × Option ((Nat → V) × O)) → Option (Env × List Up × List Oper)
  | some (v, none) => anyS P gl rest (e.put d v) st ups
  | some (v, some (f, ob)) => match d with
    | some d => anyS P gl rest (e.put (some d) v) st (ups ++ [(d, f, ob)])
    | none => none
  | none => none
theorem anyS_nil (P : Program) (gl : Nat → V) (e : Env) (st : List O) (ups : List Up) : anyS P gl [] e st ups = some (e, ups, []) := rfl
theorem anyS_g (P : Program) (gl : Nat → V) (d : Option Tmp) (op : Op) (t : TypeId) (p : String) (a : Array Edge) (g : Nat × Bool) (rest : List Oper) (e : Env) (st : List O) (ups : List Up) :
    anyS P gl (⟨d, op, t, p, a, some g⟩ :: rest) e st ups = some (e, ups, ⟨d, op, t, p, a, some g⟩ :: rest) := rfl
theorem anyS_op (P : Program) (gl : Nat → V) (d : Option Tmp) (op : Op) (t : TypeId) (p : String) (a : Array Edge) (rest : List Oper) (e : Env) (st : List O) (ups : List Up) :
    anyS P gl (⟨d, op, t, p, a, none⟩ :: rest) e st ups = anB P gl (stopOp op) ⟨d, op, t, p, a, none⟩ rest e st ups := by
  simp only [anyS, anB]
theorem anB_t (P : Program) (gl : Nat → V) (o : Oper) (rest : List Oper) (e : Env) (st : List O) (ups : List Up) : anB P gl true o rest e st ups = some (e, ups, o :: rest) := rfl
theorem anB_f (P : Program) (gl : Nat → V) (d : Option Tmp) (op : Op) (t : TypeId) (p : String) (a : Array Edge) (rest : List Oper) (e : Env) (st : List O) (ups : List Up) :
    anB P gl false ⟨d, op, t, p, a, none⟩ rest e st ups = anC P gl d rest e st ups (stepAE P nocall (e.ev gl) st op) := by
  simp only [anB]
  cases stepAE P nocall (e.ev gl) st op with
  | none => rfl
  | some u => obtain ⟨v, _ | ⟨f, ob⟩⟩ := u <;> cases d <;> rfl
theorem anC_s (P : Program) (gl : Nat → V) (d : Option Tmp) (rest : List Oper) (e : Env) (st : List O) (ups : List Up) (v : V) : anC P gl d rest e st ups (some (v, none)) = anyS P gl rest (e.put d v) st ups := rfl
theorem anC_n (P : Program) (gl : Nat → V) (d : Tmp) (rest : List Oper) (e : Env) (st : List O) (ups : List Up) (v : V) (f : Nat → V) (ob : O) : anC P gl (some d) rest e st ups (some (v, some (f, ob))) = anyS P gl rest (e.put (some d) v) st (ups ++ [(d, f, ob)]) := rfl
theorem awA_S {ops : Array Oper} {K : Env → List O → Prop} : ∀ {l : List Oper} {e : Env} {ups : List Up} {e' : Env} {ups' : List Up} {rest : List Oper}, fitsL e.n l = true → anyS P gl l e st ups = some (e', ups', rest) → awA P gl ops rest e' st ups' K → awA P gl ops l e st ups K := by
  intro l
  induction l with
  | nil =>
    intro e ups e' ups' rest _ h hk
    simp only [anyS, Option.some.injEq, Prod.mk.injEq] at h
    obtain ⟨rfl, rfl, rfl⟩ := h
    exact hk
  | cons o l ih =>
    intro e ups e' ups' rest hf h hk
    unfold anyS at h
    split at h
    · simp only [Option.some.injEq, Prod.mk.injEq] at h
      obtain ⟨rfl, rfl, rfl⟩ := h
      exact hk
    · rename_i hg
      split at h
      · simp only [Option.some.injEq, Prod.mk.injEq] at h
        obtain ⟨rfl, rfl, rfl⟩ := h
        exact hk
      · simp only [fitsL, Bool.and_eq_true] at hf
        have hfit : e.fits o.dst := by
          cases hd : o.dst with
          | none => trivial
          | some d => have := hf.1; rw [hd] at this; simpa [Env.fits] using this
        unfold awA
        refine ⟨hfit, ?_⟩
        rw [hg]
        split at h <;> try (cases h; done)
        · rename_i hs
          refine stepAE_sound nocall_ok hs ?_
          exact ih (by rw [put_n]; exact hf.2) h hk
        · rename_i hs hd
          refine stepAE_sound nocall_ok hs ?_
          rw [hd]
          exact ih (by rw [put_n]; exact hf.2) h hk
theorem awA_S1 {ops : Array Oper} {K : Env → List O → Prop} {d : Option Tmp} {op : Op} {t : TypeId} {p : String} {a : Array Edge} {l : List Oper} {ups : List Up} {e' : Env} {ups' : List Up} {rest : List Oper} (_ : stopOp op = false) (hf : fitsL e.n (⟨d, op, t, p, a, none⟩ :: l) = true)
    (h : anyS P gl (⟨d, op, t, p, a, none⟩ :: l) e st ups = some (e', ups', rest)) (hk : awA P gl ops rest e' st ups' K) : awA P gl ops (⟨d, op, t, p, a, none⟩ :: l) e st ups K := awA_S hf h hk
theorem awA_nil {ops : Array Oper} {ups : List Up} {K : Env → List O → Prop} {e' : Env} {st' : List O} (ha : applyUps ups e st = (e', st')) (h : K e' st') : awA P gl ops [] e st ups K := by
  unfold awA; rw [ha]; exact h
theorem awA_call {ops : Array Oper} {K : Env → List O → Prop} {d : Option Tmp} {f : Operand} {args : Array Operand} {ats : Array TypeId} {t : TypeId} {p : String} {a : Array Edge} {rest : List Oper} {ups : List Up} {k : FuncId} {fs cs : List V} {vs : List V} {v0 : V}
    (hf : e.ev gl f = .func (.func k) fs cs) (he : ent P k = true) (ha : fs ++ args.toList.map (e.ev gl) ++ cs = vs) (hc : Call P gl k vs st fun v st' => v = v0 ∧ st' = st) (hfit : fitB e d = true) (hk : awA P gl ops rest (e.put d v0) st ups K) :
    awA P gl ops (⟨d, .call ⟨.value f, args, ats⟩, t, p, a, none⟩ :: rest) e st ups K := by
  unfold awA
  refine ⟨fits_of hfit, ?_⟩
  simp only [stepA, hf, ha]
  exact ⟨he, v0, hc, hk⟩
theorem awA_gyes {ops : Array Oper} {K : Env → List O → Prop} {d : Option Tmp} {op : Op} {t : TypeId} {p : String} {a : Array Edge} {rest : List Oper} {ups : List Up} {j c : Nat} {want : Bool}
    (hd : (ops[j]?).bind (·.dst) = some c) (hv : e.get c = .bool want) (h : awA P gl ops (⟨d, op, t, p, a, none⟩ :: rest) e st ups K) : awA P gl ops (⟨d, op, t, p, a, some (j, want)⟩ :: rest) e st ups K := by
  unfold awA at h ⊢
  refine ⟨h.1, ?_⟩
  simp only [hd, hv, if_true]
  exact h.2
theorem awA_gno {ops : Array Oper} {K : Env → List O → Prop} {d : Option Tmp} {op : Op} {t : TypeId} {p : String} {a : Array Edge} {rest : List Oper} {ups : List Up} {j c : Nat} {want : Bool}
    (hd : (ops[j]?).bind (·.dst) = some c) (hv : e.get c = .bool (!want)) (hf : fitB e d = true) (h : awA P gl ops rest (e.put d (.tuple [])) st ups K) : awA P gl ops (⟨d, op, t, p, a, some (j, want)⟩ :: rest) e st ups K := awA_no rfl hd hv hf h
theorem awA_gcase {ops : Array Oper} {K : Env → List O → Prop} {d : Option Tmp} {op : Op} {t : TypeId} {p : String} {a : Array Edge} {rest : List Oper} {ups : List Up} {j c : Nat} {want b : Bool}
    (_ : (ops[j]?).bind (·.dst) = some c) (_ : e.get c = .bool b) (h1 : b = true → awA P gl ops (⟨d, op, t, p, a, some (j, want)⟩ :: rest) e st ups K) (h2 : b = false → awA P gl ops (⟨d, op, t, p, a, some (j, want)⟩ :: rest) e st ups K) :
    awA P gl ops (⟨d, op, t, p, a, some (j, want)⟩ :: rest) e st ups K := by cases b <;> simp_all
theorem useK {K R : Env → List O → Prop} (h : ∀ e st, R e st → K e st) (hr : R e st) : K e st := h _ _ hr
theorem tq_e {K : Env → List O → Prop} {j : Nat} (h : Q (.exit j) e st) : thenQ K Q (.exit j) e st := h
theorem bq_s {id : Nat} (h : Q .normal e st) : blockQ id Q (.exit id) e st := by simp only [blockQ, if_true]; exact h
theorem bq_o {id j : Nat} (hj : Nat.beq j id = false) (h : Q (.exit j) e st) : blockQ id Q (.exit j) e st := by
  simp only [blockQ]; rw [if_neg (Nat.ne_of_beq_eq_false hj)]; exact h
theorem AW.loopS {α : Type} {c : Code} (n : Nat) (m : α → List (Nat × V)) (o : α → List O) (μ : α → Nat) (a0 : α) (hn : Nat.ble n e.n = true) (h0 : e.has st (m a0)) (hs : StLe st (o a0))
    (round : ∀ a, Clo (o a) → AW P gl r c (thenQ (fun e' st' => ∃ a', μ a' < μ a ∧ ∃ k, (o a).length ≤ k ∧ n ≤ e'.n ∧ (e'.trim k).has (trimS k st') (m a') ∧ StLe (trimS k st') (o a')) Q) ⟨n, m a⟩ (o a)) : AW P gl r (.loop c) Q e st :=
  AW.loop n m o μ a0 (Nat.le_of_ble_eq_true hn) h0 hs fun a => AW.clo fun hc => round a hc
theorem le_self (st : List O) (a : V) : V.le st a a = True := by simp [V.le_refl]
theorem le_und (st : List O) (a : V) : V.le st a .undef = True := by simp [V.le_undef]
theorem le_nilt (st l : List O) (e : TypeId) (sz : Nat) : V.le (st ++ .tok e sz 0 :: l) .nil (.sl [] (some st.length)) = True := by
  simp only [eq_iff_iff, iff_true]
  exact V.le_nil_tok (e := e) (sz := sz) (by rw [st_get0]; rfl)
theorem le_nilt1 (st l : List O) (e : TypeId) (sz : Nat) (a : O) : V.le (st ++ a :: .tok e sz 0 :: l) .nil (.sl [] (some (st.length + 1))) = True := by
  simp only [eq_iff_iff, iff_true]
  exact V.le_nil_tok (e := e) (sz := sz) (by rw [st_get]; rfl)
theorem le_nilt2 (st l : List O) (e : TypeId) (sz : Nat) (a b : O) : V.le (st ++ a :: b :: .tok e sz 0 :: l) .nil (.sl [] (some (st.length + 2))) = True := by
  simp only [eq_iff_iff, iff_true]
  exact V.le_nil_tok (e := e) (sz := sz) (by rw [st_get]; rfl)
theorem le_nils (st : List O) : V.le st .nil (.sl [] none) = True := by simp [V.le_nil]
theorem le_drop (st : List O) (es : List V) (t : Option Nat) : V.le st (.sl es t) (.sl es none) = True := by simp [V.le_sl]
theorem sle_self (st : List O) : StLe st st = True := by simp [StLe.refl]
theorem SV : (∀ v : V, resV [v] = v) ∧ (∀ a b : V, resV [a, b] = .tuple [a, b]) ∧ (∀ a b c : V, resV [a, b, c] = .tuple [a, b, c]) ∧ (∀ a b c d : V, resV [a, b, c, d] = .tuple [a, b, c, d]) ∧ (resV [] = .tuple []) ∧
    (∀ (a b : Nat), (a : Int) + (b : Int) = ((a + b : Nat) : Int)) ∧ (∀ a : Nat, (a : Int) + 1 = ((a + 1 : Nat) : Int)) ∧ (∀ a : Nat, (a : Int) + 2 = ((a + 2 : Nat) : Int)) ∧ (((0 : Nat) : Int) = 0) ∧ (((1 : Nat) : Int) = 1) := ⟨fun _ => rfl, fun _ _ => rfl, fun _ _ _ => rfl, fun _ _ _ _ => rfl, rfl, fun _ _ => rfl, fun _ => rfl, fun _ => rfl, rfl, rfl⟩
theorem ifp {α : Type} {c : Prop} [Decidable c] {a b : α} (h : c) : (if c then a else b) = a := if_pos h
theorem ifn {α : Type} {c : Prop} [Decidable c] {a b : α} (h : ¬ c) : (if c then a else b) = b := if_neg h
theorem OT : (∀ (k : Nat) (e : TypeId) (sz n : Nat), O.trim k (.tok e sz n) = .tok e sz n) ∧ (∀ (k : Nat) (t : TypeId) (cs : List V), O.trim k (.box t cs) = .box t (cs.map (V.trim k))) ∧ (∀ (k : Nat) (e : TypeId) (sz v : Nat) (es : List V), O.trim k (.arr e sz v es) = .arr e sz v es) ∧ (∀ k : Nat, O.trim k .dead = .dead) ∧ (∀ n m : Nat, n + m - n = m) ∧ (∀ n : Nat, n - n = 0) :=
  ⟨fun _ _ _ _ => rfl, fun _ _ _ => rfl, fun _ _ _ _ _ => rfl, fun _ => rfl, fun _ _ => Nat.add_sub_cancel_left .., fun _ => Nat.sub_self _⟩
theorem SI : (∀ (P : Program) (t : TypeId), ifcE P t .eql .niliface = if isIfc P t = true then some (.bool true) else none) ∧ (∀ (P : Program) (t : TypeId), ifcE P t .neq .niliface = if isIfc P t = true then some (.bool false) else none) ∧
    (∀ (P : Program) (t u : TypeId) (v : V), ifcE P t .eql (.iface u v) = if isIfc P t = true then some (.bool false) else none) ∧ (∀ (P : Program) (t u : TypeId) (v : V), ifcE P t .neq (.iface u v) = if isIfc P t = true then some (.bool true) else none) := by
  refine ⟨fun P t => ?_, fun P t => ?_, fun P t u v => ?_, fun P t u v => ?_⟩ <;> (unfold ifcE; cases isIfc P t <;> rfl)
theorem maxLen_eq : maxLen = 9223372036854775807 := rfl
theorem wrap_u8 (x : UInt8) : IntKind.wrap .i64 (x.toNat : Int) = (x.toNat : Int) := by have := UInt8.toNat_lt x; exact i64w _ (by omega) (by omega)
def an1 : Option (V × List O) → Option (V × Option ((Nat → V) × O))
  | some (v, _) => some (v, none)
  | none => none
end
theorem SO : (∀ (x : Operand), stopOp (.move x) = false) ∧
    (∀ (x : Operand), stopOp (.assign x) = false) ∧
    (∀ (c a b : Operand), stopOp (.pick c a b) = false) ∧
    (∀ (t : TypeId), stopOp (.alloc t) = false) ∧
    (∀ (t : TypeId) (v : Operand), stopOp (.box t v) = false) ∧
    (∀ (t : TypeId) (ps : Array (Nat × Operand)), stopOp (.build t ps) = false) ∧
    (∀ (t : TypeId) (n : Nat) (ps : Array (Nat × Operand)), stopOp (.buildSlice t n ps) = false) ∧
    (∀ (t : TypeId) (x : Operand), stopOp (.load t x) = false) ∧
    (∀ (t : TypeId) (x y : Operand), stopOp (.store t x y) = false) ∧
    (∀ (x : Operand), stopOp (.nilCheck x) = false) ∧
    (∀ (op : BinOp) (t : TypeId) (x y : Operand) (u : TypeId), stopOp (.binOp op t x y u) = false) ∧
    (∀ (op : UnOp) (t : TypeId) (x : Operand), stopOp (.unOp op t x) = false) ∧
    (∀ (t u : TypeId) (x : Operand), stopOp (.convert t u x) = false) ∧
    (∀ (fn : Fn) (a b : Array Operand), stopOp (.makeFunc fn a b) = false) ∧
    (∀ (t : TypeId) (a b : Operand), stopOp (.makeSlice t a b) = false) ∧
    (∀ (t : TypeId) (x : Operand) (a b c : Option Operand), stopOp (.slice t x a b c) = false) ∧
    (∀ (t : TypeId) (x : Operand) (f : Nat), stopOp (.fieldAddr t x f) = false) ∧
    (∀ (t : TypeId) (x : Operand) (f : Nat), stopOp (.field t x f) = false) ∧
    (∀ (t : TypeId) (x i : Operand), stopOp (.indexAddr t x i) = false) ∧
    (∀ (t : TypeId) (x i : Operand), stopOp (.index t x i) = false) ∧
    (∀ (x : Operand) (i : Nat), stopOp (.extract x i) = false) ∧
    (∀ (x : Operand) (a : Array Operand) (b : Array TypeId), stopOp (.call ⟨.value x, a, b⟩) = true) ∧
    (∀ (x : Builtin) (a : Array Operand) (b : Array TypeId), stopOp (.call ⟨.builtin x, a, b⟩) = false) :=
  ⟨fun _ => rfl, fun _ => rfl, fun _ _ _ => rfl, fun _ => rfl, fun _ _ => rfl, fun _ _ => rfl, fun _ _ _ => rfl, fun _ _ => rfl, fun _ _ _ => rfl, fun _ => rfl, fun _ _ _ _ _ => rfl, fun _ _ _ => rfl, fun _ _ _ => rfl, fun _ _ _ => rfl, fun _ _ _ => rfl, fun _ _ _ _ _ => rfl, fun _ _ _ => rfl, fun _ _ _ => rfl, fun _ _ _ => rfl, fun _ _ _ => rfl, fun _ _ => rfl, fun _ _ _ => rfl, fun _ _ _ => rfl⟩
theorem SN : (isNilC (.const .nilIface) = true) ∧
    (∀ t : Tmp, isNilC (.tmp t) = false) ∧
    (∀ f : FuncId, isNilC (.func f) = false) ∧
    (∀ g : Nat, isNilC (.global g) = false) ∧
    (∀ (k : IntKind) (n : Int), isNilC (.const (.int k n)) = false) ∧
    (∀ b : Bool, isNilC (.const (.bool b)) = false) ∧
    (∀ s : ByteArray, isNilC (.const (.string s)) = false) ∧
    (∀ (i o : Nat), notNil (.ptr i o) = true) ∧
    (∀ cs : List V, notNil (.dptr cs) = true) :=
  ⟨rfl, fun _ => rfl, fun _ => rfl, fun _ => rfl, fun _ _ => rfl, fun _ => rfl, fun _ => rfl, fun _ _ => rfl, fun _ => rfl⟩
section
variable {P : Program}
theorem SA : (∀ (ρ : Operand → V) (st : List O) (x : Operand), stepAE P nocall ρ st (.move x) = an1 (stepE P nocall ρ st (.move x))) ∧
    (∀ (ρ : Operand → V) (st : List O) (x : Operand), stepAE P nocall ρ st (.assign x) = an1 (stepE P nocall ρ st (.assign x))) ∧
    (∀ (ρ : Operand → V) (st : List O) (c a b : Operand), stepAE P nocall ρ st (.pick c a b) = an1 (stepE P nocall ρ st (.pick c a b))) ∧
    (∀ (ρ : Operand → V) (st : List O) (t : TypeId) (ps : Array (Nat × Operand)), stepAE P nocall ρ st (.build t ps) = an1 (stepE P nocall ρ st (.build t ps))) ∧
    (∀ (ρ : Operand → V) (st : List O) (t : TypeId) (x : Operand), stepAE P nocall ρ st (.load t x) = an1 (stepE P nocall ρ st (.load t x))) ∧
    (∀ (ρ : Operand → V) (st : List O) (x : Operand), stepAE P nocall ρ st (.nilCheck x) = an1 (stepE P nocall ρ st (.nilCheck x))) ∧
    (∀ (ρ : Operand → V) (st : List O) (op : BinOp) (t : TypeId) (x y : Operand) (u : TypeId), stepAE P nocall ρ st (.binOp op t x y u) = an1 (stepE P nocall ρ st (.binOp op t x y u))) ∧
    (∀ (ρ : Operand → V) (st : List O) (op : UnOp) (t : TypeId) (x : Operand), stepAE P nocall ρ st (.unOp op t x) = an1 (stepE P nocall ρ st (.unOp op t x))) ∧
    (∀ (ρ : Operand → V) (st : List O) (t u : TypeId) (x : Operand), stepAE P nocall ρ st (.convert t u x) = an1 (stepE P nocall ρ st (.convert t u x))) ∧
    (∀ (ρ : Operand → V) (st : List O) (fn : Fn) (a b : Array Operand), stepAE P nocall ρ st (.makeFunc fn a b) = an1 (stepE P nocall ρ st (.makeFunc fn a b))) ∧
    (∀ (ρ : Operand → V) (st : List O) (t : TypeId) (x : Operand) (a b c : Option Operand), stepAE P nocall ρ st (.slice t x a b c) = an1 (stepE P nocall ρ st (.slice t x a b c))) ∧
    (∀ (ρ : Operand → V) (st : List O) (t : TypeId) (x : Operand) (f : Nat), stepAE P nocall ρ st (.fieldAddr t x f) = an1 (stepE P nocall ρ st (.fieldAddr t x f))) ∧
    (∀ (ρ : Operand → V) (st : List O) (t : TypeId) (x : Operand) (f : Nat), stepAE P nocall ρ st (.field t x f) = an1 (stepE P nocall ρ st (.field t x f))) ∧
    (∀ (ρ : Operand → V) (st : List O) (t : TypeId) (x i : Operand), stepAE P nocall ρ st (.indexAddr t x i) = an1 (stepE P nocall ρ st (.indexAddr t x i))) ∧
    (∀ (ρ : Operand → V) (st : List O) (t : TypeId) (x i : Operand), stepAE P nocall ρ st (.index t x i) = an1 (stepE P nocall ρ st (.index t x i))) ∧
    (∀ (ρ : Operand → V) (st : List O) (x : Operand) (i : Nat), stepAE P nocall ρ st (.extract x i) = an1 (stepE P nocall ρ st (.extract x i))) ∧
    (∀ (ρ : Operand → V) (st : List O) (a : Array Operand) (b : Array TypeId), stepAE P nocall ρ st (.call ⟨.builtin .len, a, b⟩) = an1 (stepE P nocall ρ st (.call ⟨.builtin .len, a, b⟩))) ∧
    (∀ (ρ : Operand → V) (st : List O) (a : Array Operand) (b : Array TypeId), stepAE P nocall ρ st (.call ⟨.builtin .max, a, b⟩) = an1 (stepE P nocall ρ st (.call ⟨.builtin .max, a, b⟩))) ∧
    (∀ (ρ : Operand → V) (st : List O) (a : Array Operand) (b : Array TypeId), stepAE P nocall ρ st (.call ⟨.builtin .min, a, b⟩) = an1 (stepE P nocall ρ st (.call ⟨.builtin .min, a, b⟩))) ∧
    (∀ (ρ : Operand → V) (st : List O) (t : TypeId), stepAE P nocall ρ st (.alloc t) = (match zro P t with | some z => some (.undef, some ((fun i => .ptr i 0), .box t z)) | none => none : Option (V × Option ((Nat → V) × O)))) ∧
    (∀ (ρ : Operand → V) (st : List O) (t : TypeId) (len : Nat) (parts : Array (Nat × Operand)), stepAE P nocall ρ st (.buildSlice t len parts) = (if len = 0 then (if parts.size = 0 ∧ (elt P t).isSome = true then some (.nil, none) else none) else match buildSliceE P t len (parts.toList.map fun p => (p.1, ρ p.2)) with | some (es, e, sz) => some (.sl es none, some ((fun i => .sl es (some i)), .tok e sz len)) | none => none : Option (V × Option ((Nat → V) × O)))):=
  ⟨fun _ _ _ => rfl, fun _ _ _ => rfl, fun _ _ _ _ _ => rfl, fun _ _ _ _ => rfl, fun _ _ _ _ => rfl, fun _ _ _ => rfl, fun _ _ _ _ _ _ _ => rfl, fun _ _ _ _ _ => rfl, fun _ _ _ _ _ => rfl, fun _ _ _ _ _ => rfl, fun _ _ _ _ _ _ _ => rfl, fun _ _ _ _ _ => rfl, fun _ _ _ _ _ => rfl, fun _ _ _ _ _ => rfl, fun _ _ _ _ _ => rfl, fun _ _ _ _ => rfl, fun _ _ _ _ => rfl, fun _ _ _ _ => rfl, fun _ _ _ _ => rfl, fun _ _ _ => rfl, fun _ _ _ _ _ => rfl⟩
end
theorem an1_s (v : V) (st : List O) : an1 (some (v, st)) = some (v, none) := rfl
theorem SR : (∀ (P : Program) (gl : Nat → V) (e : Env) (st : List O), regS P gl [] e st = some (e, st, [])) ∧
    (∀ (P : Program) (gl : Nat → V) (d : Option Tmp) (op : Op) (t : TypeId) (p : String) (a : Array Edge) (g : Nat × Bool) (rest : List Oper) (e : Env) (st : List O), regS P gl (⟨d, op, t, p, a, some g⟩ :: rest) e st = some (e, st, ⟨d, op, t, p, a, some g⟩ :: rest)) ∧
    (∀ (P : Program) (gl : Nat → V) (d : Option Tmp) (op : Op) (t : TypeId) (p : String) (a : Array Edge) (rest : List Oper) (e : Env) (st : List O), regS P gl (⟨d, op, t, p, a, none⟩ :: rest) e st = regB P gl (stopOp op) ⟨d, op, t, p, a, none⟩ rest e st) ∧
    (∀ (P : Program) (gl : Nat → V) (o : Oper) (rest : List Oper) (e : Env) (st : List O), regB P gl true o rest e st = some (e, st, o :: rest)) ∧
    (∀ (P : Program) (gl : Nat → V) (d : Option Tmp) (op : Op) (t : TypeId) (p : String) (a : Array Edge) (rest : List Oper) (e : Env) (st : List O), regB P gl false ⟨d, op, t, p, a, none⟩ rest e st = regC P gl d rest e (stepE P nocall (e.ev gl) st op)) ∧
    (∀ (P : Program) (gl : Nat → V) (d : Option Tmp) (rest : List Oper) (e : Env) (v : V) (st' : List O), regC P gl d rest e (some (v, st')) = regS P gl rest (e.put d v) st') ∧
    (∀ (P : Program) (gl : Nat → V) (e : Env) (st : List O) (ups : List Up), anyS P gl [] e st ups = some (e, ups, [])) ∧
    (∀ (P : Program) (gl : Nat → V) (d : Option Tmp) (op : Op) (t : TypeId) (p : String) (a : Array Edge) (g : Nat × Bool) (rest : List Oper) (e : Env) (st : List O) (ups : List Up), anyS P gl (⟨d, op, t, p, a, some g⟩ :: rest) e st ups = some (e, ups, ⟨d, op, t, p, a, some g⟩ :: rest)) ∧
    (∀ (P : Program) (gl : Nat → V) (d : Option Tmp) (op : Op) (t : TypeId) (p : String) (a : Array Edge) (rest : List Oper) (e : Env) (st : List O) (ups : List Up), anyS P gl (⟨d, op, t, p, a, none⟩ :: rest) e st ups = anB P gl (stopOp op) ⟨d, op, t, p, a, none⟩ rest e st ups) ∧
    (∀ (P : Program) (gl : Nat → V) (o : Oper) (rest : List Oper) (e : Env) (st : List O) (ups : List Up), anB P gl true o rest e st ups = some (e, ups, o :: rest)) ∧
    (∀ (P : Program) (gl : Nat → V) (d : Option Tmp) (op : Op) (t : TypeId) (p : String) (a : Array Edge) (rest : List Oper) (e : Env) (st : List O) (ups : List Up), anB P gl false ⟨d, op, t, p, a, none⟩ rest e st ups = anC P gl d rest e st ups (stepAE P nocall (e.ev gl) st op)) ∧
    (∀ (P : Program) (gl : Nat → V) (d : Option Tmp) (rest : List Oper) (e : Env) (st : List O) (ups : List Up) (v : V), anC P gl d rest e st ups (some (v, none)) = anyS P gl rest (e.put d v) st ups) ∧
    (∀ (P : Program) (gl : Nat → V) (d : Tmp) (rest : List Oper) (e : Env) (st : List O) (ups : List Up) (v : V) (f : Nat → V) (ob : O), anC P gl (some d) rest e st ups (some (v, some (f, ob))) = anyS P gl rest (e.put (some d) v) st (ups ++ [(d, f, ob)])) :=
  ⟨regS_nil, regS_g, regS_op, regB_t, regB_f, regC_s, anyS_nil, anyS_g, anyS_op, anB_t, anB_f, anC_s, anC_n⟩
theorem SM : (∀ (t : TypeId) (r : Option Operand), stopOp (.makeMap t r) = false) ∧ (∀ (t : TypeId) (x k : Operand) (b : Bool), stopOp (.lookup t x k b) = false) ∧ (∀ (t : TypeId) (m k x : Operand), stopOp (.mapUpdate t m k x) = false) ∧ (∀ (t : TypeId) (m k x : Operand), stopOp (.insert t m k x) = false) ∧
    (∀ (P : Program) (ρ : Operand → V) (st : List O) (t : TypeId) (x k : Operand) (b : Bool), stepAE P nocall ρ st (.lookup t x k b) = an1 (stepE P nocall ρ st (.lookup t x k b))) ∧
    (∀ (d : TypeDesc) (ks : List V) (k : V), keyP d ks k = (keyD d k && ks.all (keyD d))) ∧ (∀ s : List UInt8, keyD .string (.str s) = true) ∧ (∀ b : Bool, keyD .bool (.bool b) = true) ∧ (∀ (k : IntKind) (n : Int), keyD (.int k) (.int k n) = true) ∧
    (∀ (k : Nat) (ks vs : List V), O.trim k (.map ks vs) = .map ks (vs.map (V.trim k))) ∧ (∀ (st : List O) (ks vs : List V), mapV st (.pmap ks vs) = some (ks, vs)) :=
  ⟨fun _ _ => rfl, fun _ _ _ _ => rfl, fun _ _ _ _ => rfl, fun _ _ _ _ => rfl, fun _ _ _ _ _ _ _ => rfl, fun _ _ _ => rfl, fun _ => rfl, fun _ => rfl, fun k _ => by simp [keyD], fun _ _ _ => rfl, fun _ _ _ => rfl⟩
theorem keysS {α : Type} (l : List α) (f : α → List UInt8) : (l.map fun x => V.str (f x)).all (keyD .string) = true := by simp [keyD]
theorem keysI {α : Type} (l : List α) (k : IntKind) (f : α → Int) : (l.map fun x => V.int k (f x)).all (keyD (.int k)) = true := by simp [keyD]
attribute [go_sem] SM keysS keysI lookE setE delE mapV ownM List.all_nil List.all_cons Bool.true_and Bool.and_true SV resP loadP le_self le_und le_nilt le_nilt1 le_nilt2 le_nils le_drop sle_self Env.has Env.trim_get V.trim V.trim.trimL OT List.map_append SR SO SN SA an1_s maxLen_eq ne_eq decide_true decide_false Bool.not_true Bool.not_false wrap_u8 stepE keep binE intE strE eqE unE uB uS loadE storeE faE fieldE iaE ixE sliceE bndOf lenE appE rowOf buildE fillV splice buildSliceE partsB makeE litB SI pack cmpL cmpV S0 S1 S2 S3 V.one V.bare V.bare.bareL pureB Option.map Option.isSome List.getD_cons_zero List.getD_cons_succ List.toList_toArray Bool.false_eq_true and_true true_and if_true if_false Int.toNat_natCast Int.toNat_zero Int.ofNat_lt List.range_succ List.range_zero beq_self_eq_true i64w getD_lt tmod_nn tdiv_nn toNat_sub1 ifp ifn
end Go.Duo

namespace Go.Duo
open Go
theorem encT_pureB (t : Ty) : (encT t).cells.all pureB = true := by
  obtain ⟨k, p, n, s, l, ks⟩ := t
  rw [encT_mk, c_agg]; rfl
theorem encP_pureB (p : Pr) : (encP p).cells.all pureB = true := by
  obtain ⟨k, c, v, l, a, t, ks⟩ := p
  rw [encP_mk, c_agg]
  simp [pureB, encT_pureB]
theorem encT_bareL (t : Ty) : V.bare.bareL (encT t).cells = (encT t).cells := by
  obtain ⟨k, p, n, s, l, ks⟩ := t
  rw [encT_mk, c_agg]; rfl
theorem encP_at (l : List Pr) (i : Nat) (h : i < (l.map encP).length) : (l.map encP)[i] = encP (l[i]'(by simpa using h)) := List.getElem_map ..
theorem encT_at (l : List Ty) (i : Nat) (h : i < (l.map encT).length) : (l.map encT)[i] = encT (l[i]'(by simpa using h)) := List.getElem_map ..
attribute [go_sem] PB encT_pureB encP_pureB encT_bare encP_bare encT_bareL encP_at encT_at
end Go.Duo

namespace Go.Duo
open Go
def letB (c : UInt8) : Bool := (decide (65 ≤ c.toNat) && decide (c.toNat ≤ 90)) || (decide (97 ≤ c.toNat) && decide (c.toNat ≤ 122)) || decide (c.toNat = 95)
def wordB (c : UInt8) : Bool := letB c || dig c
def blankB (c : UInt8) : Bool := decide (c = 32) || decide (c = 9) || decide (c = 10) || decide (c = 13)
def signL : Str := [33, 63, 46, 40, 41, 123, 125, 60, 62, 44, 58, 59, 124, 38, 43, 61]
def signB (c : UInt8) : Bool := decide (c ∈ signL)
structure Tok where
  kind : Int
  text : Str
  n : Int
  at_ : Int
  deriving DecidableEq
abbrev LexR := Except (Int × Int) (List Tok)
def numN : Str → Nat
  | [] => 0
  | c :: r => if c = 45 then (match r with
      | [] => 0
      | d :: r => if dig d = true ∧ d ≠ 48 then 2 + (r.takeWhile dig).length else 0)
    else if c = 48 then 1 else if dig c = true then 1 + (r.takeWhile dig).length else 0
def tokN : Str → Nat
  | [] => 0
  | c :: r => if letB c = true then 1 + (r.takeWhile wordB).length else if numN (c :: r) ≠ 0 then numN (c :: r) else if signB c = true then 1 else 0
def tokK : Str → Int
  | [] => 0
  | c :: r => if letB c = true then 1 else if numN (c :: r) ≠ 0 then 2 else if signB c = true then 3 else 0
/-- The number of a token, or none if it is too large. -/
def tokV (k : Int) (u : Str) : Option Int := if k = 2 then (match Lib.parseIntB 64 u with | .ok n => some n | _ => none) else some 0
def lexM : Nat → Bool → Nat → Str → LexR
  | 0, _, _, _ => .ok []
  | _ + 1, _, _, [] => .ok []
  | m + 1, true, a, c :: s => if c = 10 then lexM m false (a + 1) s else lexM m true (a + 1) s
  | m + 1, false, a, c :: s => if blankB c = true then lexM m false (a + 1) s else if c = 35 then lexM m true (a + 1) s else
      if tokN (c :: s) = 0 then .error (1, a) else match tokV (tokK (c :: s)) ((c :: s).take (tokN (c :: s))) with
        | none => .error (2, a)
        | some v => (lexM m false (a + tokN (c :: s)) ((c :: s).drop (tokN (c :: s)))).map (⟨tokK (c :: s), (c :: s).take (tokN (c :: s)), v, a⟩ :: ·)
def lexL (b : Bool) (a : Nat) (s : Str) : LexR := lexM s.length b a s
theorem numN_le (s : Str) : numN s ≤ s.length := by
  unfold numN
  split
  · simp
  · rename_i c r
    split
    · split
      · omega
      · rename_i d r
        split
        · have := (List.takeWhile_prefix dig (l := r)).length_le; simp only [List.length_cons]; omega
        · omega
    · split
      · simp
      · split
        · have := (List.takeWhile_prefix dig (l := r)).length_le; simp only [List.length_cons]; omega
        · omega
theorem tokN_le (s : Str) : tokN s ≤ s.length := by
  unfold tokN
  split
  · simp
  · rename_i c r
    have h1 := numN_le (c :: r)
    have h2 := (List.takeWhile_prefix wordB (l := r)).length_le
    simp only [List.length_cons] at h1 ⊢
    split
    · omega
    · split
      · exact h1
      · split <;> omega
theorem lexM_more : ∀ (m n : Nat) (b : Bool) (a : Nat) (s : Str), s.length ≤ m → s.length ≤ n → lexM m b a s = lexM n b a s := by
  intro m
  induction m with
  | zero =>
    intro n b a s h _
    have hs : s = [] := List.eq_nil_of_length_eq_zero (by omega)
    subst hs
    cases n <;> cases b <;> simp [lexM]
  | succ m ih =>
    intro n b a s h h'
    cases s with
    | nil => cases n <;> cases b <;> simp [lexM]
    | cons c s =>
      simp only [List.length_cons] at h h'
      obtain ⟨n, rfl⟩ : ∃ k, n = k + 1 := ⟨n - 1, by omega⟩
      cases b with
      | true => simp only [lexM]; rw [ih n false _ _ (by omega) (by omega), ih n true _ _ (by omega) (by omega)]
      | false =>
        simp only [lexM]
        rw [ih n false (a + 1) s (by omega) (by omega), ih n true (a + 1) s (by omega) (by omega)]
        by_cases h0 : tokN (c :: s) = 0
        · simp only [h0, if_true]
        · rw [ih n false (a + tokN (c :: s)) _ (by rw [List.length_drop, List.length_cons]; omega) (by rw [List.length_drop, List.length_cons]; omega)]
theorem lexL_nil (b : Bool) (a : Nat) : lexL b a [] = .ok [] := by cases b <;> rfl
theorem lexL_note {a : Nat} {c : UInt8} {s : Str} (h : ¬ c = 10) : lexL true a (c :: s) = lexL true (a + 1) s := by
  unfold lexL; simp only [List.length_cons, lexM]; rw [if_neg h]
theorem lexL_noteEnd {a : Nat} {s : Str} : lexL true a (10 :: s) = lexL false (a + 1) s := by
  unfold lexL; simp only [List.length_cons, lexM]; rw [if_pos trivial]
theorem lexL_blank {a : Nat} {c : UInt8} {s : Str} (h : blankB c = true) : lexL false a (c :: s) = lexL false (a + 1) s := by
  unfold lexL; simp only [List.length_cons, lexM]; rw [if_pos h]
theorem lexL_hash {a : Nat} {s : Str} : lexL false a (35 :: s) = lexL true (a + 1) s := by
  unfold lexL; simp only [List.length_cons, lexM]; rw [if_neg (by decide), if_pos trivial]
theorem lexL_bad {a : Nat} {c : UInt8} {s : Str} (h : blankB c = false) (h' : ¬ c = 35) (h0 : tokN (c :: s) = 0) : lexL false a (c :: s) = .error (1, a) := by
  unfold lexL; simp only [List.length_cons, lexM]; rw [if_neg (by rw [h]; simp), if_neg h', if_pos h0]
theorem lexL_big {a : Nat} {c : UInt8} {s : Str} (h : blankB c = false) (h' : ¬ c = 35) (h0 : ¬ tokN (c :: s) = 0) (hv : tokV (tokK (c :: s)) ((c :: s).take (tokN (c :: s))) = none) : lexL false a (c :: s) = .error (2, a) := by
  unfold lexL; simp only [List.length_cons, lexM]; rw [if_neg (by rw [h]; simp), if_neg h', if_neg h0, hv]
theorem lexL_tok {a : Nat} {c : UInt8} {s : Str} {v : Int} (h : blankB c = false) (h' : ¬ c = 35) (h0 : ¬ tokN (c :: s) = 0) (hv : tokV (tokK (c :: s)) ((c :: s).take (tokN (c :: s))) = some v) :
    lexL false a (c :: s) = (lexL false (a + tokN (c :: s)) ((c :: s).drop (tokN (c :: s)))).map (⟨tokK (c :: s), (c :: s).take (tokN (c :: s)), v, a⟩ :: ·) := by
  have e := lexM_more s.length ((c :: s).drop (tokN (c :: s))).length false (a + tokN (c :: s)) ((c :: s).drop (tokN (c :: s))) (by rw [List.length_drop, List.length_cons]; omega) (Nat.le_refl _)
  unfold lexL
  conv => lhs; rw [List.length_cons]; unfold lexM
  rw [if_neg (by rw [h]; simp), if_neg h', if_neg h0, hv, e]
/-- A newline that ends a note may be read once more. -/
theorem lexL_line {a : Nat} {s : Str} : lexL true a (10 :: s) = lexL false a (10 :: s) := by rw [lexL_noteEnd, lexL_blank (by decide)]
def lexA (s : Str) (b : Bool) (a : Nat) : LexR := lexL b a (s.drop a)
section
variable {s : Str} {a : Nat}
theorem lexA_end {b : Bool} (h : s.length ≤ a) : lexA s b a = .ok [] := by unfold lexA; rw [List.drop_eq_nil_of_le h, lexL_nil]
theorem drop_at (h : a < s.length) : s.drop a = s[a] :: s.drop (a + 1) := List.drop_eq_getElem_cons h
theorem lexA_note (h : a < s.length) (hc : ¬ s[a] = 10) : lexA s true a = lexA s true (a + 1) := by unfold lexA; rw [drop_at h, lexL_note hc]
theorem lexA_line (h : a < s.length) (hc : s[a] = 10) : lexA s true a = lexA s false a := by unfold lexA; rw [drop_at h, hc, lexL_line]
theorem lexA_blank (h : a < s.length) (hc : blankB s[a] = true) : lexA s false a = lexA s false (a + 1) := by unfold lexA; rw [drop_at h, lexL_blank hc]
theorem lexA_hash (h : a < s.length) (hc : s[a] = 35) : lexA s false a = lexA s true a := by
  unfold lexA; rw [drop_at h, hc, lexL_hash, lexL_note (by decide)]
theorem lexA_bad (h : a < s.length) (hb : blankB s[a] = false) (hh : ¬ s[a] = 35) (h0 : tokN (s.drop a) = 0) : lexA s false a = .error (1, a) := by
  unfold lexA; rw [drop_at h] at h0 ⊢; exact lexL_bad hb hh h0
theorem lexA_big (h : a < s.length) (hb : blankB s[a] = false) (hh : ¬ s[a] = 35) (h0 : ¬ tokN (s.drop a) = 0) (hv : tokV (tokK (s.drop a)) ((s.drop a).take (tokN (s.drop a))) = none) : lexA s false a = .error (2, a) := by
  unfold lexA; rw [drop_at h] at h0 hv ⊢; exact lexL_big hb hh h0 hv
theorem lexA_tok {v : Int} (h : a < s.length) (hb : blankB s[a] = false) (hh : ¬ s[a] = 35) (h0 : ¬ tokN (s.drop a) = 0) (hv : tokV (tokK (s.drop a)) ((s.drop a).take (tokN (s.drop a))) = some v) :
    lexA s false a = (lexA s false (a + tokN (s.drop a))).map (⟨tokK (s.drop a), (s.drop a).take (tokN (s.drop a)), v, a⟩ :: ·) := by
  unfold lexA
  rw [← List.drop_drop]
  rw [drop_at h] at h0 hv ⊢
  exact lexL_tok hb hh h0 hv
end
def isWord : Str → Bool
  | [] => false
  | c :: r => letB c && r.all wordB
def isNum (s : Str) : Bool := decide (s = [48]) || (match (if s.head? = some 45 then s.tail else s) with
  | [] => false
  | c :: r => decide (c ≠ 48) && (dig c && r.all dig))
def kindL (s : Str) : Int := if isWord s = true then 1 else if isNum s = true then 2 else match s with
  | [c] => if signB c = true then 3 else 0
  | _ => 0
theorem all_take (p : UInt8 → Bool) : ∀ (r : Str) (j : Nat), j ≤ r.length → (r.take j).all p = decide (j ≤ (r.takeWhile p).length)
  | [], j, h => by simp at h; subst h; simp
  | c :: r, 0, _ => by simp
  | c :: r, j + 1, h => by
    simp only [List.take_succ_cons, List.all_cons, List.takeWhile_cons]
    cases hp : p c with
    | false => simp
    | true => simp only [Bool.true_and, if_true, List.length_cons, Nat.add_le_add_iff_right]; exact all_take p r j (by simpa using h)
theorem u8_all (p : UInt8 → Bool) (h : ((List.range 256).all fun n => p (UInt8.ofNat n)) = true) (c : UInt8) : p c = true := by
  have h1 := List.all_eq_true.1 h c.toNat (List.mem_range.2 (UInt8.toNat_lt c))
  rwa [UInt8.ofNat_toNat] at h1
theorem let_not {c : UInt8} (h : letB c = true) : dig c = false ∧ c ≠ 45 ∧ c ≠ 48 ∧ signB c = false ∧ c ≠ 35 ∧ blankB c = false := by
  have := u8_all (fun c => !letB c || decide (dig c = false ∧ c ≠ 45 ∧ c ≠ 48 ∧ signB c = false ∧ c ≠ 35 ∧ blankB c = false)) (by decide +kernel) c
  rw [h] at this; simpa using this
theorem dig_not {c : UInt8} (h : dig c = true) : letB c = false ∧ c ≠ 45 ∧ signB c = false ∧ c ≠ 35 ∧ blankB c = false := by
  have := u8_all (fun c => !dig c || decide (letB c = false ∧ c ≠ 45 ∧ signB c = false ∧ c ≠ 35 ∧ blankB c = false)) (by decide +kernel) c
  rw [h] at this; simpa using this
/-- How far the beginnings are tokens. -/
def preOK (t : Str) (k : Nat) : Bool := decide (1 ≤ k) && decide (k ≤ tokN t) && !(decide (k = 1) && decide (t.head? = some 45))
theorem isNum_dig {c : UInt8} {r : Str} (h : dig c = true) (h48 : c ≠ 48) : isNum (c :: r) = r.all dig := by
  unfold isNum
  have hc := (dig_not h).2.1
  rw [List.head?_cons, if_neg (by simpa using hc)]
  simp only [h48, ne_eq, not_false_eq_true, decide_true, h, Bool.true_and]
  have : ¬ (c :: r) = [48] := by simp; intro h; exact absurd h h48
  simp [this]
theorem isNum_zero {r : Str} : isNum (48 :: r) = decide (r = []) := by
  unfold isNum
  rw [List.head?_cons, if_neg (by decide)]
  simp
theorem isNum_minus {r : Str} : isNum (45 :: r) = (match r with | [] => false | c :: r => decide (c ≠ 48) && (dig c && r.all dig)) := by
  unfold isNum
  rw [List.head?_cons, if_pos rfl]
  cases r <;> simp
theorem isNum_other {c : UInt8} {r : Str} (h : dig c = false) (h45 : c ≠ 45) : isNum (c :: r) = false := by
  unfold isNum
  rw [List.head?_cons, if_neg (by simpa using h45)]
  have : c ≠ 48 := by rintro rfl; exact absurd h (by decide)
  simp [h, this]
theorem isWord_other {c : UInt8} {r : Str} (h : letB c = false) : isWord (c :: r) = false := by simp [isWord, h]
theorem kind_word {c : UInt8} {r : Str} (h : letB c = true) : kindL (c :: r) = if r.all wordB = true then 1 else 0 := by
  obtain ⟨h1, h2, h3, h4, _⟩ := let_not h
  unfold kindL
  rw [isNum_other h1 h2]
  simp only [isWord, h, Bool.true_and]
  split
  · rfl
  · rename_i hh
    rw [if_neg (by simp)]
    cases r with
    | nil => simp at hh
    | cons d r => rfl
theorem kind_dig {c : UInt8} {r : Str} (h : dig c = true) (h48 : c ≠ 48) : kindL (c :: r) = if r.all dig = true then 2 else 0 := by
  obtain ⟨h1, h2, h3, _⟩ := dig_not h
  unfold kindL
  rw [isWord_other h1, if_neg (by simp), isNum_dig h h48]
  split
  · rfl
  · rename_i hh
    cases r with
    | nil => simp at hh
    | cons d r => rfl
theorem kind_zero {r : Str} : kindL (48 :: r) = if r = [] then 2 else 0 := by
  unfold kindL
  rw [isWord_other (by decide), if_neg (by simp), isNum_zero]
  cases r with
  | nil => rfl
  | cons d r => simp
theorem kind_minus {r : Str} : kindL (45 :: r) = if (match r with | [] => false | c :: r => decide (c ≠ 48) && (dig c && r.all dig)) = true then 2 else 0 := by
  unfold kindL
  rw [isWord_other (by decide), if_neg (by simp), isNum_minus]
  cases r with
  | nil => simp [signB, signL]
  | cons d r => split <;> rfl
theorem kind_other {c : UInt8} {r : Str} (h1 : letB c = false) (h2 : dig c = false) (h3 : c ≠ 45) : kindL (c :: r) = if r = [] ∧ signB c = true then 3 else 0 := by
  unfold kindL
  rw [isWord_other h1, if_neg (by simp), isNum_other h2 h3, if_neg (by simp)]
  cases r with
  | nil => simp
  | cons d r => simp
theorem kind_take {t : Str} {k : Nat} (h1 : 1 ≤ k) (hk : k ≤ t.length) : (0 < kindL (t.take k)) = (preOK t k = true) := by
  cases t with
  | nil => simp at hk; omega
  | cons c r =>
    obtain ⟨j, rfl⟩ : ∃ j, k = j + 1 := ⟨k - 1, by omega⟩
    simp only [List.length_cons, Nat.add_le_add_iff_right] at hk
    rw [List.take_succ_cons]
    unfold preOK
    simp only [List.head?_cons, Option.some.injEq, Nat.le_add_left, decide_true, Bool.true_and, Nat.add_eq_right]
    by_cases hl : letB c = true
    · obtain ⟨e1, e2, _⟩ := let_not hl
      rw [kind_word hl, all_take wordB r j hk]
      simp only [tokN, hl, if_true, e2, decide_false, Bool.and_false, Bool.not_false, Bool.and_true, decide_eq_true_eq]
      by_cases hj : j ≤ (r.takeWhile wordB).length
      · simp [hj]; omega
      · simp [hj]; omega
    · have hl : letB c = false := by simpa using hl
      by_cases hm : c = 45
      · subst hm
        cases r with
        | nil => simp at hk; subst hk; simp [kind_minus]
        | cons d r =>
          cases j with
          | zero => simp [kind_minus]
          | succ j =>
            simp only [List.length_cons, Nat.add_le_add_iff_right] at hk
            rw [List.take_succ_cons, kind_minus]
            simp only [all_take dig r j hk]
            have hs : signB 45 = false := by decide
            simp only [tokN, show letB 45 = false from by decide, Bool.false_eq_true, if_false, numN, if_true, hs]
            by_cases hd : dig d = true ∧ d ≠ 48
            · by_cases hj : j ≤ (r.takeWhile dig).length
              · simp [hd, hj]; omega
              · simp [hd, hj]; omega
            · have : (decide (d ≠ 48) && (dig d && decide (j ≤ (r.takeWhile dig).length))) = false := by
                cases hdd : dig d with
                | false => simp
                | true => simp [hdd] at hd; simp [hd]
              simp only [this]
              simp [hd]
      · by_cases hz : c = 48
        · subst hz
          rw [kind_zero]
          simp only [tokN, show letB 48 = false from by decide, Bool.false_eq_true, if_false, numN, if_true]
          by_cases hj : j = 0
          · subst hj; simp
          · have : ¬ r.take j = [] := by
              intro h
              have := congrArg List.length h
              rw [List.length_take, List.length_nil] at this
              omega
            simp [this, hj]
        · by_cases hd : dig c = true
          · rw [kind_dig hd hz, all_take dig r j hk]
            simp only [tokN, hl, Bool.false_eq_true, if_false, numN, hm, hz, hd, if_true]
            by_cases hj : j ≤ (r.takeWhile dig).length
            · simp [hj]; omega
            · simp [hj]; omega
          · have hd : dig c = false := by simpa using hd
            rw [kind_other hl hd hm]
            simp only [tokN, hl, Bool.false_eq_true, if_false, numN, hm, hz, hd]
            by_cases hs : signB c = true
            · by_cases hj : j = 0
              · subst hj; simp [hs]
              · have : ¬ r.take j = [] := by
                  intro h
                  have := congrArg List.length h
                  rw [List.length_take, List.length_nil] at this
                  omega
                simp [hs, this, hj]
            · simp [hs]
theorem kind_tok {t : Str} (h : ¬ tokN t = 0) : kindL (t.take (tokN t)) = tokK t := by
  cases t with
  | nil => exact absurd rfl h
  | cons c r =>
    obtain ⟨j, hj⟩ : ∃ j, tokN (c :: r) = j + 1 := ⟨tokN (c :: r) - 1, by omega⟩
    rw [hj, List.take_succ_cons]
    have htw : ∀ p : UInt8 → Bool, (r.take (r.takeWhile p).length).all p = true := fun p => by rw [all_take p r _ (List.takeWhile_prefix p).length_le]; simp
    by_cases hl : letB c = true
    · simp only [tokN, hl, if_true] at hj
      have : j = (r.takeWhile wordB).length := by omega
      subst this
      rw [kind_word hl, if_pos (htw _)]
      simp [tokK, hl]
    · have hl : letB c = false := by simpa using hl
      by_cases hm : c = 45
      · subst hm
        cases r with
        | nil => simp [tokN, numN, signB, signL, letB] at h
        | cons d r =>
          simp only [tokN, show letB 45 = false from by decide, Bool.false_eq_true, if_false, numN, if_true, show signB 45 = false from by decide] at hj h
          by_cases hd : dig d = true ∧ d ≠ 48
          · have hne : ¬ 2 + (r.takeWhile dig).length = 0 := by omega
            simp only [hd, if_true, ne_eq, hne, not_false_eq_true, and_self] at hj
            have : j = (r.takeWhile dig).length + 1 := by omega
            subst this
            have hh := htw
            have ht2 : (r.take (r.takeWhile dig).length).all dig = true := by rw [all_take dig r _ (List.takeWhile_prefix dig).length_le]; simp
            rw [List.take_succ_cons, kind_minus]
            simp [hd, ht2, tokK, numN, show letB 45 = false from by decide]
          · simp [hd] at h
      · by_cases hz : c = 48
        · subst hz
          simp only [tokN, show letB 48 = false from by decide, Bool.false_eq_true, if_false, numN, if_true, hm] at hj
          simp at hj
          subst hj
          simp [kind_zero, tokK, numN, show letB 48 = false from by decide]
        · by_cases hd : dig c = true
          · simp only [tokN, hl, Bool.false_eq_true, if_false, numN, hm, hz, hd, if_true] at hj
            have : j = (r.takeWhile dig).length := by split at hj <;> omega
            subst this
            rw [kind_dig hd hz, if_pos (htw _)]
            simp [tokK, hl, numN, hm, hz, hd]
          · have hd : dig c = false := by simpa using hd
            simp only [tokN, hl, Bool.false_eq_true, if_false, numN, hm, hz, hd] at hj h
            by_cases hs : signB c = true
            · simp [hs] at hj
              subst hj
              rw [kind_other hl hd hm]
              simp [hs, tokK, hl, numN, hm, hz, hd]
            · simp [hs] at h
end Go.Duo

namespace Go.Duo
open Go
section
variable {P : Program} {gl : Nat → V} {st : List O}
/-- A function that makes new blocks at most; what it gives is known wherever. -/
theorem Call.of_grow {k : FuncId} {args : List V} {K : V → List O → Prop}
    (h : ∀ (w : World) (s : S) (xs : List Value), s.st = st → Sim P gl w s → RepL w s args xs → Calls P k xs.toArray w fun e w' => RowKit.Below w.heap.size w w' ∧ ∃ v x, e = .returned x ∧ K v st ∧ ∀ w2 s2, Rep w2 s2 v x) : Call P gl k args st K := fun w s xs hst hs hxs => by
  refine (callsIn_wide.2 (h w s xs hst hs hxs)).mono ?_
  rintro e w' ⟨hb, v, x, rfl, hK, hr⟩
  have hS := hs.grow (w' := w') hb.os hb.tape hb.output hb.size hb.block (fun _ _ => False) (fun _ _ h => h.elim)
  have hE := Evolve.grow (w := w) (w' := w') hs.wf hb.os hb.tape hb.output hb.size hb.block (fun _ _ => False) (fun _ _ h => h.elim)
  exact ⟨v, x, _, rfl, hS, hE, hr _ _, by subst hst; exact hK⟩
/-- A package's table, as the shelf wants it. -/
theorem glob_tab {w : World} {s : S} (hs : Sim P gl w s) {g : Nat} {name : String} {k : IntKind} {zs : List Int} (hn : P.globalNamed name = some g) (hg : gl g = .dptr (zs.map (.int k))) : Lib.TabIs P w name k zs := by
  rcases hs.glob g with h | ⟨hp, _, cs, t, fr, h1, h2⟩
  · rw [hg] at h; cases h
  · rw [hg] at hp h2
    unfold Lib.TabIs World.var?
    rw [hn]
    simp only [Option.bind_some, h1]
    simp only [V.dlen, List.length_map] at h2
    congr 1
    apply Array.ext
    · simp [h2]
    · intro j hj hj'
      simp only [List.size_toArray, List.length_map] at hj'
      cases hp with
      | dptr _ _ _ y hc hh =>
        have hj2 : (zs.map (V.int k))[j]? = some (.int k zs[j]) := by rw [List.getElem?_map, List.getElem?_eq_getElem hj']; rfl
        have h3 := (hc j _ hj2).1
        have h4 := hh j _ hj2
        cases h4' : y j <;> rw [h4'] at h4 <;> cases h4
        rw [Nat.zero_add] at h3
        have h5 := cell_of_row w g j cs t fr h1
        rw [h3, h4'] at h5
        rw [Array.getElem?_eq_getElem hj] at h5
        simp only [Option.some.injEq] at h5
        rw [← h5]
        simp
/-- A package's variable of an interface's type. -/
theorem glob_iface {w : World} {s : S} (hs : Sim P gl w s) {g : Nat} {t : TypeId} {v : V} (hg : gl g = .dptr [.iface t v]) : ∃ ev, w.cell? ⟨g, 0, none⟩ = some ev ∧ (ev = .nilIface ∨ ∃ te pe, ev = .iface te pe) := by
  rcases hs.glob g with h | ⟨hp, _, _⟩
  · rw [hg] at h; cases h
  · rw [hg] at hp
    cases hp with
    | dptr _ _ _ y hc hh =>
      have h3 := (hc 0 _ rfl).1
      have h4 := hh 0 _ rfl
      refine ⟨y 0, h3, ?_⟩
      generalize y 0 = z at h4
      cases h4
      exact .inr ⟨_, _, rfl⟩
end
end Go.Duo

namespace Go.Duo
open Go
theorem blank_in (c : UInt8) : decide (c ∈ ([32, 9, 10, 13] : Str)) = blankB c := by
  simp only [List.mem_cons, List.not_mem_nil, or_false, Bool.decide_or, blankB, Bool.or_assoc]
end Go.Duo
namespace Go.Duo
open Go
def Tok.zero : Tok := ⟨0, [], 0, 0⟩
def encK (t : Tok) : V := .agg [.int .i64 t.kind, .str t.text, .int .i64 t.n, .int .i64 t.at_]
theorem u8_45 (c : UInt8) : ((c.toNat : Int) = 45) = (c = 45) := propext ⟨fun h => UInt8.toNat.inj (by simpa using (show c.toNat = 45 by omega)), fun h => by rw [h]; rfl⟩
theorem u8_48 (c : UInt8) : ((c.toNat : Int) = 48) = (c = 48) := propext ⟨fun h => UInt8.toNat.inj (by simpa using (show c.toNat = 48 by omega)), fun h => by rw [h]; rfl⟩
theorem u8_35 (c : UInt8) : ((c.toNat : Int) = 35) = (c = 35) := propext ⟨fun h => UInt8.toNat.inj (by simpa using (show c.toNat = 35 by omega)), fun h => by rw [h]; rfl⟩
theorem u8_10 (c : UInt8) : ((c.toNat : Int) = 10) = (c = 10) := propext ⟨fun h => UInt8.toNat.inj (by simpa using (show c.toNat = 10 by omega)), fun h => by rw [h]; rfl⟩
theorem u8_43 (c : UInt8) : ((c.toNat : Int) = 43) = (c = 43) := propext ⟨fun h => UInt8.toNat.inj (by simpa using (show c.toNat = 43 by omega)), fun h => by rw [h]; rfl⟩
theorem u8_eq (c d : UInt8) : ((c.toNat : Int) = (d.toNat : Int)) = (c = d) := propext ⟨fun h => UInt8.toNat.inj (by omega), fun h => by rw [h]⟩
def KW : List Str := [[100, 101, 102], [109, 97, 105, 110], [115, 116, 111, 112], [110, 101, 119], [105, 110, 116], [98, 111, 111, 108], [101, 110, 100], [114, 101, 99], [116, 114, 117, 101], [102, 97, 108, 115, 101]]
def nameB (s : Str) : Bool := isWord s && !decide (s ∈ KW)
/-- What lex.Tokens returns. -/
def lexT (s : Str) : List Tok × Int × Int := if 65536 < s.length then ([], 2, 65536) else match lexA s false 0 with
  | .ok l => (l, 0, 0)
  | .error x => ([], x.1, x.2)
theorem lexT_big {s : Str} (h : 65536 < s.length) : lexT s = ([], 2, 65536) := if_pos h
theorem take_at {α : Type} {l : List α} {i : Nat} (h : i < l.length) : l.take (i + 1) = l.take i ++ [l[i]] := by rw [List.take_append_getElem]
end Go.Duo
