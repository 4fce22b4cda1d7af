/-
  Late stores by reckoning.
-/
import Derived.Test.YtajdahnfnodoeaaDoorDS
import Derived.Test.YtajdahnfnodoeaaDoorDLate
set_option linter.all false
namespace Go.Duo
open Go
section
variable {P : Program} {gl : Nat → V} {st : List O}
theorem late_S {e1 : Env} {op : Op} {R : List O → Prop} {st' : List O} (hs : stepE P nocall (e1.ev gl) st op = some (.undef, st')) (hR : R st') :
    ∃ st', step1 P gl (e1.ev gl) st op (fun v s2 => v = .undef ∧ s2 = st') ∧ R st' := ⟨st', stepE_sound nocall_ok hs ⟨rfl, rfl⟩, hR⟩
theorem awS_S {ops : Array Oper} {e1 : Env} {st' st2 : List O} {ls : List Nat} {i d : Nat} {o : Oper} (ho0 : ops.toList[i]? = some o) (hg : o.guard = none) (hd : o.dst = some d) (hc : calm o.op = true)
    (hs : stepE P nocall (e1.ev gl) st' o.op = some (e1.get d, st2)) (h2 : awS P gl ops e1 st' ls) : awS P gl ops e1 st' (i :: ls) :=
  awS_cons ho0 hg hd hc (fun K2 h => stepE_sound nocall_ok hs (h _ _ rfl)) h2
theorem Call.le {k : FuncId} {args args' : List V} {K : V → List O → Prop} (hl : args.length = args'.length) (h : ∀ (i : Nat) (c d : V), args[i]? = some c → args'[i]? = some d → V.le st c d) (hc : Call P gl k args' st K) : Call P gl k args st K := fun w s xs hst hs hxs =>
  hc w s xs hst hs ⟨by rw [← hl]; exact hxs.1, fun i d x hd hx => by
    have hi : i < args.length := by rw [hl]; exact (List.getElem?_eq_some_iff.1 hd).1
    exact h i args[i] d (List.getElem?_eq_getElem hi) hd w s x hst (hxs.2 i _ x (List.getElem?_eq_getElem hi) hx)⟩
theorem Call.le1 {k : FuncId} {a b : V} {l : List V} {K : V → List O → Prop} (h : V.le st a b) (hc : Call P gl k (b :: l) st K) : Call P gl k (a :: l) st K :=
  Call.le (args := a :: l) (args' := b :: l) rfl (fun i c d hc hd => by
    cases i with
    | zero => simp at hc hd; subst hc hd; exact h
    | succ i => simp at hc hd; rw [hc] at hd; cases hd; exact V.le_refl _ _) hc
theorem Call.le2 {k : FuncId} {a b c d : V} {l : List V} {K : V → List O → Prop} (h : V.le st a b) (h2 : V.le st c d) (hc : Call P gl k (b :: d :: l) st K) : Call P gl k (a :: c :: l) st K :=
  Call.le (args := a :: c :: l) (args' := b :: d :: l) rfl (fun i x y hc hd => by
    rcases i with _ | _ | i
    · simp at hc hd; subst hc hd; exact h
    · simp at hc hd; subst hc hd; exact h2
    · simp at hc hd; rw [hc] at hd; cases hd; exact V.le_refl _ _) hc
end
end Go.Duo
