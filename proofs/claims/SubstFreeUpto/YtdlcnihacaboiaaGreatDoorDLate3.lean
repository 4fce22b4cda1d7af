/-
  A part of the proof.
-/
import Derived.Test.YtdlcnihacaboiaaGreatDoorGO
set_option linter.all false
namespace Go.Duo
open Go
section
variable {P : Program} {gl : Nat → V} {r : Option Nat} {e : Env} {st : List O} {w w' : World} {s s' : S} {ops : Array Oper} {m : Nat}
def CalmRes (l : List Oper) (res : List (V × Option ((Nat → V) × O))) : Prop := ∀ (i : Nat) (o : Oper) (v : V) (u : Option ((Nat → V) × O)), l[i]? = some o → res[i]? = some (v, u) → calm o.op = true → u = none
theorem CalmRes.cons {o : Oper} {l : List Oper} {v : V} {u : Option ((Nat → V) × O)} {res : List (V × Option ((Nat → V) × O))} (h : CalmRes l res) (hu : calm o.op = true → u = none) : CalmRes (o :: l) ((v, u) :: res) := fun i o' v' u' ho hr hc => by
  cases i with
  | zero =>
    simp only [List.getElem?_cons_zero, Option.some.injEq, Prod.mk.injEq] at ho hr
    subst ho
    obtain ⟨_, rfl⟩ := hr
    exact hu hc
  | succ i => exact h i o' v' u' (by simpa using ho) (by simpa using hr) hc
end
end Go.Duo
