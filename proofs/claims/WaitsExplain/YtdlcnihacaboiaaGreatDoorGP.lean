/-
  A part of the proof.
-/
import Derived.Test.YtdlcnihacaboiaaGreatDoorGO
import Derived.Test.YtdlcnihacaboiaaGreatDoorDS3
set_option linter.all false
namespace Go.Duo
open Go
theorem tok_call {P:Program} {gl:Nat → V} {ρ:Operand → V} {st:List O} {c:Go.Call} {f:Operand} {k:FuncId} {fs cs args es:List V} {el:TypeId} {sz:Nat} (hc:c.callee = .value f) (hf:ρ f = .func (.func k) fs cs) (he:ent P k = true) (ha:fs ++ c.args.toList.map ρ ++ cs = args)
    (h:Call P gl k args st fun v st' => v = .sl es (some st.length) ∧ st' = st ++ [.tok el sz es.length]):tokOp P gl ρ st (.call c) es el sz:=by
  unfold tokOp
  simp only [hc,hf]
  exact ⟨he,ha ▸ h⟩
end Go.Duo
