/-
  A part of the proof.
-/
import Derived.Test.YtdlcnihacaboiaaGreatDoorSubLib
import Derived.Test.YtdlcnihacaboiaaGreatDoorGI
import Derived.Test.YtdlcnihacaboiaaGreatDoorDS3
import Derived.Test.YtdlcnihacaboiaaGreatDoorWaitD
set_option linter.all false
namespace Go.Proofs
open Go Go.Duo
namespace Tryz
attribute [local irreducible] awL awA awT AW
set_option maxRecDepth 100000 in
set_option maxHeartbeats 8000000 in
theorem rnameg_spec (k : Int) (p : Bool) (h0 : -9223372036854775808 ≤ k) (h1 : k ≤ 9223372036854775807) (st : List O) : Duo.Call Tryz.prog Tryz.gl 67 [.int .i64 k, .bool p] st (fun v st' => v = .str (nameL k p) ∧ st' = st) := by
  refine Duo.Call.clo fun hst => ?_
  have hl := Lib.itoa_length_le k h0 h1
  refine Duo.Call.body 12 [(0, .int .i64 k), (1, .bool p)] Tryz.func67 rfl rfl ?_
  repeat' first
    | refine AW.seqK fun K hK => ?_
    | (refine hK _ _ ?_; clear hK K)
    | refine AW.region ?_
    | refine awL_call rfl (by first | exact ent17) (by simp only [go_sem, ↓reduceIte, Nat.reduceEqDiff, Nat.reduceAdd, Nat.reduceLeDiff, Nat.reduceMul, Nat.reduceSub, Nat.reduceLT]; rfl) (by first | exact decimalF_spec _ (by omega) (by omega) _) rfl ?_
    | refine awL_nil ?_
    | refine awL_S1 rfl rfl (by simp (disch := omega) only [go_sem, ↓reduceIte, Nat.reduceEqDiff, Nat.reduceAdd, Nat.reduceLeDiff, Nat.reduceMul, Nat.reduceSub, Nat.reduceLT]; rfl) ?_
    | (refine AW.condK _ rfl (fun hb => ?_) (fun hb => ?_) <;> (try simp only [Int.ofNat_inj, not_true_eq_false, not_false_eq_true, Bool.false_eq_true, Bool.true_eq_false, decide_eq_true_eq, decide_eq_false_iff_not, Bool.not_eq_true, Bool.not_eq_false, Bool.not_eq_true', Bool.not_eq_false', Int.not_lt, Int.not_le, ne_eq, Decidable.not_not, List.length_map, Bool.and_eq_true, Bool.or_eq_true, Bool.and_eq_false_imp, Int.ofNat_lt, Int.ofNat_le] at hb) <;> try (exfalso; omega))
    | refine AW.skip ?_
    | refine useK (by assumption) ?_
    | (refine AW.ret ?_; show (_ ∨ _) ∧ _; refine ⟨.inr rfl, ?_⟩; show resP _ _ _ [.tmp 4] _; simp (disch := omega) only [go_sem, ↓reduceIte, Nat.reduceEqDiff, Nat.reduceAdd, Nat.reduceLeDiff, Nat.reduceMul, Nat.reduceSub, Nat.reduceLT]; refine ⟨_, _, _, Nat.le_refl _, V.le_refl _ _, StLe.refl _, ?_⟩; (try simp (disch := omega) only [go_sem, ↓reduceIte, Nat.reduceEqDiff, Nat.reduceAdd, Nat.reduceLeDiff, Nat.reduceMul, Nat.reduceSub, Nat.reduceLT, hst.trim, hst.trim_append]))
  all_goals (unfold nameL; simp_all)
end Tryz
end Go.Proofs
