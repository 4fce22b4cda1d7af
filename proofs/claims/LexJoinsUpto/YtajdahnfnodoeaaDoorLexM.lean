/-
  Walks of the laws, law 01.
-/
import Derived.Test.YtajdahnfnodoeaaDoorLexD
import Derived.Test.YtajdahnfnodoeaaDoorLexG
import Derived.Test.YtajdahnfnodoeaaDoorDLex5
import Derived.Test.YtajdahnfnodoeaaDoorLexI
import Derived.Test.YtajdahnfnodoeaaDoorDLex7
set_option linter.all false
namespace Go.Proofs
open Go Go.Duo
namespace Tryd
attribute [local irreducible] awL awA AW
set_option maxRecDepth 100000 in
set_option maxHeartbeats 8000000 in
theorem lawJoins_spec (s : Str) (hA : s.length ≤ 9223372036854775807) (l : List Tok) (hJ : (Lib.join (txts l) [32]).length ≤ 140737488355328) (st : List O) : Duo.Call Tryd.prog Tryd.gl 4 [.str s, .sl (l.map encK) none] st (fun v st' => v = .bool true ∧ st' = st) := by
  refine Duo.Call.clo fun hst => ?_
  have htl := tkL_len s
  have htj := tkL_len (Lib.join (txts (tkL s)) [32])
  refine Duo.Call.body 60 [(0, .str s), (1, .sl (l.map encK) none)] Tryd.func4 rfl rfl ?_
  repeat' first
    | refine AW.seqK fun K hK => ?_
    | (refine hK _ _ ?_; clear hK K)
    | refine AW.region ?_
    | refine awL_call rfl (by first | exact ent8 | exact ent9 | exact ent17 | exact ent12 | exact ent18 | exact ent11) (by simp only [go_sem, ↓reduceIte, Nat.reduceEqDiff, Nat.reduceAdd, Nat.reduceLeDiff, Nat.reduceMul, Nat.reduceSub, Nat.reduceLT, eq_self]; rfl) (by first | exact awake_spec _ | exact tok_spec s hA _ | exact ljoin_spec l (by omega) hJ _ | exact back_spec l (by omega) _ | exact rjoin_spec l (by omega) hJ _ | exact ljoin_spec (tkL s) (by omega) (by omega) _ | exact tok_spec (Lib.join (txts (tkL s)) [32]) (by omega) _ | exact back_spec (tkL s) (by omega) _ | exact back_spec (tkL (Lib.join (txts (tkL s)) [32])) (by omega) _ | exact same_spec (tkL s) (tkL (Lib.join (txts (tkL s)) [32])) false (by omega) _) rfl ?_
    | refine awL_nil ?_
    | ((fail_if_success (clear hjq)); (rcases Nat.lt_or_ge 3000 s.length with hq | hq; (focus (exfalso; omega))); (rcases Nat.lt_or_ge 100 l.length with hq2 | hq2; (focus (exfalso; omega))); have hj6 := join_small hq; have hjn := joins hq; have hjq : True := trivial)
    | (refine awL_gno rfl ?_ rfl ?_; focus (simp only [S0, ↓reduceIte, Nat.reduceEqDiff, Bool.not_true, Bool.not_false]; done))
    | (refine awL_gyes rfl ?_ ?_; focus (simp only [S0, ↓reduceIte, Nat.reduceEqDiff, Bool.not_true, Bool.not_false]; done))
    | refine awL_hole rfl rfl rfl rfl ?_
    | (refine awL_gcase rfl rfl (fun hg => ?_) (fun hg => ?_) <;> (rw [hg]; (try simp only [Int.ofNat_inj, not_true_eq_false, not_false_eq_true, Bool.false_eq_true, Bool.true_eq_false, decide_eq_true_eq, decide_eq_false_iff_not, Bool.not_eq_true, Bool.not_eq_false, Bool.not_eq_true', Bool.not_eq_false', Int.not_lt, Int.not_le, ne_eq, Decidable.not_not, List.length_map, Bool.and_eq_true, Bool.or_eq_true, Bool.and_eq_false_imp, Int.ofNat_lt, Int.ofNat_le, eq_self, same_self] at hg); try (exfalso; omega)))
    | refine awL_S1 rfl rfl (by simp (disch := omega) only [go_sem, ↓reduceIte, Nat.reduceEqDiff, Nat.reduceAdd, Nat.reduceLeDiff, Nat.reduceMul, Nat.reduceSub, Nat.reduceLT, eq_self]; rfl) ?_
    | (refine AW.condK _ rfl (fun hb => ?_) (fun hb => ?_) <;> (try simp only [Int.ofNat_inj, not_true_eq_false, not_false_eq_true, Bool.false_eq_true, Bool.true_eq_false, decide_eq_true_eq, decide_eq_false_iff_not, Bool.not_eq_true, Bool.not_eq_false, Bool.not_eq_true', Bool.not_eq_false', Int.not_lt, Int.not_le, ne_eq, Decidable.not_not, List.length_map, Bool.and_eq_true, Bool.or_eq_true, Bool.and_eq_false_imp, Int.ofNat_lt, Int.ofNat_le, eq_self, same_self] at hb) <;> try (exfalso; omega))
    | refine AW.skip ?_
    | refine useK (by assumption) ?_
    | (refine AW.ret ?_; show (_ ∨ _) ∧ _; refine ⟨.inr rfl, ?_⟩; show resP _ _ _ [.tmp 4] _; simp (disch := omega) only [go_sem, ↓reduceIte, Nat.reduceEqDiff, Nat.reduceAdd, Nat.reduceLeDiff, Nat.reduceMul, Nat.reduceSub, Nat.reduceLT, eq_self]; refine ⟨_, _, _, Nat.le_refl _, V.le_refl _ _, StLe.refl _, ?_⟩; (try simp (disch := omega) only [go_sem, ↓reduceIte, Nat.reduceEqDiff, Nat.reduceAdd, Nat.reduceLeDiff, Nat.reduceMul, Nat.reduceSub, Nat.reduceLT, eq_self, hst.trim, hst.trim_append]))
  all_goals (obtain ⟨_, x1, x2, x3⟩ := hjn (by assumption); clear hA hJ htl htj hq hq2 hj6; simp_all)
end Tryd
end Go.Proofs
