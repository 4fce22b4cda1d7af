/-
  Walks of the laws, law 01.
-/
import Derived.Test.YtajdahnfnodoeaaDoorLexD
import Derived.Test.YtajdahnfnodoeaaDoorLexG
import Derived.Test.YtajdahnfnodoeaaDoorDLex5
import Derived.Test.YtajdahnfnodoeaaDoorLexH
set_option linter.all false
namespace Go.Proofs
open Go Go.Duo
namespace Tryd
attribute [local irreducible] awL awA AW
theorem tok_spec (s : Str) (hs : s.length ≤ 9223372036854775807) (st : List O) : Duo.Call Tryd.prog gl 9 [.str s] st (fun v st' => v = .tuple [.sl ((tkL s).map encK) none, .agg [.int .i64 (tkE s), .int .i64 (tkP s)]] ∧ st' = st) := tokens_spec s hs st

theorem rtok_spec (s : Str) (hs : s.length ≤ 9223372036854775807) (st : List O) : Duo.Call Tryd.prog gl 10 [.str s] st (fun v st' => v = .tuple [.sl ((tkL s).map encK) none, .int .i64 (tkE s), .int .i64 (tkP s)] ∧ st' = st) := rtokens_spec s hs st

set_option maxRecDepth 100000 in
set_option maxHeartbeats 8000000 in
theorem lawTokens_spec (s : Str) (hs : s.length ≤ 9223372036854775807) (st : List O) : Duo.Call Tryd.prog Tryd.gl 3 [.str s] st (fun v st' => v = .bool true ∧ st' = st) := by
  refine Duo.Call.clo fun hst => ?_
  have htl := tkL_len s
  refine Duo.Call.body 62 [(0, .str s)] Tryd.func3 rfl rfl ?_
  repeat' first
    | refine AW.seqK fun K hK => ?_
    | (refine hK _ _ ?_; clear hK K)
    | refine AW.region ?_
    | refine awL_call rfl (by first | exact ent8 | exact ent9 | exact ent10 | exact ent12 | exact ent11 | exact ent13 | exact ent14 | exact ent15 | exact ent16) (by simp only [go_sem, ↓reduceIte, Nat.reduceEqDiff, Nat.reduceAdd, Nat.reduceLeDiff, Nat.reduceMul, Nat.reduceSub, Nat.reduceLT, eq_self]; rfl) (by first | exact awake_spec _ | exact tok_spec s hs _ | exact rtok_spec s hs _ | exact back_spec (tkL s) (by omega) _ | exact same_spec _ _ _ (by omega) _ | exact keyword_spec s _ | exact refkw_spec s _ | exact name_spec s hs _ | exact refname_spec s hs _) rfl ?_
    | refine awL_nil ?_
    | (refine awL_gno rfl ?_ rfl ?_; focus (simp only [S0, ↓reduceIte, Nat.reduceEqDiff, Bool.not_true, Bool.not_false]; done))
    | (refine awL_gyes rfl ?_ ?_; focus (simp only [S0, ↓reduceIte, Nat.reduceEqDiff, Bool.not_true, Bool.not_false]; done))
    | refine awL_hole rfl rfl rfl rfl ?_
    | (refine awL_gcase rfl rfl (fun hg => ?_) (fun hg => ?_) <;> (rw [hg]; (try simp only [Int.ofNat_inj, not_true_eq_false, not_false_eq_true, Bool.false_eq_true, Bool.true_eq_false, decide_eq_true_eq, decide_eq_false_iff_not, Bool.not_eq_true, Bool.not_eq_false, Bool.not_eq_true', Bool.not_eq_false', Int.not_lt, Int.not_le, ne_eq, Decidable.not_not, List.length_map, Bool.and_eq_true, Bool.or_eq_true, Bool.and_eq_false_imp, Int.ofNat_lt, Int.ofNat_le, same_self, eq_self] at hg); try (exfalso; omega)))
    | refine awL_S1 rfl rfl (by simp (disch := omega) only [go_sem, ↓reduceIte, Nat.reduceEqDiff, Nat.reduceAdd, Nat.reduceLeDiff, Nat.reduceMul, Nat.reduceSub, Nat.reduceLT, eq_self]; rfl) ?_
    | (refine AW.condK _ rfl (fun hb => ?_) (fun hb => ?_) <;> (try simp only [Int.ofNat_inj, not_true_eq_false, not_false_eq_true, Bool.false_eq_true, Bool.true_eq_false, decide_eq_true_eq, decide_eq_false_iff_not, Bool.not_eq_true, Bool.not_eq_false, Bool.not_eq_true', Bool.not_eq_false', Int.not_lt, Int.not_le, ne_eq, Decidable.not_not, List.length_map, Bool.and_eq_true, Bool.or_eq_true, Bool.and_eq_false_imp, Int.ofNat_lt, Int.ofNat_le, same_self, eq_self] at hb) <;> try (exfalso; omega))
    | refine AW.skip ?_
    | refine useK (by assumption) ?_
    | (refine AW.ret ?_; show (_ ∨ _) ∧ _; refine ⟨.inr rfl, ?_⟩; show resP _ _ _ [.tmp 2] _; simp (disch := omega) only [go_sem, ↓reduceIte, Nat.reduceEqDiff, Nat.reduceAdd, Nat.reduceLeDiff, Nat.reduceMul, Nat.reduceSub, Nat.reduceLT, eq_self]; refine ⟨_, _, _, Nat.le_refl _, V.le_refl _ _, StLe.refl _, ?_⟩; (try simp (disch := omega) only [go_sem, ↓reduceIte, Nat.reduceEqDiff, Nat.reduceAdd, Nat.reduceLeDiff, Nat.reduceMul, Nat.reduceSub, Nat.reduceLT, eq_self, hst.trim, hst.trim_append]))
  all_goals trace_state
end Tryd
end Go.Proofs
