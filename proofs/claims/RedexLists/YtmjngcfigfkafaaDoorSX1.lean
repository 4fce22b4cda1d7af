/-
  Walks of law 18.
-/
import Derived.Test.YtmjngcfigfkafaaDoorSLib
import Derived.Test.YtmjngcfigfkafaaDoorSFacts
import Derived.Test.YtmjngcfigfkafaaDoorDAwake
import Derived.Test.YtmjngcfigfkafaaDoorDApart
import Derived.Test.YtmjngcfigfkafaaDoorDBund
import Derived.Test.YtmjngcfigfkafaaDoorDS
import Derived.Test.YtmjngcfigfkafaaDoorSW9
import Derived.Test.YtmjngcfigfkafaaDoorSW5
set_option linter.all false
namespace Go.Proofs
open Go Go.Duo
namespace Tryd
attribute [local go_sem] PB
attribute [local irreducible] awL awA AW
set_option maxRecDepth 100000 in
set_option maxHeartbeats 8000000 in
theorem lists_spec (l : List Th) (st : List O) : Duo.Call Tryd.prog Tryd.gl 4 [.sl (l.map encTh) none] st (fun v st' => v = .bool true ∧ st' = st) := by
  refine Duo.Call.clo fun hst => ?_
  refine Duo.Call.real fun hr => ?_
  refine Duo.Call.body 36 [(0, .sl (l.map encTh) none)] Tryd.func4 rfl rfl ?_
  repeat' first
    | refine AW.seqK fun K hK => ?_
    | (refine hK _ _ ?_; clear hK K)
    | refine AW.region ?_
    | refine awL_call rfl (by first | exact ent16 | exact ent17 | exact ent19 | exact ent20 | exact ent18 | exact ent22 | exact ent23 | exact ent21 | exact ent25 | exact ent26 | exact ent24) (by simp only [go_sem, ↓reduceIte, Nat.reduceEqDiff, Nat.reduceAdd, Nat.reduceLeDiff, Nat.reduceMul, Nat.reduceSub, Nat.reduceLT]; rfl) (by first | exact awake_spec _ | exact threads_spec _ (by omega) _ | exact plist_spec (l.map threadL) .nil rowOK.nil (by simp only [List.length_map]; omega) (hasT l) (chanT l) _ | exact rlist_spec (l.map threadL) (by simp only [List.length_map]; omega) (hasT l) _ | exact pclash_spec (l.map threadL) .nil rowOK.nil (by simp only [List.length_map]; omega) (hasT l) (chanT l) _ | exact rclash_spec (l.map threadL) (by simp only [List.length_map]; omega) (hasT l) _ | exact pwait_spec (l.map threadL) .nil rowOK.nil (by simp only [List.length_map]; omega) (hasT l) (chanT l) _ | exact rwait_spec (l.map threadL) (by simp only [List.length_map]; omega) (hasT l) _ | exact same_spec _ _ _ | exact pairs_spec _ _ _ | exact numbers_spec _ _ _) rfl ?_
    | refine awL_nil ?_
    | (refine awL_gno rfl ?_ rfl ?_; focus (simp only [S0, ↓reduceIte, Nat.reduceEqDiff, Bool.not_true, Bool.not_false]; done))
    | (refine awL_gyes rfl ?_ ?_; focus (simp only [S0, ↓reduceIte, Nat.reduceEqDiff, Bool.not_true, Bool.not_false]; done))
    | refine awL_hole rfl rfl rfl rfl ?_
    | (refine awL_gcase rfl rfl (fun hg => ?_) (fun hg => ?_) <;> (rw [hg]; (try simp only [Bool.false_eq_true, Bool.true_eq_false, decide_eq_true_eq, decide_eq_false_iff_not, Bool.not_eq_true, Bool.not_eq_false, Bool.not_eq_true', Bool.not_eq_false', Int.not_lt, Int.not_le, ne_eq, Decidable.not_not, List.length_map, Bool.and_eq_true, Bool.or_eq_true, Bool.and_eq_false_imp, Int.ofNat_lt, Int.ofNat_le] at hg); try (exfalso; omega)))
    | refine awL_S1 rfl rfl (by simp (disch := omega) only [go_sem, ↓reduceIte, Nat.reduceEqDiff, Nat.reduceAdd, Nat.reduceLeDiff, Nat.reduceMul, Nat.reduceSub, Nat.reduceLT]; rfl) ?_
    | (refine AW.condK _ rfl (fun hb => ?_) (fun hb => ?_) <;> (try simp only [Bool.false_eq_true, Bool.true_eq_false, decide_eq_true_eq, decide_eq_false_iff_not, Bool.not_eq_true, Bool.not_eq_false, Bool.not_eq_true', Bool.not_eq_false', Int.not_lt, Int.not_le, ne_eq, Decidable.not_not, List.length_map, Bool.and_eq_true, Bool.or_eq_true, Bool.and_eq_false_imp, Int.ofNat_lt, Int.ofNat_le] at hb) <;> try (exfalso; omega))
    | refine AW.skip ?_
    | refine useK (by assumption) ?_
    | (refine AW.ret ?_; show (_ ∨ _) ∧ _; refine ⟨.inr rfl, ?_⟩; show resP _ _ _ [.tmp 2] _; simp (disch := omega) only [go_sem, ↓reduceIte, Nat.reduceEqDiff, Nat.reduceAdd, Nat.reduceLeDiff, Nat.reduceMul, Nat.reduceSub, Nat.reduceLT]; refine ⟨_, _, _, Nat.le_refl _, V.le_refl _ _, StLe.refl _, ?_⟩; simp (disch := omega) only [go_sem, ↓reduceIte, Nat.reduceEqDiff, Nat.reduceAdd, Nat.reduceLeDiff, Nat.reduceMul, Nat.reduceSub, Nat.reduceLT, hst.trim, hst.trim_append])
end Tryd
end Go.Proofs
