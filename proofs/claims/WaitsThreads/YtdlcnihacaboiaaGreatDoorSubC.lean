/-
  A part of the proof.
-/
import Derived.Test.YtdlcnihacaboiaaGreatDoorSubLib
import Derived.Test.YtdlcnihacaboiaaGreatDoorGO
import Derived.Test.YtdlcnihacaboiaaGreatDoorDS3
import Derived.Test.YtdlcnihacaboiaaGreatDoorDLate3
import Derived.Test.YtdlcnihacaboiaaGreatDoorGP
import Derived.Test.YtdlcnihacaboiaaGreatDoorSubB
import Derived.Test.YtdlcnihacaboiaaGreatDoorSubAwake
set_option linter.all false
namespace Go.Proofs
open Go Go.Duo
namespace Tryz
attribute [local irreducible] awL awA awT AW
set_option maxRecDepth 100000 in
set_option maxHeartbeats 8000000 in
theorem free_spec (p : Pr) (hz : p.sz ≤ 300) (hd : p.dp ≤ 150) (ha : smA p) (st : List O) : Duo.Call Tryz.prog Tryz.gl 16 [encP p] st (fun v st' => v = .sl ((freeS p).map .str) none ∧ st' = st) := by
  refine Duo.Call.clo fun hst => ?_
  have hul := uses_len p [] ha
  refine Duo.Call.body 29 [(0, encP p)] Tryz.func16 rfl rfl ?_
  repeat' first
    | refine AW.seqK fun K hK => ?_
    | (refine hK _ _ ?_; clear hK K)
    | refine AW.region ?_
    | refine awL_call rfl (by first | exact ent57 | exact ent22) (by simp only [go_sem, ↓reduceIte, Nat.reduceEqDiff, Nat.reduceAdd, Nat.reduceLeDiff, Nat.reduceMul, Nat.reduceSub, Nat.reduceLT, List.length_map, List.length_append]; rfl) (by first | exact Duo.Call.argle (by repeat' (first | exact trivial | exact V.le_refl _ _ | exact V.le_sl _ _ _ | exact V.le_nil _ | refine ⟨?_, ?_⟩)) (uses_spec p [] hz ha (by simp only [List.length_nil]; omega) _) | exact in3t_spec _ _ _ (by omega) _) rfl ?_
    | refine awL_nil ?_
    | refine awL_S1 rfl rfl (by simp (disch := omega) only [go_sem, ↓reduceIte, Nat.reduceEqDiff, Nat.reduceAdd, Nat.reduceLeDiff, Nat.reduceMul, Nat.reduceSub, Nat.reduceLT, List.length_map, List.length_append]; rfl) ?_
    | (refine AW.condK _ rfl (fun hb => ?_) (fun hb => ?_) <;> (try simp only [Int.ofNat_inj, not_true_eq_false, not_false_eq_true, Bool.false_eq_true, Bool.true_eq_false, decide_eq_true_eq, decide_eq_false_iff_not, Bool.not_eq_true, Bool.not_eq_false, Bool.not_eq_true', Bool.not_eq_false', Int.not_lt, Int.not_le, ne_eq, Decidable.not_not, List.length_map, Bool.and_eq_true, Bool.or_eq_true, Bool.and_eq_false_imp, Int.ofNat_lt, Int.ofNat_le] at hb) <;> try (exfalso; omega))
    | refine AW.block ?_
    | refine bq_s ?_
    | refine bq_o rfl ?_
    | refine tq_e ?_
    | refine AW.exit ?_
    | refine AW.skip ?_
    | refine useK (by assumption) ?_
    | (refine AW.tok 9 1 ?_; rw [List.append_assoc]; simp only [List.cons_append, List.nil_append]; refine AW.loopS (α := { i : Nat // i ≤ (usesP p []).length }) 29 (fun i => [(3, .sl ((usesP p []).map .str) none), (4, .sl ((dedS ((usesP p []).take i.1)).map .str) (some (st.length + 1))), (5, .int .i64 (i.1 : Nat))]) (fun i => st ++ [.box 29 (encP p).cells, .tok 9 1 (dedS ((usesP p []).take i.1)).length]) (fun i => (usesP p []).length - i.1) ⟨0, Nat.zero_le _⟩ rfl ?_ ?_ ?_; (focus (simp (disch := omega) only [go_sem, ↓reduceIte, Nat.reduceEqDiff, Nat.reduceAdd, Nat.reduceLeDiff, Nat.reduceMul, Nat.reduceSub, Nat.reduceLT, dedS, List.foldl_nil, List.take_zero, List.map_nil, List.length_nil]; done)); (focus (simp (disch := omega) only [go_sem, ↓reduceIte, Nat.reduceEqDiff, Nat.reduceAdd, Nat.reduceLeDiff, Nat.reduceMul, Nat.reduceSub, Nat.reduceLT, dedS, List.foldl_nil, List.take_zero, List.map_nil, List.length_nil]; done)); rintro ⟨i, hi⟩ hlc; dsimp only; have hdl := dedS_len ((usesP p []).take i); have hdl2 : ((usesP p []).take i).length ≤ 600000300 := (by rw [List.length_take]; omega))
    | (have hp := dedS_no (l := (usesP p [])) (by assumption) (by assumption); refine ⟨⟨i + 1, by omega⟩, by simp only []; omega, _, Nat.le_refl _, Nat.le_of_ble_eq_true rfl, ?_, ?_⟩ <;> (simp (disch := omega) only [go_sem, ↓reduceIte, Nat.reduceEqDiff, Nat.reduceAdd, Nat.reduceLeDiff, Nat.reduceMul, Nat.reduceSub, Nat.reduceLT, List.map_append, List.map_cons, List.map_nil, List.length_append, List.length_cons, List.length_nil, List.length_map, hp, List.length_append, hlc.trim, hlc.trim_append, trimS_app hst]; done))
    | (have hp := dedS_yes (l := (usesP p [])) (by assumption) (by assumption); refine ⟨⟨i + 1, by omega⟩, by simp only []; omega, _, Nat.le_refl _, Nat.le_of_ble_eq_true rfl, ?_, ?_⟩ <;> (simp (disch := omega) only [go_sem, ↓reduceIte, Nat.reduceEqDiff, Nat.reduceAdd, Nat.reduceLeDiff, Nat.reduceMul, Nat.reduceSub, Nat.reduceLT, List.map_append, List.map_cons, List.map_nil, List.length_append, List.length_cons, List.length_nil, List.length_map, hp, List.length_append, hlc.trim, hlc.trim_append, trimS_app hst]))
    | (refine AW.ret ?_; show (_ ∨ _) ∧ _; refine ⟨.inr rfl, ?_⟩; show resP _ _ _ [.tmp 2] _; simp (disch := omega) only [go_sem, ↓reduceIte, Nat.reduceEqDiff, Nat.reduceAdd, Nat.reduceLeDiff, Nat.reduceMul, Nat.reduceSub, Nat.reduceLT, List.length_map, List.length_append]; refine ⟨_, _, _, Nat.le_refl _, V.le_refl _ _, StLe.refl _, ?_⟩; (try simp (disch := omega) only [go_sem, ↓reduceIte, Nat.reduceEqDiff, Nat.reduceAdd, Nat.reduceLeDiff, Nat.reduceMul, Nat.reduceSub, Nat.reduceLT, List.length_map, List.length_append, hst.trim, hst.trim_append]))
  (unfold freeS; rw [show (usesP p []).take i = (usesP p []) from List.take_of_length_le (by omega)])
end Tryz
end Go.Proofs
