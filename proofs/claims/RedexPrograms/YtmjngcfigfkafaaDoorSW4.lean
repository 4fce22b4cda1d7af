/-
  A part of the proof.
-/
import Derived.Test.YtmjngcfigfkafaaDoorLib
import Derived.Test.YtmjngcfigfkafaaDoorSFacts
import Derived.Test.YtmjngcfigfkafaaDoorData
import Derived.Test.YtmjngcfigfkafaaDoorDKit
import Derived.Test.YtmjngcfigfkafaaDoorSW3
set_option linter.all false
namespace Go.Proofs
open Go Go.Duo
namespace Tryd
set_option maxHeartbeats 8000000 in
theorem dual_spec (s : Str) (st : List O) : Duo.Call Tryd.prog Tryd.gl 73 [.str s] st (fun v st' => v = dualV s ∧ st' = st) := by
  refine Duo.Call.clo fun hst => ?_
  refine Duo.Call.real fun hr => ?_
  have he : epV s = .tuple [.int .i64 (epK s), .bool (epP s), .bool (epO s)] := epV_eq s
  refine Duo.Call.body 19 [(0, .str s)] Tryd.func73 rfl rfl ?_
  refine AW.seqK fun K1 hK1 => ?_
  refine AW.region ?_
  refine awL_k rfl rfl fun K2 h2 => ?_
  simp (disch := omega) only [S0, step1]
  refine h2 _ _ ?_
  clear h2 K2
  refine awL_k rfl rfl fun K3 h3 => ?_
  simp (disch := omega) only [S0, step1]
  refine h3 _ _ ?_
  clear h3 K3
  refine hK1 _ _ ?_
  clear hK1 K1
  refine AW.seqK fun K4 hK4 => ?_
  refine AW.region ?_
  refine awL_k rfl rfl fun K5 h5 => ?_
  simp (disch := omega) only [S0, step1, reduceIte, Nat.reduceEqDiff]
  refine h5 _ _ ?_
  clear h5 K5
  refine awL_k rfl rfl fun K6 h6 => ?_
  show ent _ _ = true ∧ _
  simp only [S0, reduceIte, Nat.reduceEqDiff, List.map, List.nil_append, List.append_nil]
  refine ⟨Tryd.ent48, Duo.Call.mono (rendpoint_spec _ _) ?_⟩
  rintro _ _ ⟨rfl, hcs⟩
  obtain rfl := hcs.symm
  refine h6 _ _ ?_
  clear h6 K6
  refine awL_k rfl rfl fun K7 h7 => ?_
  simp (disch := omega) only [S0, step1, reduceIte, Nat.reduceEqDiff]
  refine h7 _ _ ?_
  clear h7 K7
  refine awL_k rfl rfl fun K8 h8 => ?_
  simp (disch := omega) only [S0, step1, reduceIte, Nat.reduceEqDiff, List.getD_cons_zero, epV_eq]
  (((repeat' refine And.intro ?_ ?_); all_goals first | refine h8 _ _ ?_ | exact Nat.le_of_ble_eq_true rfl))
  clear h8 K8
  refine awL_k rfl rfl fun K9 h9 => ?_
  simp (disch := omega) only [S0, step1, reduceIte, Nat.reduceEqDiff, List.getD_cons_zero, List.getD_cons_succ, epV_eq]
  (((repeat' refine And.intro ?_ ?_); all_goals first | refine h9 _ _ ?_ | exact Nat.le_of_ble_eq_true rfl))
  clear h9 K9
  refine awL_k rfl rfl fun K10 h10 => ?_
  simp (disch := omega) only [S0, step1, reduceIte, Nat.reduceEqDiff, List.getD_cons_zero, List.getD_cons_succ, epV_eq]
  (((repeat' refine And.intro ?_ ?_); all_goals first | refine h10 _ _ ?_ | exact Nat.le_of_ble_eq_true rfl))
  clear h10 K10
  refine awL_k rfl rfl fun K11 h11 => ?_
  simp (disch := omega) only [S0, step1, reduceIte, Nat.reduceEqDiff]
  refine h11 _ _ ?_
  clear h11 K11
  refine awL_k rfl rfl fun K12 h12 => ?_
  simp (disch := omega) only [S0, step1, reduceIte, Nat.reduceEqDiff]
  refine h12 _ _ ?_
  clear h12 K12
  refine awL_k rfl rfl fun K13 h13 => ?_
  simp (disch := omega) only [S0, step1, reduceIte, Nat.reduceEqDiff]
  refine h13 _ _ ?_
  clear h13 K13
  refine hK4 _ _ ?_
  clear hK4 K4
  refine AW.seqK fun K14 hK14 => ?_
  refine AW.seqK fun K15 hK15 => ?_
  refine AW.region ?_
  refine awL_k rfl rfl fun K16 h16 => ?_
  simp (disch := omega) only [S0, step1, reduceIte, Nat.reduceEqDiff]
  refine h16 _ _ ?_
  clear h16 K16
  refine awL_k rfl rfl fun K17 h17 => ?_
  simp (disch := omega) only [S0, step1, reduceIte, Nat.reduceEqDiff, unP, epV_eq]
  refine h17 _ _ ?_
  clear h17 K17
  refine hK15 _ _ ?_
  clear hK15 K15
  refine AW.condK _ rfl (fun hb18 => ?_) (fun hb18 => ?_)
  · skip
    simp only [Bool.not_eq_true'] at hb18
    refine AW.seqK fun K19 hK19 => ?_
    refine AW.region ?_
    refine awL_k rfl rfl fun K20 h20 => ?_
    simp (disch := omega) only [S0, step1]
    refine h20 _ _ ?_
    clear h20 K20
    refine awL_k rfl rfl fun K21 h21 => ?_
    simp (disch := omega) only [S0, step1]
    refine h21 _ _ ?_
    clear h21 K21
    refine hK19 _ _ ?_
    clear hK19 K19
    refine AW.ret ?_
    show (_ ∨ _) ∧ _
    refine ⟨.inr rfl, ?_⟩
    show resP _ _ _ [.tmp 2, .tmp 3] _
    simp only [resP, resV, V.trim, V.trim.trimL, S0, reduceIte, Nat.reduceEqDiff]
    refine ⟨_, _, _, Nat.le_refl _, V.le_refl _ _, StLe.refl _, ?_⟩
    exact ⟨by rw [dualV_no (by assumption)], hst.trim⟩
  · skip
    simp only [Bool.not_eq_false'] at hb18
    have hb := epK_lt s
    refine AW.skip ?_
    refine hK14 _ _ ?_
    clear hK14 K14
    refine AW.seqK fun K22 hK22 => ?_
    refine AW.region ?_
    refine awL_k rfl rfl fun K23 h23 => ?_
    simp (disch := omega) only [S0, step1, reduceIte, Nat.reduceEqDiff]
    refine h23 _ _ ?_
    clear h23 K23
    refine awL_k rfl rfl fun K24 h24 => ?_
    simp (disch := omega) only [S0, step1, reduceIte, Nat.reduceEqDiff]
    refine h24 _ _ ?_
    clear h24 K24
    refine awL_k rfl rfl fun K25 h25 => ?_
    simp (disch := omega) only [S0, step1, reduceIte, Nat.reduceEqDiff, unP, epV_eq]
    refine h25 _ _ ?_
    clear h25 K25
    refine awL_k rfl rfl fun K26 h26 => ?_
    show ent _ _ = true ∧ _
    simp only [S0, reduceIte, Nat.reduceEqDiff, epV_eq, List.map, List.nil_append, List.append_nil]
    refine ⟨Tryd.ent43, Duo.Call.mono (rname_spec _ _ (by omega) (by omega) _) ?_⟩
    rintro _ _ ⟨rfl, hcs⟩
    obtain rfl := hcs.symm
    refine h26 _ _ ?_
    clear h26 K26
    refine awL_k rfl rfl fun K27 h27 => ?_
    simp (disch := omega) only [S0, step1, reduceIte, Nat.reduceEqDiff]
    refine h27 _ _ ?_
    clear h27 K27
    refine awL_k rfl rfl fun K28 h28 => ?_
    simp (disch := omega) only [S0, step1]
    refine h28 _ _ ?_
    clear h28 K28
    refine hK22 _ _ ?_
    clear hK22 K22
    refine AW.ret ?_
    show (_ ∨ _) ∧ _
    refine ⟨.inr rfl, ?_⟩
    show resP _ _ _ [.tmp 2, .tmp 3] _
    simp only [resP, resV, V.trim, V.trim.trimL, S0, reduceIte, Nat.reduceEqDiff]
    refine ⟨_, _, _, Nat.le_refl _, V.le_refl _ _, StLe.refl _, ?_⟩
    exact ⟨by rw [dualV_yes (by assumption)], hst.trim⟩
set_option maxHeartbeats 8000000 in
theorem meet_spec (a b : Pr) (st : List O) : Duo.Call Tryd.prog Tryd.gl 46 [encP a, encP b] st (fun v st' => v = .bool (meetL a b) ∧ st' = st) := by
  refine Duo.Call.clo fun hst => ?_
  refine Duo.Call.real fun hr => ?_
  obtain ⟨kind, chan, var, labels, args, t, kids⟩ := a
  obtain ⟨kind2, chan2, var2, labels2, args2, t2, kids2⟩ := b
  rw [encP_mk, encP_mk]
  refine Duo.Call.body 20 [(0, .agg (.int .i64 kind :: .str chan :: .str var :: .sl (labels.map .str) none :: .sl (args.map encV) none :: ((encT t).cells ++ [.sl (kids.map encP) none]))), (1, .agg (.int .i64 kind2 :: .str chan2 :: .str var2 :: .sl (labels2.map .str) none :: .sl (args2.map encV) none :: ((encT t2).cells ++ [.sl (kids2.map encP) none])))] Tryd.func46 rfl rfl ?_
  refine AW.seqK fun K1 hK1 => ?_
  refine AW.region ?_
  refine awL_k rfl rfl fun K2 h2 => ?_
  simp (disch := omega) only [S0, step1, reduceIte, Nat.reduceEqDiff, S3, V.one, S1, PB]
  refine h2 _ _ ?_
  clear h2 K2
  refine awL_k rfl rfl fun K3 h3 => ?_
  simp (disch := omega) only [S0, step1, reduceIte, Nat.reduceEqDiff, S3, V.one, S1, S2, PB]
  refine h3 _ _ ?_
  clear h3 K3
  refine awL_k rfl rfl fun K4 h4 => ?_
  simp (disch := omega) only [S0, step1]
  refine h4 _ _ ?_
  clear h4 K4
  refine hK1 _ _ ?_
  clear hK1 K1
  refine AW.seqK fun K5 hK5 => ?_
  refine AW.region ?_
  refine awL_k rfl rfl fun K6 h6 => ?_
  simp (disch := omega) only [S0, step1, reduceIte, Nat.reduceEqDiff, faP, Tryd.fld29_1, Nat.lt_add_one, S1]
  refine h6 _ _ ?_
  clear h6 K6
  refine awL_k rfl rfl fun K7 h7 => ?_
  simp (disch := omega) only [S0, step1, reduceIte, Nat.reduceEqDiff, loadP, Tryd.lay9, pack, S1, Nat.reduceAdd, Nat.reduceLeDiff, S2, PB]
  refine h7 _ _ ?_
  clear h7 K7
  refine awL_k rfl rfl fun K8 h8 => ?_
  show ent _ _ = true ∧ _
  simp only [S0, reduceIte, Nat.reduceEqDiff, List.map, List.nil_append, List.append_nil]
  refine ⟨Tryd.ent73, Duo.Call.mono (dual_spec _ _) ?_⟩
  rintro _ _ ⟨rfl, hcs⟩
  obtain rfl := hcs.symm
  refine h8 _ _ ?_
  clear h8 K8
  refine awL_k rfl rfl fun K9 h9 => ?_
  simp (disch := omega) only [S0, step1, reduceIte, Nat.reduceEqDiff]
  refine h9 _ _ ?_
  clear h9 K9
  refine awL_k rfl rfl fun K10 h10 => ?_
  simp (disch := omega) only [S0, step1, reduceIte, Nat.reduceEqDiff, List.getD_cons_zero, PB]
  (((repeat' refine And.intro ?_ ?_); all_goals first | refine h10 _ _ ?_ | exact Nat.le_of_ble_eq_true rfl))
  clear h10 K10
  refine awL_k rfl rfl fun K11 h11 => ?_
  simp (disch := omega) only [S0, step1, reduceIte, Nat.reduceEqDiff, List.getD_cons_zero, List.getD_cons_succ, PB]
  (((repeat' refine And.intro ?_ ?_); all_goals first | refine h11 _ _ ?_ | exact Nat.le_of_ble_eq_true rfl))
  clear h11 K11
  refine awL_k rfl rfl fun K12 h12 => ?_
  simp (disch := omega) only [S0, step1, reduceIte, Nat.reduceEqDiff]
  refine h12 _ _ ?_
  clear h12 K12
  refine awL_k rfl rfl fun K13 h13 => ?_
  simp (disch := omega) only [S0, step1, reduceIte, Nat.reduceEqDiff]
  refine h13 _ _ ?_
  clear h13 K13
  refine hK5 _ _ ?_
  clear hK5 K5
  refine AW.seqK fun K14 hK14 => ?_
  refine AW.region ?_
  refine awL_k rfl rfl fun K15 h15 => ?_
  simp (disch := omega) only [S0, step1, reduceIte, Nat.reduceEqDiff]
  refine h15 _ _ ?_
  clear h15 K15
  refine awL_k rfl rfl fun K16 h16 => ?_
  simp (disch := omega) only [S0, step1, reduceIte, Nat.reduceEqDiff]
  refine h16 _ _ ?_
  clear h16 K16
  refine awL_case 14 rfl (fun hg17 => ?_) (fun hg17 => ?_)
  · rw [hg17]
    skip
    refine awL_kyes rfl rfl rfl rfl fun K18 h18 => ?_
    simp (disch := omega) only [S0, step1, reduceIte, Nat.reduceEqDiff]
    refine h18 _ _ ?_
    clear h18 K18
    refine awL_kyes rfl rfl rfl rfl fun K19 h19 => ?_
    simp (disch := omega) only [S0, step1, reduceIte, Nat.reduceEqDiff, faP, Tryd.fld29_1, Nat.lt_add_one, S1, PB]
    refine h19 _ _ ?_
    clear h19 K19
    refine awL_kyes rfl rfl rfl rfl fun K20 h20 => ?_
    simp (disch := omega) only [S0, step1, reduceIte, Nat.reduceEqDiff, loadP, Tryd.lay9, pack, S1, Nat.reduceAdd, Nat.reduceLeDiff, S2, PB]
    refine h20 _ _ ?_
    clear h20 K20
    refine awL_kyes rfl rfl rfl rfl fun K21 h21 => ?_
    simp (disch := omega) only [S0, step1, Nat.reduceEqDiff, isNilC, Bool.false_eq_true, binP, strP, if_true, if_false, PB]
    refine h21 _ _ ?_
    clear h21 K21
    refine awL_k rfl rfl fun K22 h22 => ?_
    simp (disch := omega) only [S0, step1, reduceIte, Nat.reduceEqDiff]
    refine h22 _ _ ?_
    clear h22 K22
    refine awL_k rfl rfl fun K23 h23 => ?_
    simp (disch := omega) only [S0, step1, reduceIte, Nat.reduceEqDiff]
    refine h23 _ _ ?_
    clear h23 K23
    refine hK14 _ _ ?_
    clear hK14 K14
    refine AW.ret ?_
    show (_ ∨ _) ∧ _
    refine ⟨.inr rfl, ?_⟩
    show resP _ _ _ [.tmp 4] _
    simp only [resP, resV, V.trim, S0, reduceIte, Nat.reduceEqDiff]
    refine ⟨_, _, _, Nat.le_refl _, V.le_refl _ _, StLe.refl _, ?_⟩
    exact ⟨by simp_all [meetL_eq, Pr.chan] <;> exact decide_eq_decide.mpr Iff.rfl, hst.trim_append _⟩
  · rw [hg17]
    skip
    refine awL_no rfl rfl rfl rfl ?_
    refine awL_no rfl rfl rfl rfl ?_
    refine awL_no rfl rfl rfl rfl ?_
    refine awL_no rfl rfl rfl rfl ?_
    refine awL_k rfl rfl fun K24 h24 => ?_
    simp (disch := omega) only [S0, step1, reduceIte, Nat.reduceEqDiff]
    refine h24 _ _ ?_
    clear h24 K24
    refine awL_k rfl rfl fun K25 h25 => ?_
    simp (disch := omega) only [S0, step1, reduceIte, Nat.reduceEqDiff]
    refine h25 _ _ ?_
    clear h25 K25
    refine hK14 _ _ ?_
    clear hK14 K14
    refine AW.ret ?_
    show (_ ∨ _) ∧ _
    refine ⟨.inr rfl, ?_⟩
    show resP _ _ _ [.tmp 4] _
    simp only [resP, resV, S0, reduceIte, Nat.reduceEqDiff]
    refine ⟨_, _, _, Nat.le_refl _, V.le_refl _ _, StLe.refl _, ?_⟩
    exact ⟨by simp_all [meetL_eq, Pr.chan, V.trim] <;> exact decide_eq_decide.mpr Iff.rfl, hst.trim_append _⟩
set_option maxHeartbeats 8000000 in
theorem fit_spec (a b : Pr) (hL : hasL a) (st : List O) : Duo.Call Tryd.prog Tryd.gl 47 [encP a, encP b] st (fun v st' => v = .bool (fitL a b) ∧ st' = st) := by
  refine Duo.Call.clo fun hst => ?_
  refine Duo.Call.real fun hr => ?_
  obtain ⟨kind, chan, var, labels, args, t, kids⟩ := a
  obtain ⟨kind2, chan2, var2, labels2, args2, t2, kids2⟩ := b
  rw [encP_mk, encP_mk]
  refine Duo.Call.body 32 [(0, .agg (.int .i64 kind :: .str chan :: .str var :: .sl (labels.map .str) none :: .sl (args.map encV) none :: ((encT t).cells ++ [.sl (kids.map encP) none]))), (1, .agg (.int .i64 kind2 :: .str chan2 :: .str var2 :: .sl (labels2.map .str) none :: .sl (args2.map encV) none :: ((encT t2).cells ++ [.sl (kids2.map encP) none])))] Tryd.func47 rfl rfl ?_
  refine AW.seqK fun K1 hK1 => ?_
  refine AW.region ?_
  refine awL_k rfl rfl fun K2 h2 => ?_
  simp (disch := omega) only [S0, step1, reduceIte, Nat.reduceEqDiff, S3, V.one, S1, PB]
  refine h2 _ _ ?_
  clear h2 K2
  refine awL_k rfl rfl fun K3 h3 => ?_
  simp (disch := omega) only [S0, step1, reduceIte, Nat.reduceEqDiff, S3, V.one, S1, S2, PB]
  refine h3 _ _ ?_
  clear h3 K3
  refine awL_k rfl rfl fun K4 h4 => ?_
  simp (disch := omega) only [S0, step1]
  refine h4 _ _ ?_
  clear h4 K4
  refine hK1 _ _ ?_
  clear hK1 K1
  refine AW.seqK fun K5 hK5 => ?_
  refine AW.any Tryd.mix 24 rfl ?_
  refine awA_c rfl rfl rfl fun K6 h6 => ?_
  simp (disch := omega) only [S0, step1, reduceIte, Nat.reduceEqDiff, faP, Tryd.fld29_0, Nat.lt_add_one, S1]
  refine h6 _ _ rfl ?_
  clear h6 K6
  refine awA_c rfl rfl rfl fun K7 h7 => ?_
  simp (disch := omega) only [S0, step1, reduceIte, Nat.reduceEqDiff, loadP, Tryd.lay3, pack, S1, Nat.reduceAdd, Nat.reduceLeDiff, S2, PB]
  refine h7 _ _ rfl ?_
  clear h7 K7
  refine awA_c rfl rfl rfl fun K8 h8 => ?_
  simp (disch := omega) only [S0, step1, Nat.reduceEqDiff, isNilC, Bool.false_eq_true, binP, intP, true_and, if_true, if_false]
  refine h8 _ _ rfl ?_
  clear h8 K8
  refine awA_c rfl rfl rfl fun K9 h9 => ?_
  simp (disch := omega) only [S0, step1, reduceIte, Nat.reduceEqDiff]
  refine h9 _ _ rfl ?_
  clear h9 K9
  refine awA_case 8 rfl (fun hg10 => ?_) (fun hg10 => ?_)
  · rw [hg10]
    simp only [decide_eq_true_eq] at hg10
    refine awA_cyes rfl rfl rfl rfl rfl fun K11 h11 => ?_
    simp (disch := omega) only [S0, step1, reduceIte, Nat.reduceEqDiff, faP, Tryd.fld29_0, Nat.lt_add_one, S1]
    refine h11 _ _ rfl ?_
    clear h11 K11
    refine awA_cyes rfl rfl rfl rfl rfl fun K12 h12 => ?_
    simp (disch := omega) only [S0, step1, reduceIte, Nat.reduceEqDiff, loadP, Tryd.lay3, pack, S1, Nat.reduceAdd, Nat.reduceLeDiff, S2, PB]
    refine h12 _ _ rfl ?_
    clear h12 K12
    refine awA_cyes rfl rfl rfl rfl rfl fun K13 h13 => ?_
    simp (disch := omega) only [S0, step1, Nat.reduceEqDiff, isNilC, Bool.false_eq_true, binP, intP, true_and, if_true, if_false]
    refine h13 _ _ rfl ?_
    clear h13 K13
    refine awA_c rfl rfl rfl fun K14 h14 => ?_
    simp (disch := omega) only [S0, step1, reduceIte, Nat.reduceEqDiff]
    refine h14 _ _ rfl ?_
    clear h14 K14
    refine awA_c rfl rfl rfl fun K15 h15 => ?_
    simp (disch := omega) only [S0, step1, reduceIte, Nat.reduceEqDiff]
    refine h15 _ _ rfl ?_
    clear h15 K15
    refine awA_case 13 rfl (fun hg16 => ?_) (fun hg16 => ?_)
    · rw [hg16]
      simp only [decide_eq_true_eq] at hg16
      refine awA_no rfl rfl rfl rfl ?_
      refine awA_no rfl rfl rfl rfl ?_
      refine awA_no rfl rfl rfl rfl ?_
      refine awA_no rfl rfl rfl rfl ?_
      refine awA_hole rfl rfl rfl rfl ?_
      refine awA_hole rfl rfl rfl rfl ?_
      refine awA_hole rfl rfl rfl rfl ?_
      refine awA_no rfl rfl rfl rfl ?_
      refine awA_no rfl rfl rfl rfl ?_
      refine awA_hole rfl rfl rfl rfl ?_
      refine awA_hole rfl rfl rfl rfl ?_
      refine awA_hole rfl rfl rfl rfl ?_
      refine awA_hole rfl rfl rfl rfl ?_
      refine awA_hole rfl rfl rfl rfl ?_
      refine awA_hole rfl rfl rfl rfl ?_
      show awA _ _ _ [] _ _ _ _
      simp only [awA, applyUps]
      show awL _ _ _ _ _ _ _
      refine awL_hole rfl rfl rfl rfl ?_
      refine awL_no rfl rfl rfl rfl ?_
      refine awL_k rfl rfl fun K17 h17 => ?_
      simp (disch := omega) only [S0, step1, reduceIte, Nat.reduceEqDiff]
      refine h17 _ _ ?_
      clear h17 K17
      refine awL_k rfl rfl fun K18 h18 => ?_
      simp (disch := omega) only [S0, step1, reduceIte, Nat.reduceEqDiff]
      refine h18 _ _ ?_
      clear h18 K18
      refine hK5 _ _ ?_
      clear hK5 K5
      refine AW.ret ?_
      show (_ ∨ _) ∧ _
      refine ⟨.inr rfl, ?_⟩
      show resP _ _ _ [.tmp 4] _
      simp only [resP, resV, V.trim, S0, reduceIte, Nat.reduceEqDiff]
      refine ⟨_, _, _, Nat.le_refl _, V.le_refl _ _, StLe.refl _, ?_⟩
      exact ⟨by simp_all [fitL, Pr.kind, Pr.labels] <;> exact decide_eq_decide.mpr Iff.rfl, hst.trim_append _⟩
    · rw [hg16]
      simp only [decide_eq_false_iff_not] at hg16
      refine awA_cyes rfl rfl rfl rfl rfl fun K19 h19 => ?_
      simp (disch := omega) only [S0, step1, reduceIte, Nat.reduceEqDiff, faP, Tryd.fld29_0, Nat.lt_add_one, S1]
      refine h19 _ _ rfl ?_
      clear h19 K19
      refine awA_cyes rfl rfl rfl rfl rfl fun K20 h20 => ?_
      simp (disch := omega) only [S0, step1, reduceIte, Nat.reduceEqDiff, loadP, Tryd.lay3, pack, S1, Nat.reduceAdd, Nat.reduceLeDiff, S2, PB]
      refine h20 _ _ rfl ?_
      clear h20 K20
      refine awA_cyes rfl rfl rfl rfl rfl fun K21 h21 => ?_
      simp (disch := omega) only [S0, step1, Nat.reduceEqDiff, isNilC, Bool.false_eq_true, binP, intP, true_and, if_true, if_false]
      refine h21 _ _ rfl ?_
      clear h21 K21
      refine awA_cyes rfl rfl rfl rfl rfl fun K22 h22 => ?_
      simp (disch := omega) only [S0, step1, reduceIte, Nat.reduceEqDiff]
      refine h22 _ _ rfl ?_
      clear h22 K22
      refine awA_case 17 rfl (fun hg23 => ?_) (fun hg23 => ?_)
      · rw [hg23]
        simp only [decide_eq_true_eq] at hg23
        refine awA_cyes rfl rfl rfl rfl rfl fun K24 h24 => ?_
        simp (disch := omega) only [S0, step1, reduceIte, Nat.reduceEqDiff, faP, Tryd.fld29_0, Nat.lt_add_one, S1]
        refine h24 _ _ rfl ?_
        clear h24 K24
        refine awA_cyes rfl rfl rfl rfl rfl fun K25 h25 => ?_
        simp (disch := omega) only [S0, step1, reduceIte, Nat.reduceEqDiff, loadP, Tryd.lay3, pack, S1, Nat.reduceAdd, Nat.reduceLeDiff, S2, PB]
        refine h25 _ _ rfl ?_
        clear h25 K25
        refine awA_cyes rfl rfl rfl rfl rfl fun K26 h26 => ?_
        simp (disch := omega) only [S0, step1, Nat.reduceEqDiff, isNilC, Bool.false_eq_true, binP, intP, true_and, if_true, if_false]
        refine h26 _ _ rfl ?_
        clear h26 K26
        refine awA_cyes rfl rfl rfl rfl rfl fun K27 h27 => ?_
        simp (disch := omega) only [S0, step1, reduceIte, Nat.reduceEqDiff]
        refine h27 _ _ rfl ?_
        clear h27 K27
        refine awA_cyes rfl rfl rfl rfl rfl fun K28 h28 => ?_
        simp (disch := omega) only [S0, step1, reduceIte, Nat.reduceEqDiff]
        refine h28 _ _ rfl ?_
        clear h28 K28
        refine awA_case 22 rfl (fun hg29 => ?_) (fun hg29 => ?_)
        · rw [hg29]
          simp only [decide_eq_true_eq] at hg29
          have hne : labels ≠ [] := (show kind = 4 → labels ≠ [] from hL) (by assumption)
          obtain ⟨l0, lt, rfl⟩ : ∃ l0 lt, labels = l0 :: lt := List.exists_cons_of_ne_nil hne
          refine awA_cyes rfl rfl rfl rfl rfl fun K30 h30 => ?_
          simp (disch := omega) only [S0, step1, reduceIte, Nat.reduceEqDiff, faP, Tryd.fld29_3, Nat.lt_add_one, S1]
          refine h30 _ _ rfl ?_
          clear h30 K30
          refine awA_cyes rfl rfl rfl rfl rfl fun K31 h31 => ?_
          simp (disch := omega) only [S0, step1, reduceIte, Nat.reduceEqDiff, loadP, Tryd.lay22, pack, S1, Nat.reduceAdd, Nat.reduceLeDiff, S2, PB]
          refine h31 _ _ rfl ?_
          clear h31 K31
          refine awA_cyes rfl rfl rfl rfl rfl fun K32 h32 => ?_
          simp (disch := omega) only [S0, step1, reduceIte, Nat.reduceEqDiff, iaP, Tryd.elt22, S1, Int.toNat_zero, KB]
          (((repeat' refine And.intro ?_ ?_); all_goals first | refine h32 _ _ rfl ?_ | omega))
          clear h32 K32
          refine awA_cyes rfl rfl rfl rfl rfl fun K33 h33 => ?_
          simp (disch := omega) only [S0, step1, reduceIte, Nat.reduceEqDiff, loadP, Tryd.lay9, pack, S1]
          (((repeat' refine And.intro ?_ ?_); all_goals first | refine h33 _ _ rfl ?_ | omega))
          clear h33 K33
          refine awA_cyes rfl rfl rfl rfl rfl fun K34 h34 => ?_
          simp (disch := omega) only [S0, step1, reduceIte, Nat.reduceEqDiff, faP, Tryd.fld29_3, Nat.lt_add_one, S1]
          refine h34 _ _ rfl ?_
          clear h34 K34
          refine awA_cyes rfl rfl rfl rfl rfl fun K35 h35 => ?_
          simp (disch := omega) only [S0, step1, reduceIte, Nat.reduceEqDiff, loadP, Tryd.lay22, pack, S1, Nat.reduceAdd, Nat.reduceLeDiff, S2, PB]
          refine h35 _ _ rfl ?_
          clear h35 K35
          show awA _ _ _ [] _ _ _ _
          simp only [awA, applyUps]
          show awL _ _ _ _ _ _ _
          refine awL_kyes rfl rfl rfl rfl fun K36 h36 => ?_
          show ent _ _ = true ∧ _
          simp only [S0, reduceIte, Nat.reduceEqDiff, List.map, List.nil_append, List.append_nil]
          refine ⟨Tryd.ent74, Duo.Call.mono (in_spec _ _ _) ?_⟩
          rintro _ _ ⟨rfl, hcs⟩
          obtain rfl := hcs.symm
          refine h36 _ _ ?_
          clear h36 K36
          refine awL_kyes rfl rfl rfl rfl fun K37 h37 => ?_
          simp (disch := omega) only [S0, step1, reduceIte, Nat.reduceEqDiff]
          refine h37 _ _ ?_
          clear h37 K37
          refine awL_k rfl rfl fun K38 h38 => ?_
          simp (disch := omega) only [S0, step1, reduceIte, Nat.reduceEqDiff]
          refine h38 _ _ ?_
          clear h38 K38
          refine awL_k rfl rfl fun K39 h39 => ?_
          simp (disch := omega) only [S0, step1, reduceIte, Nat.reduceEqDiff]
          refine h39 _ _ ?_
          clear h39 K39
          refine hK5 _ _ ?_
          clear hK5 K5
          refine AW.ret ?_
          show (_ ∨ _) ∧ _
          refine ⟨.inr rfl, ?_⟩
          show resP _ _ _ [.tmp 4] _
          simp only [resP, resV, S0, reduceIte, Nat.reduceEqDiff]
          refine ⟨_, _, _, Nat.le_refl _, V.le_refl _ _, StLe.refl _, ?_⟩
          exact ⟨by simp_all [fitL] <;> exact decide_eq_decide.mpr Iff.rfl, hst.trim_append _⟩
        · rw [hg29]
          simp only [decide_eq_false_iff_not] at hg29
          refine awA_no rfl rfl rfl rfl ?_
          refine awA_no rfl rfl rfl rfl ?_
          refine awA_no rfl rfl rfl rfl ?_
          refine awA_no rfl rfl rfl rfl ?_
          refine awA_no rfl rfl rfl rfl ?_
          refine awA_no rfl rfl rfl rfl ?_
          show awA _ _ _ [] _ _ _ _
          simp only [awA, applyUps]
          show awL _ _ _ _ _ _ _
          refine awL_no rfl rfl rfl rfl ?_
          refine awL_kyes rfl rfl rfl rfl fun K40 h40 => ?_
          simp (disch := omega) only [S0, step1, reduceIte, Nat.reduceEqDiff]
          refine h40 _ _ ?_
          clear h40 K40
          refine awL_k rfl rfl fun K41 h41 => ?_
          simp (disch := omega) only [S0, step1, reduceIte, Nat.reduceEqDiff]
          refine h41 _ _ ?_
          clear h41 K41
          refine awL_k rfl rfl fun K42 h42 => ?_
          simp (disch := omega) only [S0, step1, reduceIte, Nat.reduceEqDiff]
          refine h42 _ _ ?_
          clear h42 K42
          refine hK5 _ _ ?_
          clear hK5 K5
          refine AW.ret ?_
          show (_ ∨ _) ∧ _
          refine ⟨.inr rfl, ?_⟩
          show resP _ _ _ [.tmp 4] _
          simp only [resP, resV, S0, reduceIte, Nat.reduceEqDiff]
          refine ⟨_, _, _, Nat.le_refl _, V.le_refl _ _, StLe.refl _, ?_⟩
          exact ⟨by simp_all [fitL] <;> exact decide_eq_decide.mpr Iff.rfl, hst.trim_append _⟩
      · rw [hg23]
        simp only [decide_eq_false_iff_not] at hg23
        refine awA_no rfl rfl rfl rfl ?_
        refine awA_no rfl rfl rfl rfl ?_
        refine awA_no rfl rfl rfl rfl ?_
        refine awA_cyes rfl rfl rfl rfl rfl fun K43 h43 => ?_
        simp (disch := omega) only [S0, step1, reduceIte, Nat.reduceEqDiff]
        refine h43 _ _ rfl ?_
        clear h43 K43
        refine awA_cyes rfl rfl rfl rfl rfl fun K44 h44 => ?_
        simp (disch := omega) only [S0, step1, reduceIte, Nat.reduceEqDiff]
        refine h44 _ _ rfl ?_
        clear h44 K44
        refine awA_no rfl rfl rfl rfl ?_
        refine awA_no rfl rfl rfl rfl ?_
        refine awA_no rfl rfl rfl rfl ?_
        refine awA_no rfl rfl rfl rfl ?_
        refine awA_no rfl rfl rfl rfl ?_
        refine awA_no rfl rfl rfl rfl ?_
        show awA _ _ _ [] _ _ _ _
        simp only [awA, applyUps]
        show awL _ _ _ _ _ _ _
        refine awL_no rfl rfl rfl rfl ?_
        refine awL_kyes rfl rfl rfl rfl fun K45 h45 => ?_
        simp (disch := omega) only [S0, step1, reduceIte, Nat.reduceEqDiff]
        refine h45 _ _ ?_
        clear h45 K45
        refine awL_k rfl rfl fun K46 h46 => ?_
        simp (disch := omega) only [S0, step1, reduceIte, Nat.reduceEqDiff]
        refine h46 _ _ ?_
        clear h46 K46
        refine awL_k rfl rfl fun K47 h47 => ?_
        simp (disch := omega) only [S0, step1, reduceIte, Nat.reduceEqDiff]
        refine h47 _ _ ?_
        clear h47 K47
        refine hK5 _ _ ?_
        clear hK5 K5
        refine AW.ret ?_
        show (_ ∨ _) ∧ _
        refine ⟨.inr rfl, ?_⟩
        show resP _ _ _ [.tmp 4] _
        simp only [resP, resV, S0, reduceIte, Nat.reduceEqDiff]
        refine ⟨_, _, _, Nat.le_refl _, V.le_refl _ _, StLe.refl _, ?_⟩
        exact ⟨by simp_all [fitL, Pr.kind, Pr.labels, V.trim] <;> exact decide_eq_decide.mpr Iff.rfl, hst.trim_append _⟩
  · rw [hg10]
    simp only [decide_eq_false_iff_not] at hg10
    refine awA_no rfl rfl rfl rfl ?_
    refine awA_no rfl rfl rfl rfl ?_
    refine awA_no rfl rfl rfl rfl ?_
    refine awA_c rfl rfl rfl fun K48 h48 => ?_
    simp (disch := omega) only [S0, step1, reduceIte, Nat.reduceEqDiff]
    refine h48 _ _ rfl ?_
    clear h48 K48
    refine awA_c rfl rfl rfl fun K49 h49 => ?_
    simp (disch := omega) only [S0, step1, reduceIte, Nat.reduceEqDiff]
    refine h49 _ _ rfl ?_
    clear h49 K49
    refine awA_cyes rfl rfl rfl rfl rfl fun K50 h50 => ?_
    simp (disch := omega) only [S0, step1, reduceIte, Nat.reduceEqDiff, faP, Tryd.fld29_0, Nat.lt_add_one, S1]
    refine h50 _ _ rfl ?_
    clear h50 K50
    refine awA_cyes rfl rfl rfl rfl rfl fun K51 h51 => ?_
    simp (disch := omega) only [S0, step1, reduceIte, Nat.reduceEqDiff, loadP, Tryd.lay3, pack, S1, Nat.reduceAdd, Nat.reduceLeDiff, S2, PB]
    refine h51 _ _ rfl ?_
    clear h51 K51
    refine awA_cyes rfl rfl rfl rfl rfl fun K52 h52 => ?_
    simp (disch := omega) only [S0, step1, Nat.reduceEqDiff, isNilC, Bool.false_eq_true, binP, intP, true_and, if_true, if_false]
    refine h52 _ _ rfl ?_
    clear h52 K52
    refine awA_cyes rfl rfl rfl rfl rfl fun K53 h53 => ?_
    simp (disch := omega) only [S0, step1, reduceIte, Nat.reduceEqDiff]
    refine h53 _ _ rfl ?_
    clear h53 K53
    refine awA_case 17 rfl (fun hg54 => ?_) (fun hg54 => ?_)
    · rw [hg54]
      simp only [decide_eq_true_eq] at hg54
      refine awA_cyes rfl rfl rfl rfl rfl fun K55 h55 => ?_
      simp (disch := omega) only [S0, step1, reduceIte, Nat.reduceEqDiff, faP, Tryd.fld29_0, Nat.lt_add_one, S1]
      refine h55 _ _ rfl ?_
      clear h55 K55
      refine awA_cyes rfl rfl rfl rfl rfl fun K56 h56 => ?_
      simp (disch := omega) only [S0, step1, reduceIte, Nat.reduceEqDiff, loadP, Tryd.lay3, pack, S1, Nat.reduceAdd, Nat.reduceLeDiff, S2, PB]
      refine h56 _ _ rfl ?_
      clear h56 K56
      refine awA_cyes rfl rfl rfl rfl rfl fun K57 h57 => ?_
      simp (disch := omega) only [S0, step1, Nat.reduceEqDiff, isNilC, Bool.false_eq_true, binP, intP, true_and, if_true, if_false]
      refine h57 _ _ rfl ?_
      clear h57 K57
      refine awA_cyes rfl rfl rfl rfl rfl fun K58 h58 => ?_
      simp (disch := omega) only [S0, step1, reduceIte, Nat.reduceEqDiff]
      refine h58 _ _ rfl ?_
      clear h58 K58
      refine awA_cyes rfl rfl rfl rfl rfl fun K59 h59 => ?_
      simp (disch := omega) only [S0, step1, reduceIte, Nat.reduceEqDiff]
      refine h59 _ _ rfl ?_
      clear h59 K59
      refine awA_case 22 rfl (fun hg60 => ?_) (fun hg60 => ?_)
      · rw [hg60]
        simp only [decide_eq_true_eq] at hg60
        have hne : labels ≠ [] := (show kind = 4 → labels ≠ [] from hL) (by assumption)
        obtain ⟨l0, lt, rfl⟩ : ∃ l0 lt, labels = l0 :: lt := List.exists_cons_of_ne_nil hne
        refine awA_cyes rfl rfl rfl rfl rfl fun K61 h61 => ?_
        simp (disch := omega) only [S0, step1, reduceIte, Nat.reduceEqDiff, faP, Tryd.fld29_3, Nat.lt_add_one, S1]
        refine h61 _ _ rfl ?_
        clear h61 K61
        refine awA_cyes rfl rfl rfl rfl rfl fun K62 h62 => ?_
        simp (disch := omega) only [S0, step1, reduceIte, Nat.reduceEqDiff, loadP, Tryd.lay22, pack, S1, Nat.reduceAdd, Nat.reduceLeDiff, S2, PB]
        refine h62 _ _ rfl ?_
        clear h62 K62
        refine awA_cyes rfl rfl rfl rfl rfl fun K63 h63 => ?_
        simp (disch := omega) only [S0, step1, reduceIte, Nat.reduceEqDiff, iaP, Tryd.elt22, S3, S1, List.getD_cons_zero, Int.toNat_zero]
        (((repeat' refine And.intro ?_ ?_); all_goals first | refine h63 _ _ rfl ?_ | omega))
        clear h63 K63
        refine awA_cyes rfl rfl rfl rfl rfl fun K64 h64 => ?_
        simp (disch := omega) only [S0, step1, reduceIte, Nat.reduceEqDiff, loadP, Tryd.lay9, pack, S1]
        refine h64 _ _ rfl ?_
        clear h64 K64
        refine awA_cyes rfl rfl rfl rfl rfl fun K65 h65 => ?_
        simp (disch := omega) only [S0, step1, reduceIte, Nat.reduceEqDiff, faP, Tryd.fld29_3, Nat.lt_add_one, S1]
        refine h65 _ _ rfl ?_
        clear h65 K65
        refine awA_cyes rfl rfl rfl rfl rfl fun K66 h66 => ?_
        simp (disch := omega) only [S0, step1, reduceIte, Nat.reduceEqDiff, loadP, Tryd.lay22, pack, S1, Nat.reduceAdd, Nat.reduceLeDiff, S2, PB]
        refine h66 _ _ rfl ?_
        clear h66 K66
        show awA _ _ _ [] _ _ _ _
        simp only [awA, applyUps]
        show awL _ _ _ _ _ _ _
        refine awL_kyes rfl rfl rfl rfl fun K67 h67 => ?_
        show ent _ _ = true ∧ _
        simp only [S0, reduceIte, Nat.reduceEqDiff, List.map, List.nil_append, List.append_nil]
        refine ⟨Tryd.ent74, Duo.Call.mono (in_spec _ _ _) ?_⟩
        rintro _ _ ⟨rfl, hcs⟩
        obtain rfl := hcs.symm
        refine h67 _ _ ?_
        clear h67 K67
        refine awL_kyes rfl rfl rfl rfl fun K68 h68 => ?_
        simp (disch := omega) only [S0, step1, reduceIte, Nat.reduceEqDiff]
        refine h68 _ _ ?_
        clear h68 K68
        refine awL_k rfl rfl fun K69 h69 => ?_
        simp (disch := omega) only [S0, step1, reduceIte, Nat.reduceEqDiff]
        refine h69 _ _ ?_
        clear h69 K69
        refine awL_k rfl rfl fun K70 h70 => ?_
        simp (disch := omega) only [S0, step1, reduceIte, Nat.reduceEqDiff]
        refine h70 _ _ ?_
        clear h70 K70
        refine hK5 _ _ ?_
        clear hK5 K5
        refine AW.ret ?_
        show (_ ∨ _) ∧ _
        refine ⟨.inr rfl, ?_⟩
        show resP _ _ _ [.tmp 4] _
        simp only [resP, resV, S0, reduceIte, Nat.reduceEqDiff]
        refine ⟨_, _, _, Nat.le_refl _, V.le_refl _ _, StLe.refl _, ?_⟩
        exact ⟨by simp_all [fitL, Pr.kind, Pr.labels, V.trim] <;> exact decide_eq_decide.mpr Iff.rfl, hst.trim_append _⟩
      · rw [hg60]
        simp only [decide_eq_false_iff_not] at hg60
        refine awA_no rfl rfl rfl rfl ?_
        refine awA_no rfl rfl rfl rfl ?_
        refine awA_no rfl rfl rfl rfl ?_
        refine awA_no rfl rfl rfl rfl ?_
        refine awA_no rfl rfl rfl rfl ?_
        refine awA_no rfl rfl rfl rfl ?_
        show awA _ _ _ [] _ _ _ _
        simp only [awA, applyUps]
        show awL _ _ _ _ _ _ _
        refine awL_no rfl rfl rfl rfl ?_
        refine awL_kyes rfl rfl rfl rfl fun K71 h71 => ?_
        simp (disch := omega) only [S0, step1, reduceIte, Nat.reduceEqDiff]
        refine h71 _ _ ?_
        clear h71 K71
        refine awL_k rfl rfl fun K72 h72 => ?_
        simp (disch := omega) only [S0, step1, reduceIte, Nat.reduceEqDiff]
        refine h72 _ _ ?_
        clear h72 K72
        refine awL_k rfl rfl fun K73 h73 => ?_
        simp (disch := omega) only [S0, step1, reduceIte, Nat.reduceEqDiff]
        refine h73 _ _ ?_
        clear h73 K73
        refine hK5 _ _ ?_
        clear hK5 K5
        refine AW.ret ?_
        show (_ ∨ _) ∧ _
        refine ⟨.inr rfl, ?_⟩
        show resP _ _ _ [.tmp 4] _
        simp only [resP, resV, S0, reduceIte, Nat.reduceEqDiff]
        refine ⟨_, _, _, Nat.le_refl _, V.le_refl _ _, StLe.refl _, ?_⟩
        exact ⟨by simp_all [fitL, Pr.kind, Pr.labels, V.trim] <;> exact decide_eq_decide.mpr Iff.rfl, hst.trim_append _⟩
    · rw [hg54]
      simp only [decide_eq_false_iff_not] at hg54
      refine awA_no rfl rfl rfl rfl ?_
      refine awA_no rfl rfl rfl rfl ?_
      refine awA_no rfl rfl rfl rfl ?_
      refine awA_cyes rfl rfl rfl rfl rfl fun K74 h74 => ?_
      simp (disch := omega) only [S0, step1, reduceIte, Nat.reduceEqDiff]
      refine h74 _ _ rfl ?_
      clear h74 K74
      refine awA_cyes rfl rfl rfl rfl rfl fun K75 h75 => ?_
      simp (disch := omega) only [S0, step1, reduceIte, Nat.reduceEqDiff]
      refine h75 _ _ rfl ?_
      clear h75 K75
      refine awA_no rfl rfl rfl rfl ?_
      refine awA_no rfl rfl rfl rfl ?_
      refine awA_no rfl rfl rfl rfl ?_
      refine awA_no rfl rfl rfl rfl ?_
      refine awA_no rfl rfl rfl rfl ?_
      refine awA_no rfl rfl rfl rfl ?_
      show awA _ _ _ [] _ _ _ _
      simp only [awA, applyUps]
      show awL _ _ _ _ _ _ _
      refine awL_no rfl rfl rfl rfl ?_
      refine awL_kyes rfl rfl rfl rfl fun K76 h76 => ?_
      simp (disch := omega) only [S0, step1, reduceIte, Nat.reduceEqDiff]
      refine h76 _ _ ?_
      clear h76 K76
      refine awL_k rfl rfl fun K77 h77 => ?_
      simp (disch := omega) only [S0, step1, reduceIte, Nat.reduceEqDiff]
      refine h77 _ _ ?_
      clear h77 K77
      refine awL_k rfl rfl fun K78 h78 => ?_
      simp (disch := omega) only [S0, step1, reduceIte, Nat.reduceEqDiff]
      refine h78 _ _ ?_
      clear h78 K78
      refine hK5 _ _ ?_
      clear hK5 K5
      refine AW.ret ?_
      show (_ ∨ _) ∧ _
      refine ⟨.inr rfl, ?_⟩
      show resP _ _ _ [.tmp 4] _
      simp only [resP, resV, S0, reduceIte, Nat.reduceEqDiff]
      refine ⟨_, _, _, Nat.le_refl _, V.le_refl _ _, StLe.refl _, ?_⟩
      exact ⟨by simp_all [fitL, Pr.kind, Pr.labels, V.trim] <;> exact decide_eq_decide.mpr Iff.rfl, hst.trim_append _⟩
set_option maxHeartbeats 8000000 in
theorem match_spec (a b : Pr) (hL : hasL a) (st : List O) : Duo.Call Tryd.prog Tryd.gl 45 [encP a, encP b] st (fun v st' => v = .bool (fitL a b) ∧ st' = st) := by
  refine Duo.Call.clo fun hst => ?_
  refine Duo.Call.real fun hr => ?_
  obtain ⟨kind, chan, var, labels, args, t, kids⟩ := a
  obtain ⟨kind2, chan2, var2, labels2, args2, t2, kids2⟩ := b
  rw [encP_mk, encP_mk]
  refine Duo.Call.body 26 [(0, .agg (.int .i64 kind :: .str chan :: .str var :: .sl (labels.map .str) none :: .sl (args.map encV) none :: ((encT t).cells ++ [.sl (kids.map encP) none]))), (1, .agg (.int .i64 kind2 :: .str chan2 :: .str var2 :: .sl (labels2.map .str) none :: .sl (args2.map encV) none :: ((encT t2).cells ++ [.sl (kids2.map encP) none])))] Tryd.func45 rfl rfl ?_
  refine AW.seqK fun K1 hK1 => ?_
  refine AW.region ?_
  refine awL_k rfl rfl fun K2 h2 => ?_
  simp (disch := omega) only [S0, step1, reduceIte, Nat.reduceEqDiff, S3, V.one, S1, PB]
  refine h2 _ _ ?_
  clear h2 K2
  refine awL_k rfl rfl fun K3 h3 => ?_
  simp (disch := omega) only [S0, step1, reduceIte, Nat.reduceEqDiff, S3, V.one, S1, S2, PB]
  refine h3 _ _ ?_
  clear h3 K3
  refine awL_k rfl rfl fun K4 h4 => ?_
  simp (disch := omega) only [S0, step1]
  refine h4 _ _ ?_
  clear h4 K4
  refine hK1 _ _ ?_
  clear hK1 K1
  refine AW.seqK fun K5 hK5 => ?_
  refine AW.seqK fun K6 hK6 => ?_
  refine AW.region ?_
  refine awL_k rfl rfl fun K7 h7 => ?_
  simp (disch := omega) only [S0, step1, reduceIte, Nat.reduceEqDiff, faP, Tryd.fld29_0, Nat.lt_add_one, S1]
  refine h7 _ _ ?_
  clear h7 K7
  refine awL_k rfl rfl fun K8 h8 => ?_
  simp (disch := omega) only [S0, step1, reduceIte, Nat.reduceEqDiff, loadP, Tryd.lay3, pack, S1, Nat.reduceAdd, Nat.reduceLeDiff, S2, PB]
  refine h8 _ _ ?_
  clear h8 K8
  refine hK6 _ _ ?_
  clear hK6 K6
  refine AW.block ?_
  refine AW.seqK fun K9 hK9 => ?_
  refine AW.region ?_
  refine awL_k rfl rfl fun K10 h10 => ?_
  simp (disch := omega) only [S0, step1, Nat.reduceEqDiff, isNilC, Bool.false_eq_true, binP, intP, true_and, if_true, if_false]
  refine h10 _ _ ?_
  clear h10 K10
  refine awL_k rfl rfl fun K11 h11 => ?_
  simp (disch := omega) only [S0, step1, reduceIte, Nat.reduceEqDiff]
  refine h11 _ _ ?_
  clear h11 K11
  refine hK9 _ _ ?_
  clear hK9 K9
  refine AW.condK _ rfl (fun hb12 => ?_) (fun hb12 => ?_)
  · skip
    simp only [decide_eq_true_eq] at hb12
    refine AW.seqK fun K13 hK13 => ?_
    refine AW.region ?_
    refine awL_k rfl rfl fun K14 h14 => ?_
    simp (disch := omega) only [S0, step1, reduceIte, Nat.reduceEqDiff, faP, Tryd.fld29_0, Nat.lt_add_one, S1]
    refine h14 _ _ ?_
    clear h14 K14
    refine awL_k rfl rfl fun K15 h15 => ?_
    simp (disch := omega) only [S0, step1, reduceIte, Nat.reduceEqDiff, loadP, Tryd.lay3, pack, S1, Nat.reduceAdd, Nat.reduceLeDiff, S2, PB]
    refine h15 _ _ ?_
    clear h15 K15
    refine awL_k rfl rfl fun K16 h16 => ?_
    simp (disch := omega) only [S0, step1, Nat.reduceEqDiff, isNilC, Bool.false_eq_true, binP, intP, true_and, if_true, if_false]
    refine h16 _ _ ?_
    clear h16 K16
    refine awL_k rfl rfl fun K17 h17 => ?_
    simp (disch := omega) only [S0, step1, reduceIte, Nat.reduceEqDiff]
    refine h17 _ _ ?_
    clear h17 K17
    refine hK13 _ _ ?_
    clear hK13 K13
    refine AW.ret ?_
    show (_ ∨ _) ∧ _
    refine ⟨.inr rfl, ?_⟩
    show resP _ _ _ [.tmp 4] _
    simp only [resP, resV, V.trim, S0, reduceIte, Nat.reduceEqDiff]
    refine ⟨_, _, _, Nat.le_refl _, V.le_refl _ _, StLe.refl _, ?_⟩
    exact ⟨by simp_all [fitL, Pr.kind, Pr.labels] <;> exact decide_eq_decide.mpr Iff.rfl, hst.trim_append _⟩
  · skip
    simp only [decide_eq_false_iff_not] at hb12
    refine AW.seqK fun K18 hK18 => ?_
    refine AW.region ?_
    refine awL_k rfl rfl fun K19 h19 => ?_
    simp (disch := omega) only [S0, step1, Nat.reduceEqDiff, isNilC, Bool.false_eq_true, binP, intP, true_and, if_true, if_false]
    refine h19 _ _ ?_
    clear h19 K19
    refine awL_k rfl rfl fun K20 h20 => ?_
    simp (disch := omega) only [S0, step1, reduceIte, Nat.reduceEqDiff]
    refine h20 _ _ ?_
    clear h20 K20
    refine hK18 _ _ ?_
    clear hK18 K18
    refine AW.condK _ rfl (fun hb21 => ?_) (fun hb21 => ?_)
    · skip
      simp only [decide_eq_true_eq] at hb21
      refine AW.seqK fun K22 hK22 => ?_
      refine AW.any Tryd.mix 10 rfl ?_
      refine awA_c rfl rfl rfl fun K23 h23 => ?_
      simp (disch := omega) only [S0, step1, reduceIte, Nat.reduceEqDiff, faP, Tryd.fld29_0, Nat.lt_add_one, S1]
      refine h23 _ _ rfl ?_
      clear h23 K23
      refine awA_c rfl rfl rfl fun K24 h24 => ?_
      simp (disch := omega) only [S0, step1, reduceIte, Nat.reduceEqDiff, loadP, Tryd.lay3, pack, S1, Nat.reduceAdd, Nat.reduceLeDiff, S2, PB]
      refine h24 _ _ rfl ?_
      clear h24 K24
      refine awA_c rfl rfl rfl fun K25 h25 => ?_
      simp (disch := omega) only [S0, step1, Nat.reduceEqDiff, isNilC, Bool.false_eq_true, binP, intP, true_and, if_true, if_false]
      refine h25 _ _ rfl ?_
      clear h25 K25
      refine awA_c rfl rfl rfl fun K26 h26 => ?_
      simp (disch := omega) only [S0, step1, reduceIte, Nat.reduceEqDiff]
      refine h26 _ _ rfl ?_
      clear h26 K26
      refine awA_case 17 rfl (fun hg27 => ?_) (fun hg27 => ?_)
      · rw [hg27]
        simp only [decide_eq_true_eq] at hg27
        have hne : labels ≠ [] := (show kind = 4 → labels ≠ [] from hL) (by assumption)
        obtain ⟨l0, lt, rfl⟩ : ∃ l0 lt, labels = l0 :: lt := List.exists_cons_of_ne_nil hne
        refine awA_cyes rfl rfl rfl rfl rfl fun K28 h28 => ?_
        simp (disch := omega) only [S0, step1, reduceIte, Nat.reduceEqDiff, faP, Tryd.fld29_3, Nat.lt_add_one, S1]
        refine h28 _ _ rfl ?_
        clear h28 K28
        refine awA_cyes rfl rfl rfl rfl rfl fun K29 h29 => ?_
        simp (disch := omega) only [S0, step1, reduceIte, Nat.reduceEqDiff, loadP, Tryd.lay22, pack, S1, Nat.reduceAdd, Nat.reduceLeDiff, S2, PB]
        refine h29 _ _ rfl ?_
        clear h29 K29
        refine awA_cyes rfl rfl rfl rfl rfl fun K30 h30 => ?_
        simp (disch := omega) only [S0, step1, reduceIte, Nat.reduceEqDiff, faP, Tryd.fld29_3, Nat.lt_add_one, S1]
        refine h30 _ _ rfl ?_
        clear h30 K30
        refine awA_cyes rfl rfl rfl rfl rfl fun K31 h31 => ?_
        simp (disch := omega) only [S0, step1, reduceIte, Nat.reduceEqDiff, loadP, Tryd.lay22, pack, S1, Nat.reduceAdd, Nat.reduceLeDiff, S2, PB]
        refine h31 _ _ rfl ?_
        clear h31 K31
        refine awA_cyes rfl rfl rfl rfl rfl fun K32 h32 => ?_
        simp (disch := omega) only [S0, step1, reduceIte, Nat.reduceEqDiff, iaP, Tryd.elt22, S3, S1, List.getD_cons_zero, Int.toNat_zero]
        (((repeat' refine And.intro ?_ ?_); all_goals first | refine h32 _ _ rfl ?_ | omega))
        clear h32 K32
        refine awA_cyes rfl rfl rfl rfl rfl fun K33 h33 => ?_
        simp (disch := omega) only [S0, step1, reduceIte, Nat.reduceEqDiff, loadP, Tryd.lay9, pack, S1]
        refine h33 _ _ rfl ?_
        clear h33 K33
        show awA _ _ _ [] _ _ _ _
        simp only [awA, applyUps]
        show awL _ _ _ _ _ _ _
        refine awL_kyes rfl rfl rfl rfl fun K34 h34 => ?_
        show ent _ _ = true ∧ _
        simp only [S0, reduceIte, Nat.reduceEqDiff, List.map, List.nil_append, List.append_nil]
        refine ⟨Tryd.ent39, Duo.Call.mono (contains_spec _ _ _) ?_⟩
        rintro _ _ ⟨rfl, hcs⟩
        obtain rfl := hcs.symm
        refine h34 _ _ ?_
        clear h34 K34
        refine awL_k rfl rfl fun K35 h35 => ?_
        simp (disch := omega) only [S0, step1, reduceIte, Nat.reduceEqDiff]
        refine h35 _ _ ?_
        clear h35 K35
        refine awL_k rfl rfl fun K36 h36 => ?_
        simp (disch := omega) only [S0, step1, reduceIte, Nat.reduceEqDiff]
        refine h36 _ _ ?_
        clear h36 K36
        refine hK22 _ _ ?_
        clear hK22 K22
        refine AW.ret ?_
        show (_ ∨ _) ∧ _
        refine ⟨.inr rfl, ?_⟩
        show resP _ _ _ [.tmp 4] _
        simp only [resP, resV, V.trim, S0, reduceIte, Nat.reduceEqDiff]
        refine ⟨_, _, _, Nat.le_refl _, V.le_refl _ _, StLe.refl _, ?_⟩
        exact ⟨by simp_all [fitL, Pr.kind, Pr.labels] <;> exact decide_eq_decide.mpr Iff.rfl, hst.trim_append _⟩
      · rw [hg27]
        simp only [decide_eq_false_iff_not] at hg27
        refine awA_no rfl rfl rfl rfl ?_
        refine awA_no rfl rfl rfl rfl ?_
        refine awA_no rfl rfl rfl rfl ?_
        refine awA_no rfl rfl rfl rfl ?_
        refine awA_no rfl rfl rfl rfl ?_
        refine awA_no rfl rfl rfl rfl ?_
        show awA _ _ _ [] _ _ _ _
        simp only [awA, applyUps]
        show awL _ _ _ _ _ _ _
        refine awL_no rfl rfl rfl rfl ?_
        refine awL_k rfl rfl fun K37 h37 => ?_
        simp (disch := omega) only [S0, step1, reduceIte, Nat.reduceEqDiff]
        refine h37 _ _ ?_
        clear h37 K37
        refine awL_k rfl rfl fun K38 h38 => ?_
        simp (disch := omega) only [S0, step1, reduceIte, Nat.reduceEqDiff]
        refine h38 _ _ ?_
        clear h38 K38
        refine hK22 _ _ ?_
        clear hK22 K22
        refine AW.ret ?_
        show (_ ∨ _) ∧ _
        refine ⟨.inr rfl, ?_⟩
        show resP _ _ _ [.tmp 4] _
        simp only [resP, resV, S0, reduceIte, Nat.reduceEqDiff]
        refine ⟨_, _, _, Nat.le_refl _, V.le_refl _ _, StLe.refl _, ?_⟩
        exact ⟨by simp_all [fitL, Pr.kind, Pr.labels, V.trim] <;> exact decide_eq_decide.mpr Iff.rfl, hst.trim_append _⟩
    · skip
      simp only [decide_eq_false_iff_not] at hb21
      refine AW.skip ?_
      refine hK5 _ _ ?_
      clear hK5 K5
      refine AW.seqK fun K39 hK39 => ?_
      refine AW.region ?_
      refine awL_k rfl rfl fun K40 h40 => ?_
      simp (disch := omega) only [S0, step1]
      refine h40 _ _ ?_
      clear h40 K40
      refine hK39 _ _ ?_
      clear hK39 K39
      refine AW.ret ?_
      show (_ ∨ _) ∧ _
      refine ⟨.inr rfl, ?_⟩
      show resP _ _ _ [.tmp 4] _
      simp only [resP, resV, V.trim, S0, reduceIte, Nat.reduceEqDiff]
      refine ⟨_, _, _, Nat.le_refl _, V.le_refl _ _, StLe.refl _, ?_⟩
      exact ⟨by simp_all [fitL, Pr.kind, Pr.labels] <;> exact decide_eq_decide.mpr Iff.rfl, hst.trim_append _⟩
set_option maxHeartbeats 8000000 in
theorem ppick_spec (l : List Rx) (n : Int) (hlen : l.length ≤ 100) (st : List O) : Duo.Call Tryd.prog Tryd.gl 29 [.sl (l.map encR) none, .int .i64 n] st (fun v st' => v = .tuple [encR (pickR l n), .bool (decide (¬ l = []))] ∧ st' = st) := by
  refine Duo.Call.clo fun hst => ?_
  refine Duo.Call.real fun hr => ?_
  refine Duo.Call.body 23 [(0, .sl (l.map encR) none), (1, .int .i64 n)] Tryd.func29 rfl rfl ?_
  refine AW.seqK fun K1 hK1 => ?_
  refine AW.region ?_
  refine awL_k rfl rfl fun K2 h2 => ?_
  simp (disch := omega) only [step1, Tryd.zro68]
  refine h2 _ _ ?_
  clear h2 K2
  refine awL_k rfl rfl fun K3 h3 => ?_
  simp (disch := omega) only [S0, step1]
  refine h3 _ _ ?_
  clear h3 K3
  refine hK1 _ _ ?_
  clear hK1 K1
  refine AW.seqK fun K4 hK4 => ?_
  refine AW.seqK fun K5 hK5 => ?_
  refine AW.region ?_
  refine awL_k rfl rfl fun K6 h6 => ?_
  simp (disch := omega) only [S0, step1, reduceIte, Nat.reduceEqDiff]
  refine h6 _ _ ?_
  clear h6 K6
  refine awL_k rfl rfl fun K7 h7 => ?_
  simp (disch := omega) only [S0, step1, reduceIte, Nat.reduceEqDiff, lenP, Tryd.elt47, Option.isSome, true_and, S1]
  refine h7 _ _ ?_
  clear h7 K7
  refine awL_k rfl rfl fun K8 h8 => ?_
  simp (disch := omega) only [S0, step1, Nat.reduceEqDiff, isNilC, Bool.false_eq_true, binP, intP, true_and, if_true, if_false]
  refine h8 _ _ ?_
  clear h8 K8
  refine hK5 _ _ ?_
  clear hK5 K5
  refine AW.condK _ rfl (fun hb9 => ?_) (fun hb9 => ?_)
  · skip
    simp only [decide_eq_true_eq] at hb9
    have hz : l = [] := List.length_eq_zero_iff.1 (by omega)
    refine AW.seqK fun K10 hK10 => ?_
    refine AW.region ?_
    refine awL_k rfl rfl fun K11 h11 => ?_
    simp (disch := omega) only [S0, step1, buildP, Tryd.plc68, Tryd.zro68, fillV, S1]
    refine h11 _ _ ?_
    clear h11 K11
    refine awL_k rfl rfl fun K12 h12 => ?_
    simp (disch := omega) only [S0, step1, reduceIte, Nat.reduceEqDiff, storeP, Tryd.lay68, splice, S3, V.one, S1, Nat.reduceAdd, S2]
    refine h12 _ _ ?_
    clear h12 K12
    refine awL_k rfl rfl fun K13 h13 => ?_
    simp (disch := omega) only [S0, step1]
    refine h13 _ _ ?_
    clear h13 K13
    refine hK10 _ _ ?_
    clear hK10 K10
    refine AW.ret ?_
    show (_ ∨ _) ∧ _
    refine ⟨.inr rfl, ?_⟩
    show resP _ _ _ [.cell 4 68, .tmp 5] _
    simp only [resP, resV, V.trim, V.trim.trimL, S0, reduceIte, Nat.reduceEqDiff, loadP, pack, Tryd.lay68, S1, Nat.reduceAdd, S2]
    refine ⟨_, _, _, Nat.le_refl _, V.le_refl _ _, StLe.refl _, ?_⟩
    exact ⟨by subst hz; rfl, hst.trim_append _⟩
  · skip
    simp only [decide_eq_false_iff_not] at hb9
    have hlo := tmod_lo n (show (0 : Int) < l.length by omega)
    have hhi := tmod_hi n (show (0 : Int) < l.length by omega)
    have h0 := Int.emod_nonneg n (show (l.length : Int) ≠ 0 by omega)
    have h1 := Int.emod_lt_of_pos n (show (0 : Int) < l.length by omega)
    refine AW.skip ?_
    refine hK4 _ _ ?_
    clear hK4 K4
    refine AW.seqK fun K14 hK14 => ?_
    refine AW.region ?_
    refine awL_k rfl rfl fun K15 h15 => ?_
    simp (disch := omega) only [S0, step1, reduceIte, Nat.reduceEqDiff]
    refine h15 _ _ ?_
    clear h15 K15
    refine awL_k rfl rfl fun K16 h16 => ?_
    simp (disch := omega) only [S0, step1, reduceIte, Nat.reduceEqDiff]
    refine h16 _ _ ?_
    clear h16 K16
    refine awL_k rfl rfl fun K17 h17 => ?_
    simp (disch := omega) only [S0, step1, reduceIte, Nat.reduceEqDiff]
    refine h17 _ _ ?_
    clear h17 K17
    refine awL_k rfl rfl fun K18 h18 => ?_
    simp (disch := omega) only [S0, step1, reduceIte, Nat.reduceEqDiff, lenP, Tryd.elt47, Option.isSome, true_and, S1]
    refine h18 _ _ ?_
    clear h18 K18
    refine awL_k rfl rfl fun K19 h19 => ?_
    simp (disch := omega) only [S0, step1, Nat.reduceEqDiff, isNilC, Bool.false_eq_true, binP, intP, true_and, if_true, if_false]
    (((repeat' refine And.intro ?_ ?_); all_goals first | refine h19 _ _ ?_ | omega))
    clear h19 K19
    refine awL_k rfl rfl fun K20 h20 => ?_
    simp (disch := omega) only [S0, step1, reduceIte, Nat.reduceEqDiff]
    refine h20 _ _ ?_
    clear h20 K20
    refine awL_k rfl rfl fun K21 h21 => ?_
    simp (disch := omega) only [S0, step1, reduceIte, Nat.reduceEqDiff, lenP, Tryd.elt47, Option.isSome, true_and, S1]
    refine h21 _ _ ?_
    clear h21 K21
    refine awL_k rfl rfl fun K22 h22 => ?_
    simp (disch := omega) only [S0, step1, Nat.reduceEqDiff, isNilC, Bool.false_eq_true, binP, intP, true_and, if_true, if_false, KB]
    refine h22 _ _ ?_
    clear h22 K22
    refine awL_k rfl rfl fun K23 h23 => ?_
    simp (disch := omega) only [S0, step1, reduceIte, Nat.reduceEqDiff]
    refine h23 _ _ ?_
    clear h23 K23
    refine awL_k rfl rfl fun K24 h24 => ?_
    simp (disch := omega) only [S0, step1, reduceIte, Nat.reduceEqDiff, lenP, Tryd.elt47, Option.isSome, true_and, S1]
    refine h24 _ _ ?_
    clear h24 K24
    refine awL_k rfl rfl fun K25 h25 => ?_
    simp (disch := omega) only [S0, step1, Nat.reduceEqDiff, isNilC, Bool.false_eq_true, binP, intP, true_and, if_true, if_false, tmod_add, KB]
    (((repeat' refine And.intro ?_ ?_); all_goals first | refine h25 _ _ ?_ | omega))
    clear h25 K25
    refine awL_k rfl rfl fun K26 h26 => ?_
    simp (disch := omega) only [S0, step1, reduceIte, Nat.reduceEqDiff, iaP, Tryd.elt47, S1, Nat.reduceAdd, encR_cells, KB]
    (((repeat' refine And.intro ?_ ?_); all_goals first | refine h26 _ _ ?_ | omega))
    clear h26 K26
    refine awL_k rfl rfl fun K27 h27 => ?_
    simp (disch := omega) only [S0, step1, reduceIte, Nat.reduceEqDiff, loadP, Tryd.lay68, pack, S1, Nat.reduceAdd]
    refine h27 _ _ ?_
    clear h27 K27
    refine awL_k rfl rfl fun K28 h28 => ?_
    simp (disch := omega) only [S0, step1, reduceIte, Nat.reduceEqDiff, storeP, Tryd.lay68, splice, S3, V.one, S1, Nat.reduceAdd, S2]
    refine h28 _ _ ?_
    clear h28 K28
    refine awL_k rfl rfl fun K29 h29 => ?_
    simp (disch := omega) only [S0, step1]
    refine h29 _ _ ?_
    clear h29 K29
    refine hK14 _ _ ?_
    clear hK14 K14
    refine AW.ret ?_
    show (_ ∨ _) ∧ _
    refine ⟨.inr rfl, ?_⟩
    show resP _ _ _ [.cell 4 68, .tmp 5] _
    simp only [resP, resV, V.trim, V.trim.trimL, S0, reduceIte, Nat.reduceEqDiff, loadP, pack, Tryd.lay68, S1, Nat.reduceAdd, S2]
    refine ⟨_, _, _, Nat.le_refl _, V.le_refl _ _, StLe.refl _, ?_⟩
    exact ⟨by have hne : ¬ l = [] := List.ne_nil_of_length_pos (by omega)
              simp only [pickR, getD_ltI _ _ _ (show (n % (l.length : Int)).toNat < l.length by omega), hne]; rfl, hst.trim_append _⟩
set_option maxHeartbeats 8000000 in
theorem same_spec (a : List Rx) (b : List Rx) (st : List O) : Duo.Call Tryd.prog Tryd.gl 18 [.sl (a.map encR) none, .sl (b.map encR) none] st (fun v st' => v = .bool (decide (a = b)) ∧ st' = st) := by
  refine Duo.Call.clo fun hst => ?_
  refine Duo.Call.real fun hr => ?_
  have hla : a.length ≤ 9223372036854775807 := (hr (.sl (a.map encR) none) (by simp) (PureV.sl _ _)).row
  refine Duo.Call.body 43 [(0, .sl (a.map encR) none), (1, .sl (b.map encR) none)] Tryd.func18 rfl rfl ?_
  refine AW.seqK fun K1 hK1 => ?_
  refine AW.region ?_
  refine awL_k rfl rfl fun K2 h2 => ?_
  simp (disch := omega) only [S0, step1]
  refine h2 _ _ ?_
  clear h2 K2
  refine hK1 _ _ ?_
  clear hK1 K1
  refine AW.seqK fun K3 hK3 => ?_
  refine AW.seqK fun K4 hK4 => ?_
  refine AW.region ?_
  refine awL_k rfl rfl fun K5 h5 => ?_
  simp (disch := omega) only [S0, step1, reduceIte, Nat.reduceEqDiff]
  refine h5 _ _ ?_
  clear h5 K5
  refine awL_k rfl rfl fun K6 h6 => ?_
  simp (disch := omega) only [S0, step1, reduceIte, Nat.reduceEqDiff, lenP, Tryd.elt47, Option.isSome, true_and, S1]
  refine h6 _ _ ?_
  clear h6 K6
  refine awL_k rfl rfl fun K7 h7 => ?_
  simp (disch := omega) only [S0, step1, reduceIte, Nat.reduceEqDiff]
  refine h7 _ _ ?_
  clear h7 K7
  refine awL_k rfl rfl fun K8 h8 => ?_
  simp (disch := omega) only [S0, step1, reduceIte, Nat.reduceEqDiff, lenP, Tryd.elt49, Option.isSome, true_and, S1]
  refine h8 _ _ ?_
  clear h8 K8
  refine awL_k rfl rfl fun K9 h9 => ?_
  simp (disch := omega) only [S0, step1, Nat.reduceEqDiff, isNilC, Bool.false_eq_true, binP, intP, true_and, if_true, if_false]
  refine h9 _ _ ?_
  clear h9 K9
  refine hK4 _ _ ?_
  clear hK4 K4
  refine AW.condK _ rfl (fun hb10 => ?_) (fun hb10 => ?_)
  · skip
    simp only [decide_eq_true_eq, ne_eq] at hb10
    have hne : a.length ≠ b.length := by omega
    refine AW.seqK fun K11 hK11 => ?_
    refine AW.region ?_
    refine awL_k rfl rfl fun K12 h12 => ?_
    simp (disch := omega) only [S0, step1]
    refine h12 _ _ ?_
    clear h12 K12
    refine hK11 _ _ ?_
    clear hK11 K11
    refine AW.ret ?_
    show (_ ∨ _) ∧ _
    refine ⟨.inr rfl, ?_⟩
    show resP _ _ _ [.tmp 4] _
    simp only [resP, resV, V.trim, S0, reduceIte, Nat.reduceEqDiff]
    refine ⟨_, _, _, Nat.le_refl _, V.le_refl _ _, StLe.refl _, ?_⟩
    exact ⟨by rw [decide_eq_false (fun h => hne (by rw [h]))], hst.trim⟩
  · skip
    simp only [decide_eq_false_iff_not, ne_eq, Decidable.not_not] at hb10
    have hlen : a.length = b.length := by omega
    refine AW.skip ?_
    refine hK3 _ _ ?_
    clear hK3 K3
    refine AW.seqK fun K13 hK13 => ?_
    refine AW.seqK fun K14 hK14 => ?_
    refine AW.region ?_
    refine awL_k rfl rfl fun K15 h15 => ?_
    simp (disch := omega) only [S0, step1]
    refine h15 _ _ ?_
    clear h15 K15
    refine hK14 _ _ ?_
    clear hK14 K14
    refine AW.block ?_
    refine AW.loop (α := { i : Nat // i ≤ a.length ∧ a.take i = (b.take i) }) 43 (fun i => [(0, .sl (a.map encR) none), (1, .sl (b.map encR) none), (5, .int .i64 (i.1 : Nat))]) (fun i => st) (fun i => a.length - i.1) ⟨0, Nat.zero_le _, rfl⟩ (by show _ ≤ _; exact Nat.le_of_ble_eq_true rfl) ⟨V.le_of_eq (by rfl), V.le_of_eq (by rfl), V.le_of_eq (by rfl), trivial⟩ (StLe.of_eq (by rfl)) ?_
    rintro ⟨i, hi, hpre⟩
    dsimp only
    refine AW.clo fun hlc => ?_
    refine AW.seqK fun K16 hK16 => ?_
    refine AW.seqK fun K17 hK17 => ?_
    refine AW.region ?_
    refine awL_k rfl rfl fun K18 h18 => ?_
    simp (disch := omega) only [S0, step1, reduceIte, Nat.reduceEqDiff]
    refine h18 _ _ ?_
    clear h18 K18
    refine awL_k rfl rfl fun K19 h19 => ?_
    simp (disch := omega) only [S0, step1, reduceIte, Nat.reduceEqDiff]
    refine h19 _ _ ?_
    clear h19 K19
    refine awL_k rfl rfl fun K20 h20 => ?_
    simp (disch := omega) only [S0, step1, reduceIte, Nat.reduceEqDiff, lenP, Tryd.elt47, Option.isSome, true_and, S1]
    refine h20 _ _ ?_
    clear h20 K20
    refine awL_k rfl rfl fun K21 h21 => ?_
    simp (disch := omega) only [S0, step1, Nat.reduceEqDiff, isNilC, Bool.false_eq_true, binP, intP, true_and, if_true, if_false]
    refine h21 _ _ ?_
    clear h21 K21
    refine hK17 _ _ ?_
    clear hK17 K17
    refine AW.condK _ rfl (fun hb22 => ?_) (fun hb22 => ?_)
    · skip
      simp only [decide_eq_true_eq, Int.ofNat_lt] at hb22
      have hlt : i < a.length := by omega
      have hlt2 : i < b.length := by omega
      refine AW.skip ?_
      refine hK16 _ _ ?_
      clear hK16 K16
      refine AW.seqK fun K23 hK23 => ?_
      refine AW.block ?_
      refine AW.seqK fun K24 hK24 => ?_
      refine AW.any Tryd.mix 25 rfl ?_
      refine awA_c rfl rfl rfl fun K25 h25 => ?_
      simp (disch := omega) only [S0, step1, reduceIte, Nat.reduceEqDiff]
      refine h25 _ _ rfl ?_
      clear h25 K25
      refine awA_c rfl rfl rfl fun K26 h26 => ?_
      simp (disch := omega) only [S0, step1, reduceIte, Nat.reduceEqDiff]
      refine h26 _ _ rfl ?_
      clear h26 K26
      refine awA_c rfl rfl rfl fun K27 h27 => ?_
      simp (disch := omega) only [S0, step1, reduceIte, Nat.reduceEqDiff, iaP, Tryd.elt47, S1, Nat.reduceAdd, encR_cells, KB]
      (((repeat' refine And.intro ?_ ?_); all_goals first | refine h27 _ _ rfl ?_ | omega))
      clear h27 K27
      refine awA_c rfl rfl rfl fun K28 h28 => ?_
      simp (disch := omega) only [S0, step1, reduceIte, Nat.reduceEqDiff, loadP, Tryd.lay68, pack, S1, Nat.reduceAdd]
      refine h28 _ _ rfl ?_
      clear h28 K28
      refine awA_c rfl rfl rfl fun K29 h29 => ?_
      simp (disch := omega) only [S0, step1, reduceIte, Nat.reduceEqDiff]
      refine h29 _ _ rfl ?_
      clear h29 K29
      refine awA_c rfl rfl rfl fun K30 h30 => ?_
      simp (disch := omega) only [S0, step1, reduceIte, Nat.reduceEqDiff]
      refine h30 _ _ rfl ?_
      clear h30 K30
      refine awA_c rfl rfl rfl fun K31 h31 => ?_
      simp (disch := omega) only [S0, step1, reduceIte, Nat.reduceEqDiff, iaP, Tryd.elt49, S1, Nat.reduceAdd, encR_cells, KB]
      (((repeat' refine And.intro ?_ ?_); all_goals first | refine h31 _ _ rfl ?_ | omega))
      clear h31 K31
      refine awA_c rfl rfl rfl fun K32 h32 => ?_
      simp (disch := omega) only [S0, step1, reduceIte, Nat.reduceEqDiff, faP, Tryd.fld91_0, Nat.lt_add_one, S1]
      refine h32 _ _ rfl ?_
      clear h32 K32
      refine awA_c rfl rfl rfl fun K33 h33 => ?_
      simp (disch := omega) only [S0, step1, reduceIte, Nat.reduceEqDiff, loadP, Tryd.lay3, pack, S1, Nat.reduceAdd, Nat.reduceLeDiff]
      refine h33 _ _ rfl ?_
      clear h33 K33
      refine awA_c rfl rfl rfl fun K34 h34 => ?_
      simp (disch := omega) only [S0, step1, reduceIte, Nat.reduceEqDiff]
      refine h34 _ _ rfl ?_
      clear h34 K34
      refine awA_c rfl rfl rfl fun K35 h35 => ?_
      simp (disch := omega) only [S0, step1, reduceIte, Nat.reduceEqDiff]
      refine h35 _ _ rfl ?_
      clear h35 K35
      refine awA_c rfl rfl rfl fun K36 h36 => ?_
      simp (disch := omega) only [S0, step1, reduceIte, Nat.reduceEqDiff, iaP, Tryd.elt49, S1, Nat.reduceAdd, encR_cells, KB]
      (((repeat' refine And.intro ?_ ?_); all_goals first | refine h36 _ _ rfl ?_ | omega))
      clear h36 K36
      refine awA_c rfl rfl rfl fun K37 h37 => ?_
      simp (disch := omega) only [S0, step1, reduceIte, Nat.reduceEqDiff, faP, Tryd.fld91_1, Nat.lt_add_one, S1]
      refine h37 _ _ rfl ?_
      clear h37 K37
      refine awA_c rfl rfl rfl fun K38 h38 => ?_
      simp (disch := omega) only [S0, step1, reduceIte, Nat.reduceEqDiff, loadP, Tryd.lay3, pack, S1, Nat.reduceAdd, Nat.reduceLeDiff]
      refine h38 _ _ rfl ?_
      clear h38 K38
      refine awA_c rfl rfl rfl fun K39 h39 => ?_
      simp (disch := omega) only [S0, step1, reduceIte, Nat.reduceEqDiff]
      refine h39 _ _ rfl ?_
      clear h39 K39
      refine awA_c rfl rfl rfl fun K40 h40 => ?_
      simp (disch := omega) only [S0, step1, reduceIte, Nat.reduceEqDiff]
      refine h40 _ _ rfl ?_
      clear h40 K40
      refine awA_c rfl rfl rfl fun K41 h41 => ?_
      simp (disch := omega) only [S0, step1, reduceIte, Nat.reduceEqDiff, iaP, Tryd.elt49, S1, Nat.reduceAdd, encR_cells, KB]
      (((repeat' refine And.intro ?_ ?_); all_goals first | refine h41 _ _ rfl ?_ | omega))
      clear h41 K41
      refine awA_c rfl rfl rfl fun K42 h42 => ?_
      simp (disch := omega) only [S0, step1, reduceIte, Nat.reduceEqDiff, faP, Tryd.fld91_2, Nat.lt_add_one, S1]
      refine h42 _ _ rfl ?_
      clear h42 K42
      refine awA_c rfl rfl rfl fun K43 h43 => ?_
      simp (disch := omega) only [S0, step1, reduceIte, Nat.reduceEqDiff, loadP, Tryd.lay3, pack, S1, Nat.reduceAdd, Nat.reduceLeDiff]
      refine h43 _ _ rfl ?_
      clear h43 K43
      refine awA_c rfl rfl rfl fun K44 h44 => ?_
      simp (disch := omega) only [S0, step1, reduceIte, Nat.reduceEqDiff]
      refine h44 _ _ rfl ?_
      clear h44 K44
      refine awA_c rfl rfl rfl fun K45 h45 => ?_
      simp (disch := omega) only [S0, step1, reduceIte, Nat.reduceEqDiff]
      refine h45 _ _ rfl ?_
      clear h45 K45
      refine awA_c rfl rfl rfl fun K46 h46 => ?_
      simp (disch := omega) only [S0, step1, reduceIte, Nat.reduceEqDiff, iaP, Tryd.elt49, S1, Nat.reduceAdd, encR_cells, KB]
      (((repeat' refine And.intro ?_ ?_); all_goals first | refine h46 _ _ rfl ?_ | omega))
      clear h46 K46
      refine awA_c rfl rfl rfl fun K47 h47 => ?_
      simp (disch := omega) only [S0, step1, reduceIte, Nat.reduceEqDiff, faP, Tryd.fld91_3, Nat.lt_add_one, S1]
      refine h47 _ _ rfl ?_
      clear h47 K47
      refine awA_c rfl rfl rfl fun K48 h48 => ?_
      simp (disch := omega) only [S0, step1, reduceIte, Nat.reduceEqDiff, loadP, Tryd.lay4, pack, S1]
      refine h48 _ _ rfl ?_
      clear h48 K48
      refine awA_c rfl rfl rfl fun K49 h49 => ?_
      simp (disch := omega) only [S0, step1, reduceIte, Nat.reduceEqDiff, buildP, Tryd.plc68, Tryd.zro68, fillV, splice, S3, V.one, S1, Nat.reduceAdd, Nat.reduceLeDiff]
      refine h49 _ _ rfl ?_
      clear h49 K49
      show awA _ _ _ [] _ _ _ _
      simp only [awA, applyUps]
      show awL _ _ _ _ _ _ _
      refine awL_k rfl rfl fun K50 h50 => ?_
      simp (disch := omega) only [S0, step1, Nat.reduceEqDiff, isNilC, Bool.false_eq_true, binP, if_true, if_false, eqP, Tryd.seq68, cmpL, cmpV, encR_inj]
      refine h50 _ _ ?_
      clear h50 K50
      refine hK24 _ _ ?_
      clear hK24 K24
      refine AW.condK _ rfl (fun hb51 => ?_) (fun hb51 => ?_)
      · skip
        simp only [decide_eq_false_iff_not, Bool.not_eq_true'] at hb51
        have hq : ¬ a[i] = b[i] := by simpa using hb51
        refine AW.seqK fun K52 hK52 => ?_
        refine AW.region ?_
        refine awL_k rfl rfl fun K53 h53 => ?_
        simp (disch := omega) only [S0, step1]
        refine h53 _ _ ?_
        clear h53 K53
        refine hK52 _ _ ?_
        clear hK52 K52
        refine AW.ret ?_
        show (_ ∨ _) ∧ _
        refine ⟨.inr rfl, ?_⟩
        show resP _ _ _ [.tmp 4] _
        simp only [resP, resV, V.trim, S0, reduceIte, Nat.reduceEqDiff]
        refine ⟨_, _, _, Nat.le_refl _, V.le_refl _ _, StLe.refl _, ?_⟩
        exact ⟨by rw [decide_eq_false (fun h => hq (by subst h; simp))], hst.trim⟩
      · skip
        simp only [decide_eq_true_eq, Bool.not_eq_false'] at hb51
        have hq : a[i] = b[i] := by simpa using hb51
        refine AW.skip ?_
        refine hK23 _ _ ?_
        clear hK23 K23
        refine AW.region ?_
        refine awL_k rfl rfl fun K54 h54 => ?_
        simp (disch := omega) only [S0, step1, reduceIte, Nat.reduceEqDiff]
        refine h54 _ _ ?_
        clear h54 K54
        refine awL_k rfl rfl fun K55 h55 => ?_
        simp (disch := omega) only [S0, step1, Nat.reduceEqDiff, isNilC, Bool.false_eq_true, binP, intP, true_and, if_true, if_false, KB]
        refine h55 _ _ ?_
        clear h55 K55
        refine awL_k rfl rfl fun K56 h56 => ?_
        simp (disch := omega) only [S0, step1, reduceIte, Nat.reduceEqDiff]
        refine h56 _ _ ?_
        clear h56 K56
        refine ⟨⟨i + 1, by omega, by simp only [List.take_add_one, List.getElem?_eq_getElem hlt, List.getElem?_eq_getElem hlt2, hpre, hq, Option.toList]⟩, by simp only []; omega, _, Nat.le_refl _, Nat.le_of_ble_eq_true rfl, ⟨V.le_of_eq (by rw [Env.trim_get]; simp only [S0, reduceIte, Nat.reduceEqDiff, V.trim] <;> first | rfl | (rw [if_pos (by simp)]; done) | (simp; done)), V.le_of_eq (by rw [Env.trim_get]; simp only [S0, reduceIte, Nat.reduceEqDiff, V.trim] <;> first | rfl | (rw [if_pos (by simp)]; done) | (simp; done)), V.le_of_eq (by rw [Env.trim_get]; simp only [S0, reduceIte, Nat.reduceEqDiff, V.trim] <;> rfl), trivial⟩, StLe.of_eq (by exact hlc.trim)⟩
    · skip
      simp only [decide_eq_false_iff_not, Int.ofNat_lt] at hb22
      have hge : i = a.length := by omega
      refine AW.exit ?_
      refine hK13 _ _ ?_
      refine AW.seqK fun K57 hK57 => ?_
      refine AW.region ?_
      refine awL_k rfl rfl fun K58 h58 => ?_
      simp (disch := omega) only [S0, step1]
      refine h58 _ _ ?_
      clear h58 K58
      refine hK57 _ _ ?_
      clear hK57 K57
      refine AW.ret ?_
      show (_ ∨ _) ∧ _
      refine ⟨.inr rfl, ?_⟩
      show resP _ _ _ [.tmp 4] _
      simp only [resP, resV, V.trim, S0, reduceIte, Nat.reduceEqDiff]
      refine ⟨_, _, _, Nat.le_refl _, V.le_refl _ _, StLe.refl _, ?_⟩
      exact ⟨by rw [decide_eq_true]; have h1 := hpre; rw [hge, List.take_length, hlen, List.take_length] at h1; exact h1, hst.trim⟩
set_option maxHeartbeats 8000000 in
theorem rlist_spec (l : List Pr) (hn : l.length ≤ 1000000) (hL : ∀ x ∈ l, hasL x) (st : List O) : Duo.Call Tryd.prog Tryd.gl 20 [.sl (l.map encP) none] st (fun v st' => v = .sl ((listL l).map encR) none ∧ st' = st) := by
  refine Duo.Call.clo fun hst => ?_
  refine Duo.Call.real fun hr => ?_
  refine Duo.Call.body 65 [(0, .sl (l.map encP) none)] Tryd.func20 rfl rfl ?_
  refine AW.seqK fun K1 hK1 => ?_
  refine AW.region ?_
  refine awL_k rfl rfl fun K2 h2 => ?_
  simp (disch := omega) only [S0, step1]
  refine h2 _ _ ?_
  clear h2 K2
  refine hK1 _ _ ?_
  clear hK1 K1
  refine AW.seqK fun K3 hK3 => ?_
  refine AW.region ?_
  refine awL_k rfl rfl fun K4 h4 => ?_
  simp (disch := omega) only [S0, step1]
  refine h4 _ _ ?_
  clear h4 K4
  refine hK3 _ _ ?_
  clear hK3 K3
  refine AW.seqK fun K5 hK5 => ?_
  refine AW.seqK fun K6 hK6 => ?_
  refine AW.region ?_
  refine awL_k rfl rfl fun K7 h7 => ?_
  simp (disch := omega) only [S0, step1]
  refine h7 _ _ ?_
  clear h7 K7
  refine hK6 _ _ ?_
  clear hK6 K6
  refine AW.block ?_
  refine AW.tok 91 4 ?_
  refine AW.loop (α := { i : Nat // i ≤ l.length }) 65 (fun i => [(0, .sl (l.map encP) none), (3, .sl ((partL l.length (rxAt l) i.1 0).map encR) (some st.length)), (4, .int .i64 (i.1 : Nat))]) (fun i => st ++ [.tok 91 4 (partL l.length (rxAt l) i.1 0).length]) (fun i => l.length - i.1) ⟨0, Nat.zero_le _⟩ (by show _ ≤ _; exact Nat.le_of_ble_eq_true rfl) ⟨V.le_of_eq (by rfl), (V.le_nil_tok (by rw [st_get0]; rfl)), V.le_of_eq (by rfl), trivial⟩ (StLe.of_eq rfl) ?_
  rintro ⟨i, hi⟩
  dsimp only
  refine AW.clo fun hlc => ?_
  refine AW.seqK fun K8 hK8 => ?_
  refine AW.seqK fun K9 hK9 => ?_
  refine AW.region ?_
  refine awL_k rfl rfl fun K10 h10 => ?_
  simp (disch := omega) only [S0, step1, reduceIte, Nat.reduceEqDiff]
  refine h10 _ _ ?_
  clear h10 K10
  refine awL_k rfl rfl fun K11 h11 => ?_
  simp (disch := omega) only [S0, step1, reduceIte, Nat.reduceEqDiff]
  refine h11 _ _ ?_
  clear h11 K11
  refine awL_k rfl rfl fun K12 h12 => ?_
  simp (disch := omega) only [S0, step1, reduceIte, Nat.reduceEqDiff, lenP, Tryd.elt27, Option.isSome, true_and, S1]
  refine h12 _ _ ?_
  clear h12 K12
  refine awL_k rfl rfl fun K13 h13 => ?_
  simp (disch := omega) only [S0, step1, Nat.reduceEqDiff, isNilC, Bool.false_eq_true, binP, intP, true_and, if_true, if_false]
  refine h13 _ _ ?_
  clear h13 K13
  refine hK9 _ _ ?_
  clear hK9 K9
  refine AW.condK _ rfl (fun hb14 => ?_) (fun hb14 => ?_)
  · skip
    simp only [decide_eq_true_eq, Int.ofNat_lt] at hb14
    have hlt : i < l.length := by omega
    refine AW.skip ?_
    refine hK8 _ _ ?_
    clear hK8 K8
    refine AW.seqK fun K15 hK15 => ?_
    refine AW.block ?_
    refine AW.seqK fun K16 hK16 => ?_
    refine AW.region ?_
    refine awL_k rfl rfl fun K17 h17 => ?_
    simp (disch := omega) only [S0, step1]
    refine h17 _ _ ?_
    clear h17 K17
    refine hK16 _ _ ?_
    clear hK16 K16
    refine AW.block ?_
    refine AW.loop (α := { k : Nat // k ≤ l.length }) 65 (fun k => [(0, .sl (l.map encP) none), (3, .sl ((partL l.length (rxAt l) i k.1).map encR) (some st.length)), (4, .int .i64 (i : Nat)), (5, .int .i64 (k.1 : Nat))]) (fun k => st ++ [.tok 91 4 (partL l.length (rxAt l) i k.1).length]) (fun k => l.length - k.1) ⟨0, Nat.zero_le _⟩ (by show _ ≤ _; exact Nat.le_of_ble_eq_true rfl) ⟨V.le_of_eq (by rfl), V.le_of_eq (by rfl), V.le_of_eq (by rfl), V.le_of_eq (by rfl), trivial⟩ (StLe.of_eq rfl) ?_
    rintro ⟨k, hk⟩
    dsimp only
    have hb := partL_len (n := l.length) (f := rxAt l) (i := i) (k := k) (by omega) hi hk
    refine AW.clo fun hlc => ?_
    refine AW.seqK fun K18 hK18 => ?_
    refine AW.seqK fun K19 hK19 => ?_
    refine AW.region ?_
    refine awL_k rfl rfl fun K20 h20 => ?_
    simp (disch := omega) only [S0, step1, reduceIte, Nat.reduceEqDiff]
    refine h20 _ _ ?_
    clear h20 K20
    refine awL_k rfl rfl fun K21 h21 => ?_
    simp (disch := omega) only [S0, step1, reduceIte, Nat.reduceEqDiff]
    refine h21 _ _ ?_
    clear h21 K21
    refine awL_k rfl rfl fun K22 h22 => ?_
    simp (disch := omega) only [S0, step1, reduceIte, Nat.reduceEqDiff, lenP, Tryd.elt27, Option.isSome, true_and, S1]
    refine h22 _ _ ?_
    clear h22 K22
    refine awL_k rfl rfl fun K23 h23 => ?_
    simp (disch := omega) only [S0, step1, Nat.reduceEqDiff, isNilC, Bool.false_eq_true, binP, intP, true_and, if_true, if_false]
    refine h23 _ _ ?_
    clear h23 K23
    refine hK19 _ _ ?_
    clear hK19 K19
    refine AW.condK _ rfl (fun hb24 => ?_) (fun hb24 => ?_)
    · skip
      simp only [decide_eq_true_eq, Int.ofNat_lt] at hb24
      have hltk : k < l.length := by omega
      refine AW.skip ?_
      refine hK18 _ _ ?_
      clear hK18 K18
      refine AW.seqK fun K25 hK25 => ?_
      refine AW.block ?_
      refine AW.seqK fun K26 hK26 => ?_
      refine AW.any Tryd.mix 23 rfl ?_
      refine awA_c rfl rfl rfl fun K27 h27 => ?_
      simp (disch := omega) only [S0, step1, reduceIte, Nat.reduceEqDiff]
      refine h27 _ _ rfl ?_
      clear h27 K27
      refine awA_c rfl rfl rfl fun K28 h28 => ?_
      simp (disch := omega) only [S0, step1, reduceIte, Nat.reduceEqDiff]
      refine h28 _ _ rfl ?_
      clear h28 K28
      refine awA_c rfl rfl rfl fun K29 h29 => ?_
      simp (disch := omega) only [S0, step1, Nat.reduceEqDiff, isNilC, Bool.false_eq_true, binP, intP, true_and, if_true, if_false]
      refine h29 _ _ rfl ?_
      clear h29 K29
      refine awA_c rfl rfl rfl fun K30 h30 => ?_
      simp (disch := omega) only [S0, step1, reduceIte, Nat.reduceEqDiff]
      refine h30 _ _ rfl ?_
      clear h30 K30
      refine awA_case 24 rfl (fun hg31 => ?_) (fun hg31 => ?_)
      · rw [hg31]
        simp only [decide_eq_true_eq, ne_eq] at hg31
        refine awA_cyes rfl rfl rfl rfl rfl fun K32 h32 => ?_
        simp (disch := omega) only [S0, step1, reduceIte, Nat.reduceEqDiff]
        refine h32 _ _ rfl ?_
        clear h32 K32
        refine awA_cyes rfl rfl rfl rfl rfl fun K33 h33 => ?_
        simp (disch := omega) only [S0, step1, reduceIte, Nat.reduceEqDiff]
        refine h33 _ _ rfl ?_
        clear h33 K33
        refine awA_cyes rfl rfl rfl rfl rfl fun K34 h34 => ?_
        simp (disch := omega) only [S0, step1, reduceIte, Nat.reduceEqDiff, iaP, Tryd.elt27, S1, PB, KB]
        (((repeat' refine And.intro ?_ ?_); all_goals first | refine h34 _ _ rfl ?_ | omega))
        clear h34 K34
        refine awA_cyes rfl rfl rfl rfl rfl fun K35 h35 => ?_
        simp (disch := omega) only [S0, step1, reduceIte, Nat.reduceEqDiff, loadP, Tryd.lay29, pack, S1, PB]
        refine h35 _ _ rfl ?_
        clear h35 K35
        refine awA_cyes rfl rfl rfl rfl rfl fun K36 h36 => ?_
        simp (disch := omega) only [S0, step1, reduceIte, Nat.reduceEqDiff]
        refine h36 _ _ rfl ?_
        clear h36 K36
        refine awA_cyes rfl rfl rfl rfl rfl fun K37 h37 => ?_
        simp (disch := omega) only [S0, step1, reduceIte, Nat.reduceEqDiff]
        refine h37 _ _ rfl ?_
        clear h37 K37
        refine awA_cyes rfl rfl rfl rfl rfl fun K38 h38 => ?_
        simp (disch := omega) only [S0, step1, reduceIte, Nat.reduceEqDiff, iaP, Tryd.elt27, S1, PB, KB]
        (((repeat' refine And.intro ?_ ?_); all_goals first | refine h38 _ _ rfl ?_ | omega))
        clear h38 K38
        refine awA_cyes rfl rfl rfl rfl rfl fun K39 h39 => ?_
        simp (disch := omega) only [S0, step1, reduceIte, Nat.reduceEqDiff, loadP, Tryd.lay29, pack, S1, PB]
        refine h39 _ _ rfl ?_
        clear h39 K39
        refine awA_kyes rfl rfl rfl rfl fun K40 h40 g40 => ?_
        show ent _ _ = true ∧ _
        simp only [S0, reduceIte, Nat.reduceEqDiff, List.map, List.nil_append, List.append_nil]
        refine ⟨Tryd.ent46, _, meet_spec _ _ _, h40 _ ?_⟩
        clear h40 g40 K40
        refine awA_c rfl rfl rfl fun K41 h41 => ?_
        simp (disch := omega) only [S0, step1, reduceIte, Nat.reduceEqDiff]
        refine h41 _ _ rfl ?_
        clear h41 K41
        refine awA_c rfl rfl rfl fun K42 h42 => ?_
        simp (disch := omega) only [S0, step1, reduceIte, Nat.reduceEqDiff]
        refine h42 _ _ rfl ?_
        clear h42 K42
        refine awA_case 35 rfl (fun hg43 => ?_) (fun hg43 => ?_)
        · rw [hg43]
          skip
          refine awA_cyes rfl rfl rfl rfl rfl fun K44 h44 => ?_
          simp (disch := omega) only [S0, step1, reduceIte, Nat.reduceEqDiff]
          refine h44 _ _ rfl ?_
          clear h44 K44
          refine awA_cyes rfl rfl rfl rfl rfl fun K45 h45 => ?_
          simp (disch := omega) only [S0, step1, reduceIte, Nat.reduceEqDiff]
          refine h45 _ _ rfl ?_
          clear h45 K45
          refine awA_cyes rfl rfl rfl rfl rfl fun K46 h46 => ?_
          simp (disch := omega) only [S0, step1, reduceIte, Nat.reduceEqDiff, iaP, Tryd.elt27, S1, PB, KB]
          (((repeat' refine And.intro ?_ ?_); all_goals first | refine h46 _ _ rfl ?_ | omega))
          clear h46 K46
          refine awA_cyes rfl rfl rfl rfl rfl fun K47 h47 => ?_
          simp (disch := omega) only [S0, step1, reduceIte, Nat.reduceEqDiff, loadP, Tryd.lay29, pack, S1, PB]
          refine h47 _ _ rfl ?_
          clear h47 K47
          refine awA_cyes rfl rfl rfl rfl rfl fun K48 h48 => ?_
          simp (disch := omega) only [S0, step1, reduceIte, Nat.reduceEqDiff]
          refine h48 _ _ rfl ?_
          clear h48 K48
          refine awA_cyes rfl rfl rfl rfl rfl fun K49 h49 => ?_
          simp (disch := omega) only [S0, step1, reduceIte, Nat.reduceEqDiff]
          refine h49 _ _ rfl ?_
          clear h49 K49
          refine awA_cyes rfl rfl rfl rfl rfl fun K50 h50 => ?_
          simp (disch := omega) only [S0, step1, reduceIte, Nat.reduceEqDiff, iaP, Tryd.elt27, S1, PB, KB]
          (((repeat' refine And.intro ?_ ?_); all_goals first | refine h50 _ _ rfl ?_ | omega))
          clear h50 K50
          refine awA_cyes rfl rfl rfl rfl rfl fun K51 h51 => ?_
          simp (disch := omega) only [S0, step1, reduceIte, Nat.reduceEqDiff, loadP, Tryd.lay29, pack, S1, PB]
          refine h51 _ _ rfl ?_
          clear h51 K51
          show awA _ _ _ [] _ _ _ _
          simp only [awA, applyUps, S2]
          show awL _ _ _ _ _ _ _
          refine awL_kyes rfl rfl rfl rfl fun K52 h52 => ?_
          show ent _ _ = true ∧ _
          simp only [S0, reduceIte, Nat.reduceEqDiff, List.map, List.nil_append, List.append_nil]
          refine ⟨Tryd.ent47, Duo.Call.mono (fit_spec _ _ (by exact hL _ (List.getElem_mem _)) _) ?_⟩
          rintro _ _ ⟨rfl, hcs⟩
          obtain rfl := hcs.symm
          refine h52 _ _ ?_
          clear h52 K52
          refine awL_k rfl rfl fun K53 h53 => ?_
          simp (disch := omega) only [S0, step1, reduceIte, Nat.reduceEqDiff]
          refine h53 _ _ ?_
          clear h53 K53
          refine hK26 _ _ ?_
          clear hK26 K26
          refine AW.condK _ rfl (fun hb54 => ?_) (fun hb54 => ?_)
          · skip
            skip
            refine AW.seqK fun K55 hK55 => ?_
            refine AW.region ?_
            refine awL_k rfl rfl fun K56 h56 => ?_
            simp (disch := omega) only [S0, step1, reduceIte, Nat.reduceEqDiff]
            refine h56 _ _ ?_
            clear h56 K56
            refine awL_k rfl rfl fun K57 h57 => ?_
            simp (disch := omega) only [S0, step1, reduceIte, Nat.reduceEqDiff]
            refine h57 _ _ ?_
            clear h57 K57
            refine awL_k rfl rfl fun K58 h58 => ?_
            simp (disch := omega) only [S0, step1, reduceIte, Nat.reduceEqDiff, iaP, Tryd.elt27, S1, PB, KB]
            (((repeat' refine And.intro ?_ ?_); all_goals first | refine h58 _ _ ?_ | omega))
            clear h58 K58
            refine awL_k rfl rfl fun K59 h59 => ?_
            simp (disch := omega) only [S0, step1, reduceIte, Nat.reduceEqDiff, faP, Tryd.fld29_1, Nat.lt_add_one, S1]
            refine h59 _ _ ?_
            clear h59 K59
            refine awL_k rfl rfl fun K60 h60 => ?_
            simp (disch := omega) only [S0, step1, reduceIte, Nat.reduceEqDiff, loadP, Tryd.lay9, pack, S1, Nat.reduceLeDiff, Nat.reduceSub, PB]
            refine h60 _ _ ?_
            clear h60 K60
            refine awL_k rfl rfl fun K61 h61 => ?_
            show ent _ _ = true ∧ _
            simp only [S0, reduceIte, Nat.reduceEqDiff, List.map, List.nil_append, List.append_nil]
            refine ⟨Tryd.ent48, Duo.Call.mono (rendpoint_spec _ _) ?_⟩
            rintro _ _ ⟨rfl, hcs⟩
            obtain rfl := hcs.symm
            refine h61 _ _ ?_
            clear h61 K61
            refine awL_k rfl rfl fun K62 h62 => ?_
            simp (disch := omega) only [S0, step1, reduceIte, Nat.reduceEqDiff]
            refine h62 _ _ ?_
            clear h62 K62
            refine awL_k rfl rfl fun K63 h63 => ?_
            simp (disch := omega) only [S0, step1, reduceIte, Nat.reduceEqDiff, List.getD_cons_zero, PB]
            (((repeat' refine And.intro ?_ ?_); all_goals first | refine h63 _ _ ?_ | exact Nat.le_of_ble_eq_true rfl))
            clear h63 K63
            refine awL_k rfl rfl fun K64 h64 => ?_
            simp (disch := omega) only [S0, step1, reduceIte, Nat.reduceEqDiff, List.getD_cons_zero, List.getD_cons_succ, PB]
            (((repeat' refine And.intro ?_ ?_); all_goals first | refine h64 _ _ ?_ | exact Nat.le_of_ble_eq_true rfl))
            clear h64 K64
            refine awL_k rfl rfl fun K65 h65 => ?_
            simp (disch := omega) only [S0, step1, reduceIte, Nat.reduceEqDiff, List.getD_cons_zero, List.getD_cons_succ, PB]
            (((repeat' refine And.intro ?_ ?_); all_goals first | refine h65 _ _ ?_ | exact Nat.le_of_ble_eq_true rfl))
            clear h65 K65
            refine awL_k rfl rfl fun K66 h66 => ?_
            simp (disch := omega) only [S0, step1, reduceIte, Nat.reduceEqDiff]
            refine h66 _ _ ?_
            clear h66 K66
            refine awL_k rfl rfl fun K67 h67 => ?_
            simp (disch := omega) only [S0, step1, reduceIte, Nat.reduceEqDiff]
            refine h67 _ _ ?_
            clear h67 K67
            refine awL_k rfl rfl fun K68 h68 => ?_
            simp (disch := omega) only [S0, step1, reduceIte, Nat.reduceEqDiff]
            refine h68 _ _ ?_
            clear h68 K68
            refine hK55 _ _ ?_
            clear hK55 K55
            refine AW.region ?_
            refine awL_k rfl rfl fun K69 h69 => ?_
            simp (disch := omega) only [S0, step1, reduceIte, Nat.reduceEqDiff]
            refine h69 _ _ ?_
            clear h69 K69
            refine awL_k rfl rfl fun K70 h70 => ?_
            simp (disch := omega) only [S0, step1, reduceIte, Nat.reduceEqDiff]
            refine h70 _ _ ?_
            clear h70 K70
            refine awL_k rfl rfl fun K71 h71 => ?_
            simp (disch := omega) only [S0, step1, reduceIte, Nat.reduceEqDiff]
            refine h71 _ _ ?_
            clear h71 K71
            refine awL_k rfl rfl fun K72 h72 => ?_
            simp (disch := omega) only [S0, step1, reduceIte, Nat.reduceEqDiff]
            refine h72 _ _ ?_
            clear h72 K72
            refine awL_k rfl rfl fun K73 h73 => ?_
            simp (disch := omega) only [S0, step1, reduceIte, Nat.reduceEqDiff]
            refine h73 _ _ ?_
            clear h73 K73
            refine awL_k rfl rfl fun K74 h74 => ?_
            simp (disch := omega) only [S0, step1, reduceIte, Nat.reduceEqDiff, buildP, Tryd.plc91, Tryd.zro91, fillV, splice, S3, V.one, S1, Nat.reduceAdd, Nat.reduceLeDiff, PB]
            refine h74 _ _ ?_
            clear h74 K74
            refine awL_k rfl rfl fun K75 h75 => ?_
            simp (disch := omega) only [S0, step1, reduceIte, Nat.reduceEqDiff, buildSliceP, Tryd.elt49, S1, Nat.reduceLeDiff, Nat.reduceMul, S2, V.bare, V.bare.bareL, PB]
            (refine ⟨(by decide), (by ((simp; done))), (by repeat first | exact parts_nil | refine parts_cons ⟨by rfl, by rfl, (by repeat first | exact PureL.nil | refine PureL.cons (by first | exact PureV.int _ _ | exact PureV.bool _) ?_)⟩ ?_), h75 _ _ ?_⟩)
            clear h75 K75
            refine awL_k rfl rfl fun K76 h76 => ?_
            simp (disch := omega) only [S0, step1, reduceIte, Nat.reduceEqDiff, appendP, rowOf, Tryd.elt49, S1, S2, PB]
            (refine ⟨(by repeat first | exact els_nil | refine els_cons (by rfl) ?_), (by omega), (by ((simp only [maxLen]; omega))), h76 _ _ ?_⟩)
            clear h76 K76
            refine awL_k rfl rfl fun K77 h77 => ?_
            simp (disch := omega) only [S0, step1, reduceIte, Nat.reduceEqDiff]
            refine h77 _ _ ?_
            clear h77 K77
            refine hK25 _ _ ?_
            clear hK25 K25
            refine AW.region ?_
            refine awL_k rfl rfl fun K78 h78 => ?_
            simp (disch := omega) only [S0, step1, reduceIte, Nat.reduceEqDiff]
            refine h78 _ _ ?_
            clear h78 K78
            refine awL_k rfl rfl fun K79 h79 => ?_
            simp (disch := omega) only [S0, step1, Nat.reduceEqDiff, isNilC, Bool.false_eq_true, binP, intP, true_and, if_true, if_false, PB, KB]
            refine h79 _ _ ?_
            clear h79 K79
            refine awL_k rfl rfl fun K80 h80 => ?_
            simp (disch := omega) only [S0, step1, reduceIte, Nat.reduceEqDiff]
            refine h80 _ _ ?_
            clear h80 K80
            have hp := partL_some (n := l.length) (rxAt_some hlt hltk (by omega) (by assumption) (by assumption))
            refine ⟨⟨k + 1, by omega⟩, by simp only []; omega, _, Nat.le_refl _, Nat.le_of_ble_eq_true rfl, ⟨V.le_of_eq (by rw [Env.trim_get]; simp only [S0, reduceIte, Nat.reduceEqDiff, V.trim] <;> first | rfl | (rw [if_pos (by simp)]; done) | (simp; done)), V.le_of_eq (by rw [Env.trim_get]; simp only [S0, reduceIte, Nat.reduceEqDiff, V.trim, hp, List.map_append, List.map_cons, List.map_nil]; ((rw [if_pos (by simp)]; rfl))), V.le_of_eq (by rw [Env.trim_get]; simp only [S0, reduceIte, Nat.reduceEqDiff, V.trim] <;> first | rfl | (rw [if_pos (by simp)]; done) | (simp; done)), V.le_of_eq (by rw [Env.trim_get]; simp only [S0, reduceIte, Nat.reduceEqDiff, V.trim] <;> rfl), trivial⟩, StLe.of_eq (by simp only [hp]; ((rw [trimS_app hst (by simp)]; simp [O.trim])))⟩
          · skip
            skip
            refine AW.skip ?_
            refine hK25 _ _ ?_
            clear hK25 K25
            refine AW.region ?_
            refine awL_k rfl rfl fun K81 h81 => ?_
            simp (disch := omega) only [S0, step1, reduceIte, Nat.reduceEqDiff]
            refine h81 _ _ ?_
            clear h81 K81
            refine awL_k rfl rfl fun K82 h82 => ?_
            simp (disch := omega) only [S0, step1, Nat.reduceEqDiff, isNilC, Bool.false_eq_true, binP, intP, true_and, if_true, if_false, KB]
            refine h82 _ _ ?_
            clear h82 K82
            refine awL_k rfl rfl fun K83 h83 => ?_
            simp (disch := omega) only [S0, step1, reduceIte, Nat.reduceEqDiff]
            refine h83 _ _ ?_
            clear h83 K83
            have hp := partL_none (n := l.length) (rxAt_none hlt hltk (.inr (.inr (by assumption))))
            refine ⟨⟨k + 1, by omega⟩, by simp only []; omega, _, Nat.le_refl _, Nat.le_of_ble_eq_true rfl, ⟨V.le_of_eq (by rw [Env.trim_get]; simp only [S0, reduceIte, Nat.reduceEqDiff, V.trim] <;> first | rfl | (rw [if_pos (by simp)]; done) | (simp; done)), V.le_of_eq (by rw [Env.trim_get]; simp only [S0, reduceIte, Nat.reduceEqDiff, V.trim, hp]; ((rw [if_pos (by simp)]; done))), V.le_of_eq (by rw [Env.trim_get]; simp only [S0, reduceIte, Nat.reduceEqDiff, V.trim] <;> first | rfl | (rw [if_pos (by simp)]; done) | (simp; done)), V.le_of_eq (by rw [Env.trim_get]; simp only [S0, reduceIte, Nat.reduceEqDiff, V.trim] <;> rfl), trivial⟩, StLe.of_eq (by simp only [hp]; exact hlc.trim)⟩
        · rw [hg43]
          skip
          refine awA_no rfl rfl rfl rfl ?_
          refine awA_no rfl rfl rfl rfl ?_
          refine awA_no rfl rfl rfl rfl ?_
          refine awA_no rfl rfl rfl rfl ?_
          refine awA_no rfl rfl rfl rfl ?_
          refine awA_no rfl rfl rfl rfl ?_
          refine awA_no rfl rfl rfl rfl ?_
          refine awA_no rfl rfl rfl rfl ?_
          show awA _ _ _ [] _ _ _ _
          simp only [awA, applyUps, S2]
          show awL _ _ _ _ _ _ _
          refine awL_no rfl rfl rfl rfl ?_
          refine awL_k rfl rfl fun K84 h84 => ?_
          simp (disch := omega) only [S0, step1, reduceIte, Nat.reduceEqDiff]
          refine h84 _ _ ?_
          clear h84 K84
          refine hK26 _ _ ?_
          clear hK26 K26
          refine AW.condK _ rfl (fun hb85 => ?_) (fun hb85 => ?_)
          · skip
            cases hb85
          · skip
            refine AW.skip ?_
            refine hK25 _ _ ?_
            clear hK25 K25
            refine AW.region ?_
            refine awL_k rfl rfl fun K86 h86 => ?_
            simp (disch := omega) only [S0, step1, reduceIte, Nat.reduceEqDiff]
            refine h86 _ _ ?_
            clear h86 K86
            refine awL_k rfl rfl fun K87 h87 => ?_
            simp (disch := omega) only [S0, step1, Nat.reduceEqDiff, isNilC, Bool.false_eq_true, binP, intP, true_and, if_true, if_false, KB]
            refine h87 _ _ ?_
            clear h87 K87
            refine awL_k rfl rfl fun K88 h88 => ?_
            simp (disch := omega) only [S0, step1, reduceIte, Nat.reduceEqDiff]
            refine h88 _ _ ?_
            clear h88 K88
            have hp := partL_none (n := l.length) (rxAt_none hlt hltk (.inr (.inl (by assumption))))
            refine ⟨⟨k + 1, by omega⟩, by simp only []; omega, _, Nat.le_refl _, Nat.le_of_ble_eq_true rfl, ⟨V.le_of_eq (by rw [Env.trim_get]; simp only [S0, reduceIte, Nat.reduceEqDiff, V.trim] <;> first | rfl | (rw [if_pos (by simp)]; done) | (simp; done)), V.le_of_eq (by rw [Env.trim_get]; simp only [S0, reduceIte, Nat.reduceEqDiff, V.trim, hp]; ((rw [if_pos (by simp)]; done))), V.le_of_eq (by rw [Env.trim_get]; simp only [S0, reduceIte, Nat.reduceEqDiff, V.trim] <;> first | rfl | (rw [if_pos (by simp)]; done) | (simp; done)), V.le_of_eq (by rw [Env.trim_get]; simp only [S0, reduceIte, Nat.reduceEqDiff, V.trim] <;> rfl), trivial⟩, StLe.of_eq (by simp only [hp]; exact hlc.trim)⟩
      · rw [hg31]
        simp only [decide_eq_false_iff_not, ne_eq, Decidable.not_not] at hg31
        refine awA_no rfl rfl rfl rfl ?_
        refine awA_no rfl rfl rfl rfl ?_
        refine awA_no rfl rfl rfl rfl ?_
        refine awA_no rfl rfl rfl rfl ?_
        refine awA_no rfl rfl rfl rfl ?_
        refine awA_no rfl rfl rfl rfl ?_
        refine awA_no rfl rfl rfl rfl ?_
        refine awA_no rfl rfl rfl rfl ?_
        refine awA_no rfl rfl rfl rfl ?_
        refine awA_c rfl rfl rfl fun K89 h89 => ?_
        simp (disch := omega) only [S0, step1, reduceIte, Nat.reduceEqDiff]
        refine h89 _ _ rfl ?_
        clear h89 K89
        refine awA_c rfl rfl rfl fun K90 h90 => ?_
        simp (disch := omega) only [S0, step1, reduceIte, Nat.reduceEqDiff]
        refine h90 _ _ rfl ?_
        clear h90 K90
        refine awA_no rfl rfl rfl rfl ?_
        refine awA_no rfl rfl rfl rfl ?_
        refine awA_no rfl rfl rfl rfl ?_
        refine awA_no rfl rfl rfl rfl ?_
        refine awA_no rfl rfl rfl rfl ?_
        refine awA_no rfl rfl rfl rfl ?_
        refine awA_no rfl rfl rfl rfl ?_
        refine awA_no rfl rfl rfl rfl ?_
        show awA _ _ _ [] _ _ _ _
        simp only [awA, applyUps, S2]
        show awL _ _ _ _ _ _ _
        refine awL_no rfl rfl rfl rfl ?_
        refine awL_k rfl rfl fun K91 h91 => ?_
        simp (disch := omega) only [S0, step1, reduceIte, Nat.reduceEqDiff]
        refine h91 _ _ ?_
        clear h91 K91
        refine hK26 _ _ ?_
        clear hK26 K26
        refine AW.condK _ rfl (fun hb92 => ?_) (fun hb92 => ?_)
        · skip
          cases hb92
        · skip
          refine AW.skip ?_
          refine hK25 _ _ ?_
          clear hK25 K25
          refine AW.region ?_
          refine awL_k rfl rfl fun K93 h93 => ?_
          simp (disch := omega) only [S0, step1, reduceIte, Nat.reduceEqDiff]
          refine h93 _ _ ?_
          clear h93 K93
          refine awL_k rfl rfl fun K94 h94 => ?_
          simp (disch := omega) only [S0, step1, Nat.reduceEqDiff, isNilC, Bool.false_eq_true, binP, intP, true_and, if_true, if_false, KB]
          refine h94 _ _ ?_
          clear h94 K94
          refine awL_k rfl rfl fun K95 h95 => ?_
          simp (disch := omega) only [S0, step1, reduceIte, Nat.reduceEqDiff]
          refine h95 _ _ ?_
          clear h95 K95
          have hp := partL_none (n := l.length) (rxAt_none hlt hltk (.inl (by omega)))
          refine ⟨⟨k + 1, by omega⟩, by simp only []; omega, _, Nat.le_refl _, Nat.le_of_ble_eq_true rfl, ⟨V.le_of_eq (by rw [Env.trim_get]; simp only [S0, reduceIte, Nat.reduceEqDiff, V.trim] <;> first | rfl | (rw [if_pos (by simp)]; done) | (simp; done)), V.le_of_eq (by rw [Env.trim_get]; simp only [S0, reduceIte, Nat.reduceEqDiff, V.trim, hp]; ((rw [if_pos (by simp)]; done))), V.le_of_eq (by rw [Env.trim_get]; simp only [S0, reduceIte, Nat.reduceEqDiff, V.trim] <;> first | rfl | (rw [if_pos (by simp)]; done) | (simp; done)), V.le_of_eq (by rw [Env.trim_get]; simp only [S0, reduceIte, Nat.reduceEqDiff, V.trim] <;> rfl), trivial⟩, StLe.of_eq (by simp only [hp]; exact hlc.trim)⟩
    · skip
      simp only [decide_eq_false_iff_not, Int.ofNat_lt] at hb24
      refine AW.exit ?_
      refine hK15 _ _ ?_
      refine AW.region ?_
      refine awL_k rfl rfl fun K96 h96 => ?_
      simp (disch := omega) only [S0, step1, reduceIte, Nat.reduceEqDiff]
      refine h96 _ _ ?_
      clear h96 K96
      refine awL_k rfl rfl fun K97 h97 => ?_
      simp (disch := omega) only [S0, step1, Nat.reduceEqDiff, isNilC, Bool.false_eq_true, binP, intP, true_and, if_true, if_false, KB]
      refine h97 _ _ ?_
      clear h97 K97
      refine awL_k rfl rfl fun K98 h98 => ?_
      simp (disch := omega) only [S0, step1, reduceIte, Nat.reduceEqDiff]
      refine h98 _ _ ?_
      clear h98 K98
      have hkn : k = l.length := by omega
      refine ⟨⟨i + 1, by omega⟩, by simp only []; omega, _, Nat.le_refl _, Nat.le_of_ble_eq_true rfl, ⟨V.le_of_eq (by rw [Env.trim_get]; simp only [S0, reduceIte, Nat.reduceEqDiff, V.trim] <;> first | rfl | (rw [if_pos (by simp)]; done) | (simp; done)), V.le_of_eq (by rw [Env.trim_get]; subst hkn; simp only [S0, reduceIte, Nat.reduceEqDiff, V.trim, partL_turn]; rw [if_pos (by simp)]), V.le_of_eq (by rw [Env.trim_get]; simp only [S0, reduceIte, Nat.reduceEqDiff, V.trim] <;> rfl), trivial⟩, StLe.of_eq (by subst hkn; rw [trimS_app hst (by simp)]; simp [O.trim, partL_turn])⟩
  · skip
    simp only [decide_eq_false_iff_not, Int.ofNat_lt] at hb14
    have hge : i = l.length := by omega
    refine AW.exit ?_
    refine hK5 _ _ ?_
    refine AW.seqK fun K99 hK99 => ?_
    refine AW.region ?_
    refine awL_k rfl rfl fun K100 h100 => ?_
    simp (disch := omega) only [S0, step1, reduceIte, Nat.reduceEqDiff]
    refine h100 _ _ ?_
    clear h100 K100
    refine awL_k rfl rfl fun K101 h101 => ?_
    simp (disch := omega) only [S0, step1, reduceIte, Nat.reduceEqDiff]
    refine h101 _ _ ?_
    clear h101 K101
    refine hK99 _ _ ?_
    clear hK99 K99
    refine AW.ret ?_
    show (_ ∨ _) ∧ _
    refine ⟨.inr rfl, ?_⟩
    show resP _ _ _ [.tmp 2] _
    simp only [resP, resV, V.trim, S0, reduceIte, Nat.reduceEqDiff]
    refine ⟨_, _, _, Nat.le_refl _, V.le_refl _ _, StLe.refl _, ?_⟩
    exact ⟨by subst hge; rw [partL_end, if_neg (Nat.lt_irrefl _)]; rfl, hst.trim_append _⟩
end Tryd
end Go.Proofs
