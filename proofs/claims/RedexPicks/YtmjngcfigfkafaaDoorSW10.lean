/-
  Walks of the names, the endpoints, the redexes.
-/
import Derived.Test.YtmjngcfigfkafaaDoorSLib
import Derived.Test.YtmjngcfigfkafaaDoorSFacts
import Derived.Test.YtmjngcfigfkafaaDoorDAwake
import Derived.Test.YtmjngcfigfkafaaDoorDBund
import Derived.Test.YtmjngcfigfkafaaDoorDKit
import Derived.Test.YtmjngcfigfkafaaDoorSW9
set_option linter.all false
namespace Go.Proofs
open Go Go.Duo
namespace Tryd

set_option maxHeartbeats 8000000 in
theorem picks_spec (l : List Rx) (n : Int) (st : List O) : Duo.Call Tryd.prog Tryd.gl 6 [.sl (l.map encR) none, .int .i64 n] st (fun v st' => v = .bool true ∧ st' = st) := by
  refine Duo.Call.clo fun hst => ?_
  refine Duo.Call.real fun hr => ?_
  have hl : l.length ≤ 9223372036854775807 := (hr (.sl (l.map encR) none) (by simp) (PureV.sl _ _)).row
  refine Duo.Call.body 61 [(0, .sl (l.map encR) none), (1, .int .i64 n)] Tryd.func6 rfl rfl ?_
  refine AW.seqK fun K1 hK1 => ?_
  refine AW.region ?_
  refine awL_k rfl rfl fun K2 h2 => ?_
  simp (disch := omega) only [S0, step1, reduceIte, Nat.reduceEqDiff]
  refine h2 _ _ ?_
  clear h2 K2
  refine hK1 _ _ ?_
  try clear hK1 K1
  refine AW.seqK fun K3 hK3 => ?_
  refine AW.seqK fun K4 hK4 => ?_
  refine AW.region ?_
  refine awL_k rfl rfl fun K5 h5 => ?_
  show ent _ _ = true ∧ _
  try simp only [S0, reduceIte, Nat.reduceEqDiff, encR_inj, encR_cells, List.take_succ_cons, List.take_zero, Option.toList, List.map, List.nil_append, List.append_nil, List.singleton_append, List.cons_append, List.toList_toArray]
  refine ⟨Tryd.ent16, Duo.Call.mono (awake_spec _) ?_⟩
  rintro _ _ ⟨rfl, hcs⟩
  obtain rfl := hcs.symm
  refine h5 _ _ ?_
  clear h5 K5
  refine awL_k rfl rfl fun K6 h6 => ?_
  simp (disch := omega) only [S0, step1, reduceIte, Nat.reduceEqDiff, unP, encR_inj, encR_cells, List.take_succ_cons, List.take_zero, KB]
  first | refine h6 _ _ ?_ | ((repeat' refine And.intro ?_ ?_); all_goals first | refine h6 _ _ ?_ | omega | rfl | exact Nat.le_of_ble_eq_true rfl | (simp only [List.length_append, List.length_cons, List.length_nil]; omega) | (simp; done) | (simp; omega))
  clear h6 K6
  refine awL_k rfl rfl fun K7 h7 => ?_
  simp (disch := omega) only [S0, step1, reduceIte, Nat.reduceEqDiff]
  refine h7 _ _ ?_
  clear h7 K7
  refine awL_kyes rfl rfl rfl rfl fun K8 h8 => ?_
  simp (disch := omega) only [S0, step1, reduceIte, Nat.reduceEqDiff]
  refine h8 _ _ ?_
  clear h8 K8
  refine awL_kyes rfl rfl rfl rfl fun K9 h9 => ?_
  simp (disch := omega) only [S0, step1, reduceIte, Nat.reduceEqDiff, lenP, Tryd.elt47, Option.isSome, true_and, S1, Nat.reduceAdd, Nat.reduceLeDiff, Nat.reduceMul, Nat.reduceSub, S2, encR_inj, encR_cells, List.take_succ_cons, List.take_zero, KB]
  first | refine h9 _ _ ?_ | ((repeat' refine And.intro ?_ ?_); all_goals first | refine h9 _ _ ?_ | omega | rfl | exact Nat.le_of_ble_eq_true rfl | (simp only [List.length_append, List.length_cons, List.length_nil]; omega) | (simp; done) | (simp; omega))
  clear h9 K9
  refine awL_kyes rfl rfl rfl rfl fun K10 h10 => ?_
  simp (disch := omega) only [S0, step1, reduceIte, Nat.reduceEqDiff, isNilC, Bool.false_eq_true, binP, intP, strP, and_true, true_and, if_true, if_false, encR_inj, encR_cells, List.take_succ_cons, List.take_zero, KB]
  first | refine h10 _ _ ?_ | ((repeat' refine And.intro ?_ ?_); all_goals first | refine h10 _ _ ?_ | omega | rfl | exact Nat.le_of_ble_eq_true rfl | (simp only [List.length_append, List.length_cons, List.length_nil]; omega) | (simp; done) | (simp; omega))
  clear h10 K10
  refine awL_k rfl rfl fun K11 h11 => ?_
  simp (disch := omega) only [S0, step1, reduceIte, Nat.reduceEqDiff]
  refine h11 _ _ ?_
  clear h11 K11
  refine hK4 _ _ ?_
  try clear hK4 K4
  refine AW.condK _ rfl (fun hb12 => ?_) (fun hb12 => ?_)
  · skip
    try simp only [decide_eq_true_eq, decide_eq_false_iff_not, Bool.not_eq_true, Bool.not_eq_false, Bool.not_eq_true', Bool.not_eq_false', Int.not_lt, Int.not_le, ne_eq, Decidable.not_not, List.length_map, Bool.and_eq_true, Bool.or_eq_true, Bool.and_eq_false_imp, Int.ofNat_lt, Int.ofNat_le] at hb12
    refine AW.seqK fun K13 hK13 => ?_
    refine AW.region ?_
    refine awL_k rfl rfl fun K14 h14 => ?_
    show ent _ _ = true ∧ _
    try simp only [S0, reduceIte, Nat.reduceEqDiff, encR_inj, encR_cells, List.take_succ_cons, List.take_zero, Option.toList, List.map, List.nil_append, List.append_nil, List.singleton_append, List.cons_append, List.toList_toArray]
    refine ⟨Tryd.ent16, Duo.Call.mono (awake_spec _) ?_⟩
    rintro _ _ ⟨rfl, hcs⟩
    obtain rfl := hcs.symm
    refine h14 _ _ ?_
    clear h14 K14
    refine awL_k rfl rfl fun K15 h15 => ?_
    simp (disch := omega) only [S0, step1, reduceIte, Nat.reduceEqDiff]
    refine h15 _ _ ?_
    clear h15 K15
    refine hK13 _ _ ?_
    try clear hK13 K13
    refine AW.ret ?_
    show (_ ∨ _) ∧ _
    refine ⟨.inr rfl, ?_⟩
    show resP _ _ _ [.tmp 4] _
    simp only [resP, resV, V.trim, V.trim.trimL, S0, reduceIte, Nat.reduceEqDiff]
    refine ⟨_, _, _, Nat.le_refl _, V.le_refl _ _, StLe.refl _, ?_⟩
    exact ⟨by first | rfl | (simp_all; done), by first | exact hst.trim | exact hst.trim_append _⟩
  · skip
    try simp only [decide_eq_true_eq, decide_eq_false_iff_not, Bool.not_eq_true, Bool.not_eq_false, Bool.not_eq_true', Bool.not_eq_false', Int.not_lt, Int.not_le, ne_eq, Decidable.not_not, List.length_map, Bool.and_eq_true, Bool.or_eq_true, Bool.and_eq_false_imp, Int.ofNat_lt, Int.ofNat_le] at hb12
    refine AW.skip ?_
    refine hK3 _ _ ?_
    try clear hK3 K3
    refine AW.seqK fun K16 hK16 => ?_
    refine AW.region ?_
    refine awL_k rfl rfl fun K17 h17 => ?_
    simp (disch := omega) only [S0, step1, reduceIte, Nat.reduceEqDiff]
    refine h17 _ _ ?_
    clear h17 K17
    refine awL_k rfl rfl fun K18 h18 => ?_
    simp (disch := omega) only [S0, step1, reduceIte, Nat.reduceEqDiff]
    refine h18 _ _ ?_
    clear h18 K18
    refine awL_k rfl rfl fun K19 h19 => ?_
    show ent _ _ = true ∧ _
    try simp only [S0, reduceIte, Nat.reduceEqDiff, encR_inj, encR_cells, List.take_succ_cons, List.take_zero, Option.toList, List.map, List.nil_append, List.append_nil, List.singleton_append, List.cons_append, List.toList_toArray]
    refine ⟨Tryd.ent29, Duo.Call.mono (ppick_spec _ _ (by omega) _) ?_⟩
    rintro _ _ ⟨rfl, hcs⟩
    obtain rfl := hcs.symm
    refine h19 _ _ ?_
    clear h19 K19
    refine awL_k rfl rfl fun K20 h20 => ?_
    simp (disch := omega) only [S0, step1, reduceIte, Nat.reduceEqDiff]
    refine h20 _ _ ?_
    clear h20 K20
    refine awL_k rfl rfl fun K21 h21 => ?_
    simp (disch := omega) only [S0, step1, reduceIte, Nat.reduceEqDiff, List.getD_cons_zero, List.getD_cons_succ, encR_inj, encR_cells, List.take_succ_cons, List.take_zero, KB]
    first | refine h21 _ _ ?_ | ((repeat' refine And.intro ?_ ?_); all_goals first | refine h21 _ _ ?_ | omega | rfl | exact Nat.le_of_ble_eq_true rfl | (simp only [List.length_append, List.length_cons, List.length_nil]; omega) | (simp; done) | (simp; omega))
    clear h21 K21
    refine awL_k rfl rfl fun K22 h22 => ?_
    simp (disch := omega) only [S0, step1, reduceIte, Nat.reduceEqDiff, List.getD_cons_zero, List.getD_cons_succ, encR_inj, encR_cells, List.take_succ_cons, List.take_zero, KB]
    first | refine h22 _ _ ?_ | ((repeat' refine And.intro ?_ ?_); all_goals first | refine h22 _ _ ?_ | omega | rfl | exact Nat.le_of_ble_eq_true rfl | (simp only [List.length_append, List.length_cons, List.length_nil]; omega) | (simp; done) | (simp; omega))
    clear h22 K22
    refine awL_k rfl rfl fun K23 h23 => ?_
    simp (disch := omega) only [S0, step1, reduceIte, Nat.reduceEqDiff, Tryd.zro68, S2, encR_inj, encR_cells, List.take_succ_cons, List.take_zero, KB]
    first | refine h23 _ _ ?_ | ((repeat' refine And.intro ?_ ?_); all_goals first | refine h23 _ _ ?_ | omega | rfl | exact Nat.le_of_ble_eq_true rfl | (simp only [List.length_append, List.length_cons, List.length_nil]; omega) | (simp; done) | (simp; omega))
    clear h23 K23
    refine awL_k rfl rfl fun K24 h24 => ?_
    simp (disch := omega) only [S0, step1, reduceIte, Nat.reduceEqDiff, storeP, Tryd.lay68, splice, S3, V.one, S1, Nat.reduceAdd, Nat.reduceLeDiff, Nat.reduceMul, Nat.reduceSub, S2, encR_inj, encR_cells, List.take_succ_cons, List.take_zero, KB]
    first | refine h24 _ _ ?_ | ((repeat' refine And.intro ?_ ?_); all_goals first | refine h24 _ _ ?_ | omega | rfl | exact Nat.le_of_ble_eq_true rfl | (simp only [List.length_append, List.length_cons, List.length_nil]; omega) | (simp; done) | (simp; omega))
    clear h24 K24
    refine awL_k rfl rfl fun K25 h25 => ?_
    simp (disch := omega) only [S0, step1, reduceIte, Nat.reduceEqDiff]
    refine h25 _ _ ?_
    clear h25 K25
    refine hK16 _ _ ?_
    try clear hK16 K16
    refine AW.seqK fun K26 hK26 => ?_
    refine AW.region ?_
    refine awL_k rfl rfl fun K27 h27 => ?_
    simp (disch := omega) only [S0, step1, reduceIte, Nat.reduceEqDiff]
    refine h27 _ _ ?_
    clear h27 K27
    refine awL_k rfl rfl fun K28 h28 => ?_
    simp (disch := omega) only [S0, step1, reduceIte, Nat.reduceEqDiff, lenP, Tryd.elt47, Option.isSome, true_and, S1, Nat.reduceAdd, Nat.reduceLeDiff, Nat.reduceMul, Nat.reduceSub, S2, encR_inj, encR_cells, List.take_succ_cons, List.take_zero, KB]
    first | refine h28 _ _ ?_ | ((repeat' refine And.intro ?_ ?_); all_goals first | refine h28 _ _ ?_ | omega | rfl | exact Nat.le_of_ble_eq_true rfl | (simp only [List.length_append, List.length_cons, List.length_nil]; omega) | (simp; done) | (simp; omega))
    clear h28 K28
    refine awL_k rfl rfl fun K29 h29 => ?_
    simp (disch := omega) only [S0, step1, reduceIte, Nat.reduceEqDiff]
    refine h29 _ _ ?_
    clear h29 K29
    refine awL_k rfl rfl fun K30 h30 => ?_
    show ent _ _ = true ∧ _
    try simp only [S0, reduceIte, Nat.reduceEqDiff, encR_inj, encR_cells, List.take_succ_cons, List.take_zero, Option.toList, List.map, List.nil_append, List.append_nil, List.singleton_append, List.cons_append, List.toList_toArray]
    refine ⟨Tryd.ent30, Duo.Call.mono (rpick_spec _ _ (by omega) _) ?_⟩
    rintro _ _ ⟨rfl, hcs⟩
    obtain rfl := hcs.symm
    refine h30 _ _ ?_
    clear h30 K30
    refine awL_k rfl rfl fun K31 h31 => ?_
    simp (disch := omega) only [S0, step1, reduceIte, Nat.reduceEqDiff]
    refine h31 _ _ ?_
    clear h31 K31
    refine hK26 _ _ ?_
    try clear hK26 K26
    refine AW.seqK fun K32 hK32 => ?_
    refine AW.seqK fun K33 hK33 => ?_
    refine AW.region ?_
    refine awL_k rfl rfl fun K34 h34 => ?_
    simp (disch := omega) only [S0, step1, reduceIte, Nat.reduceEqDiff]
    refine h34 _ _ ?_
    clear h34 K34
    refine awL_k rfl rfl fun K35 h35 => ?_
    simp (disch := omega) only [S0, step1, reduceIte, Nat.reduceEqDiff, isNilC, Bool.false_eq_true, binP, intP, strP, and_true, true_and, if_true, if_false, encR_inj, encR_cells, List.take_succ_cons, List.take_zero, KB]
    first | refine h35 _ _ ?_ | ((repeat' refine And.intro ?_ ?_); all_goals first | refine h35 _ _ ?_ | omega | rfl | exact Nat.le_of_ble_eq_true rfl | (simp only [List.length_append, List.length_cons, List.length_nil]; omega) | (simp; done) | (simp; omega))
    clear h35 K35
    refine hK33 _ _ ?_
    try clear hK33 K33
    refine AW.condK _ rfl (fun hb36 => ?_) (fun hb36 => ?_)
    · skip
      try simp only [decide_eq_true_eq, decide_eq_false_iff_not, Bool.not_eq_true, Bool.not_eq_false, Bool.not_eq_true', Bool.not_eq_false', Int.not_lt, Int.not_le, ne_eq, Decidable.not_not, List.length_map, Bool.and_eq_true, Bool.or_eq_true, Bool.and_eq_false_imp, Int.ofNat_lt, Int.ofNat_le] at hb36
      have hz := pickI_zero hb36
      refine AW.seqK fun K37 hK37 => ?_
      refine AW.region ?_
      refine awL_k rfl rfl fun K38 h38 => ?_
      simp (disch := omega) only [S0, step1, reduceIte, Nat.reduceEqDiff]
      refine h38 _ _ ?_
      clear h38 K38
      refine awL_k rfl rfl fun K39 h39 => ?_
      simp (disch := omega) only [S0, step1, reduceIte, Nat.reduceEqDiff, unP, encR_inj, encR_cells, List.take_succ_cons, List.take_zero, KB]
      first | refine h39 _ _ ?_ | ((repeat' refine And.intro ?_ ?_); all_goals first | refine h39 _ _ ?_ | omega | rfl | exact Nat.le_of_ble_eq_true rfl | (simp only [List.length_append, List.length_cons, List.length_nil]; omega) | (simp; done) | (simp; omega))
      clear h39 K39
      refine awL_k rfl rfl fun K40 h40 => ?_
      simp (disch := omega) only [S0, step1, reduceIte, Nat.reduceEqDiff]
      refine h40 _ _ ?_
      clear h40 K40
      refine awL_case 32 rfl (fun hg41 => ?_) (fun hg41 => ?_)
      · rw [hg41]
        try simp only [decide_eq_true_eq, decide_eq_false_iff_not, Bool.not_eq_true, Bool.not_eq_false, Bool.not_eq_true', Bool.not_eq_false', Int.not_lt, Int.not_le, ne_eq, Decidable.not_not, List.length_map, Bool.and_eq_true, Bool.or_eq_true, Bool.and_eq_false_imp, Int.ofNat_lt, Int.ofNat_le] at hg41
        skip
        refine awL_kyes rfl rfl rfl rfl fun K42 h42 => ?_
        simp (disch := omega) only [S0, step1, reduceIte, Nat.reduceEqDiff, loadP, Tryd.lay68, pack, S1, Nat.reduceAdd, Nat.reduceLeDiff, Nat.reduceMul, Nat.reduceSub, S2, encR_inj, encR_cells, List.take_succ_cons, List.take_zero, KB]
        first | refine h42 _ _ ?_ | ((repeat' refine And.intro ?_ ?_); all_goals first | refine h42 _ _ ?_ | omega | rfl | exact Nat.le_of_ble_eq_true rfl | (simp only [List.length_append, List.length_cons, List.length_nil]; omega) | (simp; done) | (simp; omega))
        clear h42 K42
        refine awL_kyes rfl rfl rfl rfl fun K43 h43 => ?_
        simp (disch := omega) only [S0, step1, reduceIte, Nat.reduceEqDiff, List.toList_toArray, Option.some.injEq, buildP, Tryd.plc68, Tryd.zro68, fillV, splice, S3, V.one, S1, Nat.reduceAdd, Nat.reduceLeDiff, Nat.reduceMul, Nat.reduceSub, encR_inj, encR_cells, List.take_succ_cons, List.take_zero, KB]
        first | refine h43 _ _ ?_ | ((repeat' refine And.intro ?_ ?_); all_goals first | refine h43 _ _ ?_ | omega | rfl | exact Nat.le_of_ble_eq_true rfl | (simp only [List.length_append, List.length_cons, List.length_nil]; omega) | (simp; done) | (simp; omega))
        clear h43 K43
        refine awL_kyes rfl rfl rfl rfl fun K44 h44 => ?_
        simp (disch := omega) only [S0, step1, reduceIte, Nat.reduceEqDiff, isNilC, Bool.false_eq_true, binP, intP, strP, and_true, true_and, if_true, if_false, eqP, Tryd.seq68, cmpL, cmpV, encR_inj, encR_cells, List.take_succ_cons, List.take_zero, KB]
        first | refine h44 _ _ ?_ | ((repeat' refine And.intro ?_ ?_); all_goals first | refine h44 _ _ ?_ | omega | rfl | exact Nat.le_of_ble_eq_true rfl | (simp only [List.length_append, List.length_cons, List.length_nil]; omega) | (simp; done) | (simp; omega))
        clear h44 K44
        refine awL_k rfl rfl fun K45 h45 => ?_
        simp (disch := omega) only [S0, step1, reduceIte, Nat.reduceEqDiff]
        refine h45 _ _ ?_
        clear h45 K45
        refine awL_k rfl rfl fun K46 h46 => ?_
        simp (disch := omega) only [S0, step1, reduceIte, Nat.reduceEqDiff]
        refine h46 _ _ ?_
        clear h46 K46
        refine hK37 _ _ ?_
        try clear hK37 K37
        refine AW.ret ?_
        show (_ ∨ _) ∧ _
        refine ⟨.inr rfl, ?_⟩
        show resP _ _ _ [.tmp 4] _
        simp only [resP, resV, V.trim, V.trim.trimL, S0, reduceIte, Nat.reduceEqDiff]
        refine ⟨_, _, _, Nat.le_refl _, V.le_refl _ _, StLe.refl _, ?_⟩
        exact ⟨by subst hz; rfl, by first | exact hst.trim | exact hst.trim_append _⟩
      · rw [hg41]
        try simp only [decide_eq_true_eq, decide_eq_false_iff_not, Bool.not_eq_true, Bool.not_eq_false, Bool.not_eq_true', Bool.not_eq_false', Int.not_lt, Int.not_le, ne_eq, Decidable.not_not, List.length_map, Bool.and_eq_true, Bool.or_eq_true, Bool.and_eq_false_imp, Int.ofNat_lt, Int.ofNat_le] at hg41
        exact absurd hz hg41 --#dead
    · skip
      try simp only [decide_eq_true_eq, decide_eq_false_iff_not, Bool.not_eq_true, Bool.not_eq_false, Bool.not_eq_true', Bool.not_eq_false', Int.not_lt, Int.not_le, ne_eq, Decidable.not_not, List.length_map, Bool.and_eq_true, Bool.or_eq_true, Bool.and_eq_false_imp, Int.ofNat_lt, Int.ofNat_le] at hb36
      obtain ⟨hne, hk1, hk2⟩ := pickI_lt hb36
      have hr1 := pickR_at hb36 (by omega)
      have hr2 := pickR_add hb36
      refine AW.skip ?_
      refine hK32 _ _ ?_
      try clear hK32 K32
      refine AW.seqK fun K47 hK47 => ?_
      refine AW.region ?_
      refine awL_k rfl rfl fun K48 h48 => ?_
      simp (disch := omega) only [S0, step1, reduceIte, Nat.reduceEqDiff]
      refine h48 _ _ ?_
      clear h48 K48
      refine awL_k rfl rfl fun K49 h49 => ?_
      simp (disch := omega) only [S0, step1, reduceIte, Nat.reduceEqDiff]
      refine h49 _ _ ?_
      clear h49 K49
      refine awL_k rfl rfl fun K50 h50 => ?_
      simp (disch := omega) only [S0, step1, reduceIte, Nat.reduceEqDiff]
      refine h50 _ _ ?_
      clear h50 K50
      refine awL_k rfl rfl fun K51 h51 => ?_
      simp (disch := omega) only [S0, step1, reduceIte, Nat.reduceEqDiff, lenP, Tryd.elt47, Option.isSome, true_and, S1, Nat.reduceAdd, Nat.reduceLeDiff, Nat.reduceMul, Nat.reduceSub, S2, encR_inj, encR_cells, List.take_succ_cons, List.take_zero, KB]
      first | refine h51 _ _ ?_ | ((repeat' refine And.intro ?_ ?_); all_goals first | refine h51 _ _ ?_ | omega | rfl | exact Nat.le_of_ble_eq_true rfl | (simp only [List.length_append, List.length_cons, List.length_nil]; omega) | (simp; done) | (simp; omega))
      clear h51 K51
      refine awL_k rfl rfl fun K52 h52 => ?_
      simp (disch := omega) only [S0, step1, reduceIte, Nat.reduceEqDiff, isNilC, Bool.false_eq_true, binP, intP, strP, and_true, true_and, if_true, if_false, encR_inj, encR_cells, List.take_succ_cons, List.take_zero, KB]
      first | refine h52 _ _ ?_ | ((repeat' refine And.intro ?_ ?_); all_goals first | refine h52 _ _ ?_ | omega | rfl | exact Nat.le_of_ble_eq_true rfl | (simp only [List.length_append, List.length_cons, List.length_nil]; omega) | (simp; done) | (simp; omega))
      clear h52 K52
      refine awL_k rfl rfl fun K53 h53 => ?_
      simp (disch := omega) only [S0, step1, reduceIte, Nat.reduceEqDiff, isNilC, Bool.false_eq_true, binP, intP, strP, and_true, true_and, if_true, if_false, encR_inj, encR_cells, List.take_succ_cons, List.take_zero, KB]
      first | refine h53 _ _ ?_ | ((repeat' refine And.intro ?_ ?_); all_goals first | refine h53 _ _ ?_ | omega | rfl | exact Nat.le_of_ble_eq_true rfl | (simp only [List.length_append, List.length_cons, List.length_nil]; omega) | (simp; done) | (simp; omega))
      clear h53 K53
      refine awL_k rfl rfl fun K54 h54 => ?_
      show ent _ _ = true ∧ _
      try simp only [S0, reduceIte, Nat.reduceEqDiff, encR_inj, encR_cells, List.take_succ_cons, List.take_zero, Option.toList, List.map, List.nil_append, List.append_nil, List.singleton_append, List.cons_append, List.toList_toArray]
      refine ⟨Tryd.ent29, Duo.Call.mono (ppick_spec _ _ (by omega) _) ?_⟩
      rintro _ _ ⟨rfl, hcs⟩
      obtain rfl := hcs.symm
      refine h54 _ _ ?_
      clear h54 K54
      refine awL_k rfl rfl fun K55 h55 => ?_
      simp (disch := omega) only [S0, step1, reduceIte, Nat.reduceEqDiff]
      refine h55 _ _ ?_
      clear h55 K55
      refine awL_k rfl rfl fun K56 h56 => ?_
      simp (disch := omega) only [S0, step1, reduceIte, Nat.reduceEqDiff, List.getD_cons_zero, List.getD_cons_succ, encR_inj, encR_cells, List.take_succ_cons, List.take_zero, KB]
      first | refine h56 _ _ ?_ | ((repeat' refine And.intro ?_ ?_); all_goals first | refine h56 _ _ ?_ | omega | rfl | exact Nat.le_of_ble_eq_true rfl | (simp only [List.length_append, List.length_cons, List.length_nil]; omega) | (simp; done) | (simp; omega))
      clear h56 K56
      refine awL_k rfl rfl fun K57 h57 => ?_
      simp (disch := omega) only [S0, step1, reduceIte, Nat.reduceEqDiff, List.getD_cons_zero, List.getD_cons_succ, encR_inj, encR_cells, List.take_succ_cons, List.take_zero, KB]
      first | refine h57 _ _ ?_ | ((repeat' refine And.intro ?_ ?_); all_goals first | refine h57 _ _ ?_ | omega | rfl | exact Nat.le_of_ble_eq_true rfl | (simp only [List.length_append, List.length_cons, List.length_nil]; omega) | (simp; done) | (simp; omega))
      clear h57 K57
      refine awL_k rfl rfl fun K58 h58 => ?_
      simp (disch := omega) only [S0, step1, reduceIte, Nat.reduceEqDiff, Tryd.zro68, S2, encR_inj, encR_cells, List.take_succ_cons, List.take_zero, KB]
      first | refine h58 _ _ ?_ | ((repeat' refine And.intro ?_ ?_); all_goals first | refine h58 _ _ ?_ | omega | rfl | exact Nat.le_of_ble_eq_true rfl | (simp only [List.length_append, List.length_cons, List.length_nil]; omega) | (simp; done) | (simp; omega))
      clear h58 K58
      refine awL_k rfl rfl fun K59 h59 => ?_
      simp (disch := omega) only [S0, step1, reduceIte, Nat.reduceEqDiff, storeP, Tryd.lay68, splice, S3, V.one, S1, Nat.reduceAdd, Nat.reduceLeDiff, Nat.reduceMul, Nat.reduceSub, S2, encR_inj, encR_cells, List.take_succ_cons, List.take_zero, KB]
      first | refine h59 _ _ ?_ | ((repeat' refine And.intro ?_ ?_); all_goals first | refine h59 _ _ ?_ | omega | rfl | exact Nat.le_of_ble_eq_true rfl | (simp only [List.length_append, List.length_cons, List.length_nil]; omega) | (simp; done) | (simp; omega))
      clear h59 K59
      refine awL_k rfl rfl fun K60 h60 => ?_
      simp (disch := omega) only [S0, step1, reduceIte, Nat.reduceEqDiff]
      refine h60 _ _ ?_
      clear h60 K60
      refine hK47 _ _ ?_
      try clear hK47 K47
      refine AW.seqK fun K61 hK61 => ?_
      refine AW.any Tryd.mix 12 rfl ?_
      refine awA_c rfl rfl rfl fun K62 h62 => ?_
      simp (disch := omega) only [S0, step1, reduceIte, Nat.reduceEqDiff]
      refine h62 _ _ rfl ?_
      clear h62 K62
      refine awA_c rfl rfl rfl fun K63 h63 => ?_
      simp (disch := omega) only [S0, step1, reduceIte, Nat.reduceEqDiff]
      refine h63 _ _ rfl ?_
      clear h63 K63
      refine awA_case 48 rfl (fun hg64 => ?_) (fun hg64 => ?_)
      · rw [hg64]
        try simp only [decide_eq_true_eq, decide_eq_false_iff_not, Bool.not_eq_true, Bool.not_eq_false, Bool.not_eq_true', Bool.not_eq_false', Int.not_lt, Int.not_le, ne_eq, Decidable.not_not, List.length_map, Bool.and_eq_true, Bool.or_eq_true, Bool.and_eq_false_imp, Int.ofNat_lt, Int.ofNat_le] at hg64
        refine awA_cyes rfl rfl rfl rfl rfl fun K65 h65 => ?_
        simp (disch := omega) only [S0, step1, reduceIte, Nat.reduceEqDiff, loadP, Tryd.lay68, pack, S1, Nat.reduceAdd, Nat.reduceLeDiff, Nat.reduceMul, Nat.reduceSub, S2, encR_inj, encR_cells, List.take_succ_cons, List.take_zero, KB]
        first | refine h65 _ _ rfl ?_ | ((repeat' refine And.intro ?_ ?_); all_goals first | refine h65 _ _ rfl ?_ | omega | rfl | exact Nat.le_of_ble_eq_true rfl | (simp only [List.length_append, List.length_cons, List.length_nil]; omega) | (simp; done) | (simp; omega))
        clear h65 K65
        refine awA_cyes rfl rfl rfl rfl rfl fun K66 h66 => ?_
        simp (disch := omega) only [S0, step1, reduceIte, Nat.reduceEqDiff]
        refine h66 _ _ rfl ?_
        clear h66 K66
        refine awA_cyes rfl rfl rfl rfl rfl fun K67 h67 => ?_
        simp (disch := omega) only [S0, step1, reduceIte, Nat.reduceEqDiff]
        refine h67 _ _ rfl ?_
        clear h67 K67
        refine awA_cyes rfl rfl rfl rfl rfl fun K68 h68 => ?_
        simp (disch := omega) only [S0, step1, reduceIte, Nat.reduceEqDiff, iaP, Tryd.elt47, S3, V.one, S1, Nat.reduceAdd, Nat.reduceLeDiff, Nat.reduceMul, Nat.reduceSub, S2, encR_inj, encR_cells, List.take_succ_cons, List.take_zero, KB]
        first | refine h68 _ _ rfl ?_ | ((repeat' refine And.intro ?_ ?_); all_goals first | refine h68 _ _ rfl ?_ | omega | rfl | exact Nat.le_of_ble_eq_true rfl | (simp only [List.length_append, List.length_cons, List.length_nil]; omega) | (simp; done) | (simp; omega))
        clear h68 K68
        refine awA_cyes rfl rfl rfl rfl rfl fun K69 h69 => ?_
        simp (disch := omega) only [S0, step1, reduceIte, Nat.reduceEqDiff, loadP, Tryd.lay68, pack, S1, Nat.reduceAdd, Nat.reduceLeDiff, Nat.reduceMul, Nat.reduceSub, S2, encR_inj, encR_cells, List.take_succ_cons, List.take_zero, KB]
        first | refine h69 _ _ rfl ?_ | ((repeat' refine And.intro ?_ ?_); all_goals first | refine h69 _ _ rfl ?_ | omega | rfl | exact Nat.le_of_ble_eq_true rfl | (simp only [List.length_append, List.length_cons, List.length_nil]; omega) | (simp; done) | (simp; omega))
        clear h69 K69
        refine awA_cyes rfl rfl rfl rfl rfl fun K70 h70 => ?_
        simp (disch := omega) only [S0, step1, reduceIte, Nat.reduceEqDiff, isNilC, Bool.false_eq_true, binP, intP, strP, and_true, true_and, if_true, if_false, eqP, Tryd.seq68, cmpL, cmpV, encR_inj, encR_cells, List.take_succ_cons, List.take_zero, KB]
        first | refine h70 _ _ rfl ?_ | ((repeat' refine And.intro ?_ ?_); all_goals first | refine h70 _ _ rfl ?_ | omega | rfl | exact Nat.le_of_ble_eq_true rfl | (simp only [List.length_append, List.length_cons, List.length_nil]; omega) | (simp; done) | (simp; omega))
        clear h70 K70
        refine awA_c rfl rfl rfl fun K71 h71 => ?_
        simp (disch := omega) only [S0, step1, reduceIte, Nat.reduceEqDiff]
        refine h71 _ _ rfl ?_
        clear h71 K71
        refine awA_c rfl rfl rfl fun K72 h72 => ?_
        simp (disch := omega) only [S0, step1, reduceIte, Nat.reduceEqDiff]
        refine h72 _ _ rfl ?_
        clear h72 K72
        refine awA_case 56 rfl (fun hg73 => ?_) (fun hg73 => ?_)
        · rw [hg73]
          try simp only [decide_eq_true_eq, decide_eq_false_iff_not, Bool.not_eq_true, Bool.not_eq_false, Bool.not_eq_true', Bool.not_eq_false', Int.not_lt, Int.not_le, ne_eq, Decidable.not_not, List.length_map, Bool.and_eq_true, Bool.or_eq_true, Bool.and_eq_false_imp, Int.ofNat_lt, Int.ofNat_le] at hg73
          refine awA_cyes rfl rfl rfl rfl rfl fun K74 h74 => ?_
          simp (disch := omega) only [S0, step1, reduceIte, Nat.reduceEqDiff, loadP, Tryd.lay68, pack, S1, Nat.reduceAdd, Nat.reduceLeDiff, Nat.reduceMul, Nat.reduceSub, S2, encR_inj, encR_cells, List.take_succ_cons, List.take_zero, KB]
          first | refine h74 _ _ rfl ?_ | ((repeat' refine And.intro ?_ ?_); all_goals first | refine h74 _ _ rfl ?_ | omega | rfl | exact Nat.le_of_ble_eq_true rfl | (simp only [List.length_append, List.length_cons, List.length_nil]; omega) | (simp; done) | (simp; omega))
          clear h74 K74
          refine awA_cyes rfl rfl rfl rfl rfl fun K75 h75 => ?_
          simp (disch := omega) only [S0, step1, reduceIte, Nat.reduceEqDiff, loadP, Tryd.lay68, pack, S1, Nat.reduceAdd, Nat.reduceLeDiff, Nat.reduceMul, Nat.reduceSub, S2, encR_inj, encR_cells, List.take_succ_cons, List.take_zero, KB]
          first | refine h75 _ _ rfl ?_ | ((repeat' refine And.intro ?_ ?_); all_goals first | refine h75 _ _ rfl ?_ | omega | rfl | exact Nat.le_of_ble_eq_true rfl | (simp only [List.length_append, List.length_cons, List.length_nil]; omega) | (simp; done) | (simp; omega))
          clear h75 K75
          show awA _ _ _ [] _ _ _ _
          simp only [awA, applyUps, List.nil_append, List.cons_append, S2]
          show awL _ _ _ _ _ _ _
          refine awL_kyes rfl rfl rfl rfl fun K76 h76 => ?_
          simp (disch := omega) only [S0, step1, reduceIte, Nat.reduceEqDiff, isNilC, Bool.false_eq_true, binP, intP, strP, and_true, true_and, if_true, if_false, eqP, Tryd.seq68, cmpL, cmpV, encR_inj, encR_cells, List.take_succ_cons, List.take_zero, KB]
          first | refine h76 _ _ ?_ | ((repeat' refine And.intro ?_ ?_); all_goals first | refine h76 _ _ ?_ | omega | rfl | exact Nat.le_of_ble_eq_true rfl | (simp only [List.length_append, List.length_cons, List.length_nil]; omega) | (simp; done) | (simp; omega))
          clear h76 K76
          refine awL_k rfl rfl fun K77 h77 => ?_
          simp (disch := omega) only [S0, step1, reduceIte, Nat.reduceEqDiff]
          refine h77 _ _ ?_
          clear h77 K77
          refine awL_k rfl rfl fun K78 h78 => ?_
          simp (disch := omega) only [S0, step1, reduceIte, Nat.reduceEqDiff]
          refine h78 _ _ ?_
          clear h78 K78
          refine hK61 _ _ ?_
          try clear hK61 K61
          refine AW.ret ?_
          show (_ ∨ _) ∧ _
          refine ⟨.inr rfl, ?_⟩
          show resP _ _ _ [.tmp 4] _
          simp only [resP, resV, V.trim, V.trim.trimL, S0, reduceIte, Nat.reduceEqDiff]
          refine ⟨_, _, _, Nat.le_refl _, V.le_refl _ _, StLe.refl _, ?_⟩
          exact ⟨by first | rfl | (simp_all; done), by first | exact hst.trim | exact hst.trim_append _⟩
        · rw [hg73]
          try simp only [decide_eq_true_eq, decide_eq_false_iff_not, Bool.not_eq_true, Bool.not_eq_false, Bool.not_eq_true', Bool.not_eq_false', Int.not_lt, Int.not_le, ne_eq, Decidable.not_not, List.length_map, Bool.and_eq_true, Bool.or_eq_true, Bool.and_eq_false_imp, Int.ofNat_lt, Int.ofNat_le] at hg73
          exact absurd hr1 hg73 --#dead
      · rw [hg64]
        try simp only [decide_eq_true_eq, decide_eq_false_iff_not, Bool.not_eq_true, Bool.not_eq_false, Bool.not_eq_true', Bool.not_eq_false', Int.not_lt, Int.not_le, ne_eq, Decidable.not_not, List.length_map, Bool.and_eq_true, Bool.or_eq_true, Bool.and_eq_false_imp, Int.ofNat_lt, Int.ofNat_le] at hg64
        exact absurd hg64 hne --#dead

end Tryd
end Go.Proofs
