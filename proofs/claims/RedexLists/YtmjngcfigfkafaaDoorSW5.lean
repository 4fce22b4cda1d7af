/-
  Walks of the names, the endpoints, the redexes.
-/
import Derived.Test.YtmjngcfigfkafaaDoorSLib
import Derived.Test.YtmjngcfigfkafaaDoorSFacts
import Derived.Test.YtmjngcfigfkafaaDoorDAwake
import Derived.Test.YtmjngcfigfkafaaDoorDBund
import Derived.Test.YtmjngcfigfkafaaDoorDKit
import Derived.Test.YtmjngcfigfkafaaDoorSW4
set_option linter.all false
namespace Go.Proofs
open Go Go.Duo
namespace Tryd

set_option maxHeartbeats 8000000 in
theorem rclash_spec (l : List Pr) (hn : l.length ≤ 1000000) (hL : ∀ x ∈ l, hasL x) (st : List O) : Duo.Call Tryd.prog Tryd.gl 23 [.sl (l.map encP) none] st (fun v st' => v = .sl ((clashL l).map encD) none ∧ st' = st) := by
  refine Duo.Call.clo fun hst => ?_
  refine Duo.Call.real fun hr => ?_
  skip
  refine Duo.Call.body 60 [(0, .sl (l.map encP) none)] Tryd.func23 rfl rfl ?_
  refine AW.seqK fun K1 hK1 => ?_
  refine AW.region ?_
  refine awL_k rfl rfl fun K2 h2 => ?_
  simp (disch := omega) only [S0, step1, reduceIte, Nat.reduceEqDiff]
  refine h2 _ _ ?_
  clear h2 K2
  refine hK1 _ _ ?_
  try clear hK1 K1
  refine AW.seqK fun K3 hK3 => ?_
  refine AW.region ?_
  refine awL_k rfl rfl fun K4 h4 => ?_
  simp (disch := omega) only [S0, step1, reduceIte, Nat.reduceEqDiff]
  refine h4 _ _ ?_
  clear h4 K4
  refine hK3 _ _ ?_
  try clear hK3 K3
  refine AW.seqK fun K5 hK5 => ?_
  refine AW.seqK fun K6 hK6 => ?_
  refine AW.region ?_
  refine awL_k rfl rfl fun K7 h7 => ?_
  simp (disch := omega) only [S0, step1, reduceIte, Nat.reduceEqDiff]
  refine h7 _ _ ?_
  clear h7 K7
  refine hK6 _ _ ?_
  try clear hK6 K6
  refine AW.block ?_
  refine AW.tok 73 2 ?_
  refine AW.loop (α := { i : Nat // i ≤ l.length }) 60 (fun i => [(0, .sl (l.map encP) none), (3, .sl ((partL l.length (clAt l) i.1 0).map encD) (some st.length)), (4, .int .i64 (i.1 : Nat))]) (fun i => st ++ [.tok 73 2 (partL l.length (clAt l) i.1 0).length]) (fun i => l.length - i.1) ⟨0, Nat.zero_le _⟩ (by show _ ≤ _; exact Nat.le_of_ble_eq_true rfl) ⟨V.le_of_eq (by first | rfl | simp), (V.le_nil_tok (by rw [st_get0]; rfl)), V.le_of_eq (by first | rfl | simp), trivial⟩ (StLe.of_eq rfl) ?_
  rintro ⟨i, hi⟩
  dsimp only
  refine AW.clo fun hlc => ?_
  refine AW.seqK fun K8 hK8 => ?_
  refine AW.seqK fun K9 hK9 => ?_
  refine AW.region ?_
  refine awL_k rfl rfl fun K10 h10 => ?_
  simp (disch := omega) only [S0, step1, reduceIte, Nat.reduceEqDiff]
  refine h10 _ _ ?_
  clear h10 K10
  refine awL_k rfl rfl fun K11 h11 => ?_
  simp (disch := omega) only [S0, step1, reduceIte, Nat.reduceEqDiff]
  refine h11 _ _ ?_
  clear h11 K11
  refine awL_k rfl rfl fun K12 h12 => ?_
  simp (disch := omega) only [S0, step1, reduceIte, Nat.reduceEqDiff, lenP, Tryd.elt27, Option.isSome, true_and, S1, Nat.reduceAdd, Nat.reduceLeDiff, Nat.reduceMul, Nat.reduceSub, S2, PB, KB]
  first | refine h12 _ _ ?_ | ((repeat' refine And.intro ?_ ?_); all_goals first | refine h12 _ _ ?_ | omega | rfl | exact Nat.le_of_ble_eq_true rfl | (simp only [List.length_append, List.length_cons, List.length_nil]; omega) | (simp; done) | (simp; omega))
  clear h12 K12
  refine awL_k rfl rfl fun K13 h13 => ?_
  simp (disch := omega) only [S0, step1, reduceIte, Nat.reduceEqDiff, isNilC, Bool.false_eq_true, binP, intP, strP, and_true, true_and, if_true, if_false, PB, Nat.reduceSub, Nat.reduceLeDiff, KB]
  first | refine h13 _ _ ?_ | ((repeat' refine And.intro ?_ ?_); all_goals first | refine h13 _ _ ?_ | omega | rfl | exact Nat.le_of_ble_eq_true rfl | (simp only [List.length_append, List.length_cons, List.length_nil]; omega) | (simp; done) | (simp; omega))
  clear h13 K13
  refine hK9 _ _ ?_
  try clear hK9 K9
  refine AW.condK _ rfl (fun hb14 => ?_) (fun hb14 => ?_)
  · skip
    try simp only [decide_eq_true_eq, decide_eq_false_iff_not, Bool.not_eq_true, Bool.not_eq_false, Bool.not_eq_true', Bool.not_eq_false', Int.not_lt, Int.not_le, ne_eq, Decidable.not_not, List.length_map, Bool.and_eq_true, Bool.or_eq_true, Bool.and_eq_false_imp, Int.ofNat_lt, Int.ofNat_le] at hb14
    have hlt : i < l.length := by omega
    refine AW.skip ?_
    refine hK8 _ _ ?_
    try clear hK8 K8
    refine AW.seqK fun K15 hK15 => ?_
    refine AW.block ?_
    refine AW.seqK fun K16 hK16 => ?_
    refine AW.region ?_
    refine awL_k rfl rfl fun K17 h17 => ?_
    simp (disch := omega) only [S0, step1, reduceIte, Nat.reduceEqDiff]
    refine h17 _ _ ?_
    clear h17 K17
    refine awL_k rfl rfl fun K18 h18 => ?_
    simp (disch := omega) only [S0, step1, reduceIte, Nat.reduceEqDiff, isNilC, Bool.false_eq_true, binP, intP, strP, and_true, true_and, if_true, if_false, PB, Nat.reduceSub, Nat.reduceLeDiff, KB]
    first | refine h18 _ _ ?_ | ((repeat' refine And.intro ?_ ?_); all_goals first | refine h18 _ _ ?_ | omega | rfl | exact Nat.le_of_ble_eq_true rfl | (simp only [List.length_append, List.length_cons, List.length_nil]; omega) | (simp; done) | (simp; omega))
    clear h18 K18
    refine awL_k rfl rfl fun K19 h19 => ?_
    simp (disch := omega) only [S0, step1, reduceIte, Nat.reduceEqDiff]
    refine h19 _ _ ?_
    clear h19 K19
    refine hK16 _ _ ?_
    try clear hK16 K16
    refine AW.block ?_
    have hsk := partL_skip (n := l.length) (f := clAt l) (i := i) (i + 1) (fun j hj => clAt_none hlt (by omega) (.inl (by omega)))
    refine AW.loop (α := { k : Nat // i < k ∧ k ≤ l.length }) 60 (fun k => [(0, .sl (l.map encP) none), (3, .sl ((partL l.length (clAt l) i k.1).map encD) (some st.length)), (4, .int .i64 (i : Nat)), (5, .int .i64 (k.1 : Nat))]) (fun k => st ++ [.tok 73 2 (partL l.length (clAt l) i k.1).length]) (fun k => l.length - k.1) ⟨i + 1, by omega, by omega⟩ (by show _ ≤ _; exact Nat.le_of_ble_eq_true rfl) ⟨V.le_of_eq (by first | rfl | simp), (V.le_of_eq (by simp only [hsk]; rfl)), V.le_of_eq (by first | rfl | simp), V.le_of_eq (by first | rfl | simp), trivial⟩ (StLe.of_eq (by simp only [hsk])) ?_
    rintro ⟨k, hik, hk⟩
    dsimp only
    have hb := partL_len (n := l.length) (f := clAt l) (i := i) (k := k) (by omega) hi hk
    refine AW.clo fun hlc => ?_
    refine AW.seqK fun K20 hK20 => ?_
    refine AW.seqK fun K21 hK21 => ?_
    refine AW.region ?_
    refine awL_k rfl rfl fun K22 h22 => ?_
    simp (disch := omega) only [S0, step1, reduceIte, Nat.reduceEqDiff]
    refine h22 _ _ ?_
    clear h22 K22
    refine awL_k rfl rfl fun K23 h23 => ?_
    simp (disch := omega) only [S0, step1, reduceIte, Nat.reduceEqDiff]
    refine h23 _ _ ?_
    clear h23 K23
    refine awL_k rfl rfl fun K24 h24 => ?_
    simp (disch := omega) only [S0, step1, reduceIte, Nat.reduceEqDiff, lenP, Tryd.elt27, Option.isSome, true_and, S1, Nat.reduceAdd, Nat.reduceLeDiff, Nat.reduceMul, Nat.reduceSub, S2, PB, KB]
    first | refine h24 _ _ ?_ | ((repeat' refine And.intro ?_ ?_); all_goals first | refine h24 _ _ ?_ | omega | rfl | exact Nat.le_of_ble_eq_true rfl | (simp only [List.length_append, List.length_cons, List.length_nil]; omega) | (simp; done) | (simp; omega))
    clear h24 K24
    refine awL_k rfl rfl fun K25 h25 => ?_
    simp (disch := omega) only [S0, step1, reduceIte, Nat.reduceEqDiff, isNilC, Bool.false_eq_true, binP, intP, strP, and_true, true_and, if_true, if_false, PB, Nat.reduceSub, Nat.reduceLeDiff, KB]
    first | refine h25 _ _ ?_ | ((repeat' refine And.intro ?_ ?_); all_goals first | refine h25 _ _ ?_ | omega | rfl | exact Nat.le_of_ble_eq_true rfl | (simp only [List.length_append, List.length_cons, List.length_nil]; omega) | (simp; done) | (simp; omega))
    clear h25 K25
    refine hK21 _ _ ?_
    try clear hK21 K21
    refine AW.condK _ rfl (fun hb26 => ?_) (fun hb26 => ?_)
    · skip
      try simp only [decide_eq_true_eq, decide_eq_false_iff_not, Bool.not_eq_true, Bool.not_eq_false, Bool.not_eq_true', Bool.not_eq_false', Int.not_lt, Int.not_le, ne_eq, Decidable.not_not, List.length_map, Bool.and_eq_true, Bool.or_eq_true, Bool.and_eq_false_imp, Int.ofNat_lt, Int.ofNat_le] at hb26
      have hltk : k < l.length := by omega
      refine AW.skip ?_
      refine hK20 _ _ ?_
      try clear hK20 K20
      refine AW.seqK fun K27 hK27 => ?_
      refine AW.block ?_
      refine AW.seqK fun K28 hK28 => ?_
      refine AW.any Tryd.mix 30 rfl ?_
      refine awA_c rfl rfl rfl fun K29 h29 => ?_
      simp (disch := omega) only [S0, step1, reduceIte, Nat.reduceEqDiff]
      refine h29 _ _ rfl ?_
      clear h29 K29
      refine awA_c rfl rfl rfl fun K30 h30 => ?_
      simp (disch := omega) only [S0, step1, reduceIte, Nat.reduceEqDiff]
      refine h30 _ _ rfl ?_
      clear h30 K30
      refine awA_c rfl rfl rfl fun K31 h31 => ?_
      simp (disch := omega) only [S0, step1, reduceIte, Nat.reduceEqDiff, iaP, Tryd.elt27, S3, V.one, S1, Nat.reduceAdd, Nat.reduceLeDiff, Nat.reduceMul, Nat.reduceSub, S2, PB, KB]
      first | refine h31 _ _ rfl ?_ | ((repeat' refine And.intro ?_ ?_); all_goals first | refine h31 _ _ rfl ?_ | omega | rfl | exact Nat.le_of_ble_eq_true rfl | (simp only [List.length_append, List.length_cons, List.length_nil]; omega) | (simp; done) | (simp; omega))
      clear h31 K31
      refine awA_c rfl rfl rfl fun K32 h32 => ?_
      simp (disch := omega) only [S0, step1, reduceIte, Nat.reduceEqDiff, loadP, Tryd.lay29, pack, S1, Nat.reduceAdd, Nat.reduceLeDiff, Nat.reduceMul, Nat.reduceSub, S2, PB, KB]
      first | refine h32 _ _ rfl ?_ | ((repeat' refine And.intro ?_ ?_); all_goals first | refine h32 _ _ rfl ?_ | omega | rfl | exact Nat.le_of_ble_eq_true rfl | (simp only [List.length_append, List.length_cons, List.length_nil]; omega) | (simp; done) | (simp; omega))
      clear h32 K32
      refine awA_c rfl rfl rfl fun K33 h33 => ?_
      simp (disch := omega) only [S0, step1, reduceIte, Nat.reduceEqDiff]
      refine h33 _ _ rfl ?_
      clear h33 K33
      refine awA_c rfl rfl rfl fun K34 h34 => ?_
      simp (disch := omega) only [S0, step1, reduceIte, Nat.reduceEqDiff]
      refine h34 _ _ rfl ?_
      clear h34 K34
      refine awA_c rfl rfl rfl fun K35 h35 => ?_
      simp (disch := omega) only [S0, step1, reduceIte, Nat.reduceEqDiff, iaP, Tryd.elt27, S3, V.one, S1, Nat.reduceAdd, Nat.reduceLeDiff, Nat.reduceMul, Nat.reduceSub, S2, PB, KB]
      first | refine h35 _ _ rfl ?_ | ((repeat' refine And.intro ?_ ?_); all_goals first | refine h35 _ _ rfl ?_ | omega | rfl | exact Nat.le_of_ble_eq_true rfl | (simp only [List.length_append, List.length_cons, List.length_nil]; omega) | (simp; done) | (simp; omega))
      clear h35 K35
      refine awA_c rfl rfl rfl fun K36 h36 => ?_
      simp (disch := omega) only [S0, step1, reduceIte, Nat.reduceEqDiff, loadP, Tryd.lay29, pack, S1, Nat.reduceAdd, Nat.reduceLeDiff, Nat.reduceMul, Nat.reduceSub, S2, PB, KB]
      first | refine h36 _ _ rfl ?_ | ((repeat' refine And.intro ?_ ?_); all_goals first | refine h36 _ _ rfl ?_ | omega | rfl | exact Nat.le_of_ble_eq_true rfl | (simp only [List.length_append, List.length_cons, List.length_nil]; omega) | (simp; done) | (simp; omega))
      clear h36 K36
      refine awA_k rfl rfl fun K37 h37 g37 => ?_
      show ent _ _ = true ∧ _
      try simp only [S0, reduceIte, Nat.reduceEqDiff, PB, Nat.reduceSub, Nat.reduceLeDiff, Option.toList, List.map, List.nil_append, List.append_nil, List.singleton_append, List.cons_append, List.toList_toArray]
      refine ⟨Tryd.ent46, _, meet_spec _ _ _, h37 _ ?_⟩
      clear h37 g37 K37
      refine awA_c rfl rfl rfl fun K38 h38 => ?_
      simp (disch := omega) only [S0, step1, reduceIte, Nat.reduceEqDiff]
      refine h38 _ _ rfl ?_
      clear h38 K38
      refine awA_case 29 rfl (fun hg39 => ?_) (fun hg39 => ?_)
      · rw [hg39]
        try simp only [decide_eq_true_eq, decide_eq_false_iff_not, Bool.not_eq_true, Bool.not_eq_false, Bool.not_eq_true', Bool.not_eq_false', Int.not_lt, Int.not_le, ne_eq, Decidable.not_not, List.length_map, Bool.and_eq_true, Bool.or_eq_true, Bool.and_eq_false_imp, Int.ofNat_lt, Int.ofNat_le] at hg39
        refine awA_cyes rfl rfl rfl rfl rfl fun K40 h40 => ?_
        simp (disch := omega) only [S0, step1, reduceIte, Nat.reduceEqDiff]
        refine h40 _ _ rfl ?_
        clear h40 K40
        refine awA_cyes rfl rfl rfl rfl rfl fun K41 h41 => ?_
        simp (disch := omega) only [S0, step1, reduceIte, Nat.reduceEqDiff]
        refine h41 _ _ rfl ?_
        clear h41 K41
        refine awA_cyes rfl rfl rfl rfl rfl fun K42 h42 => ?_
        simp (disch := omega) only [S0, step1, reduceIte, Nat.reduceEqDiff, iaP, Tryd.elt27, S3, V.one, S1, Nat.reduceAdd, Nat.reduceLeDiff, Nat.reduceMul, Nat.reduceSub, S2, PB, KB]
        first | refine h42 _ _ rfl ?_ | ((repeat' refine And.intro ?_ ?_); all_goals first | refine h42 _ _ rfl ?_ | omega | rfl | exact Nat.le_of_ble_eq_true rfl | (simp only [List.length_append, List.length_cons, List.length_nil]; omega) | (simp; done) | (simp; omega))
        clear h42 K42
        refine awA_cyes rfl rfl rfl rfl rfl fun K43 h43 => ?_
        simp (disch := omega) only [S0, step1, reduceIte, Nat.reduceEqDiff, loadP, Tryd.lay29, pack, S1, Nat.reduceAdd, Nat.reduceLeDiff, Nat.reduceMul, Nat.reduceSub, S2, PB, KB]
        first | refine h43 _ _ rfl ?_ | ((repeat' refine And.intro ?_ ?_); all_goals first | refine h43 _ _ rfl ?_ | omega | rfl | exact Nat.le_of_ble_eq_true rfl | (simp only [List.length_append, List.length_cons, List.length_nil]; omega) | (simp; done) | (simp; omega))
        clear h43 K43
        refine awA_cyes rfl rfl rfl rfl rfl fun K44 h44 => ?_
        simp (disch := omega) only [S0, step1, reduceIte, Nat.reduceEqDiff]
        refine h44 _ _ rfl ?_
        clear h44 K44
        refine awA_cyes rfl rfl rfl rfl rfl fun K45 h45 => ?_
        simp (disch := omega) only [S0, step1, reduceIte, Nat.reduceEqDiff]
        refine h45 _ _ rfl ?_
        clear h45 K45
        refine awA_cyes rfl rfl rfl rfl rfl fun K46 h46 => ?_
        simp (disch := omega) only [S0, step1, reduceIte, Nat.reduceEqDiff, iaP, Tryd.elt27, S3, V.one, S1, Nat.reduceAdd, Nat.reduceLeDiff, Nat.reduceMul, Nat.reduceSub, S2, PB, KB]
        first | refine h46 _ _ rfl ?_ | ((repeat' refine And.intro ?_ ?_); all_goals first | refine h46 _ _ rfl ?_ | omega | rfl | exact Nat.le_of_ble_eq_true rfl | (simp only [List.length_append, List.length_cons, List.length_nil]; omega) | (simp; done) | (simp; omega))
        clear h46 K46
        refine awA_cyes rfl rfl rfl rfl rfl fun K47 h47 => ?_
        simp (disch := omega) only [S0, step1, reduceIte, Nat.reduceEqDiff, loadP, Tryd.lay29, pack, S1, Nat.reduceAdd, Nat.reduceLeDiff, Nat.reduceMul, Nat.reduceSub, S2, PB, KB]
        first | refine h47 _ _ rfl ?_ | ((repeat' refine And.intro ?_ ?_); all_goals first | refine h47 _ _ rfl ?_ | omega | rfl | exact Nat.le_of_ble_eq_true rfl | (simp only [List.length_append, List.length_cons, List.length_nil]; omega) | (simp; done) | (simp; omega))
        clear h47 K47
        refine awA_kyes rfl rfl rfl rfl fun K48 h48 g48 => ?_
        show ent _ _ = true ∧ _
        try simp only [S0, reduceIte, Nat.reduceEqDiff, PB, Nat.reduceSub, Nat.reduceLeDiff, Option.toList, List.map, List.nil_append, List.append_nil, List.singleton_append, List.cons_append, List.toList_toArray]
        refine ⟨Tryd.ent47, _, fit_spec _ _ (by first | assumption | exact hL _ (List.getElem_mem _)) _, h48 _ ?_⟩
        clear h48 g48 K48
        refine awA_cyes rfl rfl rfl rfl rfl fun K49 h49 => ?_
        simp (disch := omega) only [S0, step1, reduceIte, Nat.reduceEqDiff, unP, PB, Nat.reduceSub, Nat.reduceLeDiff, KB]
        first | refine h49 _ _ rfl ?_ | ((repeat' refine And.intro ?_ ?_); all_goals first | refine h49 _ _ rfl ?_ | omega | rfl | exact Nat.le_of_ble_eq_true rfl | (simp only [List.length_append, List.length_cons, List.length_nil]; omega) | (simp; done) | (simp; omega))
        clear h49 K49
        refine awA_c rfl rfl rfl fun K50 h50 => ?_
        simp (disch := omega) only [S0, step1, reduceIte, Nat.reduceEqDiff]
        refine h50 _ _ rfl ?_
        clear h50 K50
        refine awA_c rfl rfl rfl fun K51 h51 => ?_
        simp (disch := omega) only [S0, step1, reduceIte, Nat.reduceEqDiff]
        refine h51 _ _ rfl ?_
        clear h51 K51
        refine awA_case 41 rfl (fun hg52 => ?_) (fun hg52 => ?_)
        · rw [hg52]
          try simp only [decide_eq_true_eq, decide_eq_false_iff_not, Bool.not_eq_true, Bool.not_eq_false, Bool.not_eq_true', Bool.not_eq_false', Int.not_lt, Int.not_le, ne_eq, Decidable.not_not, List.length_map, Bool.and_eq_true, Bool.or_eq_true, Bool.and_eq_false_imp, Int.ofNat_lt, Int.ofNat_le] at hg52
          refine awA_cyes rfl rfl rfl rfl rfl fun K53 h53 => ?_
          simp (disch := omega) only [S0, step1, reduceIte, Nat.reduceEqDiff]
          refine h53 _ _ rfl ?_
          clear h53 K53
          refine awA_cyes rfl rfl rfl rfl rfl fun K54 h54 => ?_
          simp (disch := omega) only [S0, step1, reduceIte, Nat.reduceEqDiff]
          refine h54 _ _ rfl ?_
          clear h54 K54
          refine awA_cyes rfl rfl rfl rfl rfl fun K55 h55 => ?_
          simp (disch := omega) only [S0, step1, reduceIte, Nat.reduceEqDiff, iaP, Tryd.elt27, S3, V.one, S1, Nat.reduceAdd, Nat.reduceLeDiff, Nat.reduceMul, Nat.reduceSub, S2, PB, KB]
          first | refine h55 _ _ rfl ?_ | ((repeat' refine And.intro ?_ ?_); all_goals first | refine h55 _ _ rfl ?_ | omega | rfl | exact Nat.le_of_ble_eq_true rfl | (simp only [List.length_append, List.length_cons, List.length_nil]; omega) | (simp; done) | (simp; omega))
          clear h55 K55
          refine awA_cyes rfl rfl rfl rfl rfl fun K56 h56 => ?_
          simp (disch := omega) only [S0, step1, reduceIte, Nat.reduceEqDiff, loadP, Tryd.lay29, pack, S1, Nat.reduceAdd, Nat.reduceLeDiff, Nat.reduceMul, Nat.reduceSub, S2, PB, KB]
          first | refine h56 _ _ rfl ?_ | ((repeat' refine And.intro ?_ ?_); all_goals first | refine h56 _ _ rfl ?_ | omega | rfl | exact Nat.le_of_ble_eq_true rfl | (simp only [List.length_append, List.length_cons, List.length_nil]; omega) | (simp; done) | (simp; omega))
          clear h56 K56
          refine awA_cyes rfl rfl rfl rfl rfl fun K57 h57 => ?_
          simp (disch := omega) only [S0, step1, reduceIte, Nat.reduceEqDiff]
          refine h57 _ _ rfl ?_
          clear h57 K57
          refine awA_cyes rfl rfl rfl rfl rfl fun K58 h58 => ?_
          simp (disch := omega) only [S0, step1, reduceIte, Nat.reduceEqDiff]
          refine h58 _ _ rfl ?_
          clear h58 K58
          refine awA_cyes rfl rfl rfl rfl rfl fun K59 h59 => ?_
          simp (disch := omega) only [S0, step1, reduceIte, Nat.reduceEqDiff, iaP, Tryd.elt27, S3, V.one, S1, Nat.reduceAdd, Nat.reduceLeDiff, Nat.reduceMul, Nat.reduceSub, S2, PB, KB]
          first | refine h59 _ _ rfl ?_ | ((repeat' refine And.intro ?_ ?_); all_goals first | refine h59 _ _ rfl ?_ | omega | rfl | exact Nat.le_of_ble_eq_true rfl | (simp only [List.length_append, List.length_cons, List.length_nil]; omega) | (simp; done) | (simp; omega))
          clear h59 K59
          refine awA_cyes rfl rfl rfl rfl rfl fun K60 h60 => ?_
          simp (disch := omega) only [S0, step1, reduceIte, Nat.reduceEqDiff, loadP, Tryd.lay29, pack, S1, Nat.reduceAdd, Nat.reduceLeDiff, Nat.reduceMul, Nat.reduceSub, S2, PB, KB]
          first | refine h60 _ _ rfl ?_ | ((repeat' refine And.intro ?_ ?_); all_goals first | refine h60 _ _ rfl ?_ | omega | rfl | exact Nat.le_of_ble_eq_true rfl | (simp only [List.length_append, List.length_cons, List.length_nil]; omega) | (simp; done) | (simp; omega))
          clear h60 K60
          show awA _ _ _ [] _ _ _ _
          simp only [awA, applyUps, List.nil_append, List.cons_append, S2]
          show awL _ _ _ _ _ _ _
          refine awL_kyes rfl rfl rfl rfl fun K61 h61 => ?_
          show ent _ _ = true ∧ _
          try simp only [S0, reduceIte, Nat.reduceEqDiff, PB, Nat.reduceSub, Nat.reduceLeDiff, Option.toList, List.map, List.nil_append, List.append_nil, List.singleton_append, List.cons_append, List.toList_toArray]
          refine ⟨Tryd.ent47, Duo.Call.mono (fit_spec _ _ (by first | assumption | exact hL _ (List.getElem_mem _)) _) ?_⟩
          rintro _ _ ⟨rfl, hcs⟩
          obtain rfl := hcs.symm
          refine h61 _ _ ?_
          clear h61 K61
          refine awL_kyes rfl rfl rfl rfl fun K62 h62 => ?_
          simp (disch := omega) only [S0, step1, reduceIte, Nat.reduceEqDiff, unP, PB, Nat.reduceSub, Nat.reduceLeDiff, KB]
          first | refine h62 _ _ ?_ | ((repeat' refine And.intro ?_ ?_); all_goals first | refine h62 _ _ ?_ | omega | rfl | exact Nat.le_of_ble_eq_true rfl | (simp only [List.length_append, List.length_cons, List.length_nil]; omega) | (simp; done) | (simp; omega))
          clear h62 K62
          refine awL_k rfl rfl fun K63 h63 => ?_
          simp (disch := omega) only [S0, step1, reduceIte, Nat.reduceEqDiff]
          refine h63 _ _ ?_
          clear h63 K63
          refine hK28 _ _ ?_
          try clear hK28 K28
          refine AW.condK _ rfl (fun hb64 => ?_) (fun hb64 => ?_)
          · skip
            try simp only [decide_eq_true_eq, decide_eq_false_iff_not, Bool.not_eq_true, Bool.not_eq_false, Bool.not_eq_true', Bool.not_eq_false', Int.not_lt, Int.not_le, ne_eq, Decidable.not_not, List.length_map, Bool.and_eq_true, Bool.or_eq_true, Bool.and_eq_false_imp, Int.ofNat_lt, Int.ofNat_le] at hb64
            refine AW.region ?_
            refine awL_k rfl rfl fun K65 h65 => ?_
            simp (disch := omega) only [S0, step1, reduceIte, Nat.reduceEqDiff]
            refine h65 _ _ ?_
            clear h65 K65
            refine awL_k rfl rfl fun K66 h66 => ?_
            simp (disch := omega) only [S0, step1, reduceIte, Nat.reduceEqDiff]
            refine h66 _ _ ?_
            clear h66 K66
            refine awL_k rfl rfl fun K67 h67 => ?_
            simp (disch := omega) only [S0, step1, reduceIte, Nat.reduceEqDiff]
            refine h67 _ _ ?_
            clear h67 K67
            refine awL_k rfl rfl fun K68 h68 => ?_
            simp (disch := omega) only [S0, step1, reduceIte, Nat.reduceEqDiff, List.toList_toArray, Option.some.injEq, buildP, Tryd.plc73, Tryd.zro73, fillV, splice, S3, V.one, S1, Nat.reduceAdd, Nat.reduceLeDiff, Nat.reduceMul, Nat.reduceSub, PB, KB]
            first | refine h68 _ _ ?_ | ((repeat' refine And.intro ?_ ?_); all_goals first | refine h68 _ _ ?_ | omega | rfl | exact Nat.le_of_ble_eq_true rfl | (simp only [List.length_append, List.length_cons, List.length_nil]; omega) | (simp; done) | (simp; omega))
            clear h68 K68
            refine awL_k rfl rfl fun K69 h69 => ?_
            simp (disch := omega) only [S0, step1, reduceIte, Nat.reduceEqDiff, buildSliceP, Tryd.elt52, S1, Nat.reduceAdd, Nat.reduceLeDiff, Nat.reduceMul, Nat.reduceSub, S2, V.bare, V.bare.bareL, PB, KB]
            first | refine ⟨(by intro h; cases h), (by first | rfl | decide), (by first | omega | (simp only [List.length_append, List.length_cons, List.length_nil, List.length_map]; omega) | (simp; done) | rfl | trivial), (by repeat first | exact parts_nil | refine parts_cons ⟨by first | rfl | simp [encP_len, encT_len], by first | rfl | simp [encP_one, encT_one, V.one], (by repeat first | exact PureL.nil | refine PureL.cons (by first | exact PureV.int _ _ | exact PureV.str _ | exact PureV.sl _ _ | exact PureV.bool _ | exact PureV.nil | (exact (encP_pure _).1) | (exact (encT_pure _).1)) ?_ | refine PureL.app ?_ ?_ | exact encT_pureL _ | exact encP_pureL _)⟩ ?_), h69 _ _ ?_⟩ | refine ⟨(by first | rfl | decide), (by first | omega | (simp only [List.length_append, List.length_cons, List.length_nil, List.length_map]; omega) | (simp; done) | rfl | trivial), (by repeat first | exact parts_nil | refine parts_cons ⟨by first | rfl | simp [encP_len, encT_len], by first | rfl | simp [encP_one, encT_one, V.one], (by repeat first | exact PureL.nil | refine PureL.cons (by first | exact PureV.int _ _ | exact PureV.str _ | exact PureV.sl _ _ | exact PureV.bool _ | exact PureV.nil | (exact (encP_pure _).1) | (exact (encT_pure _).1)) ?_ | refine PureL.app ?_ ?_ | exact encT_pureL _ | exact encP_pureL _)⟩ ?_), h69 _ _ ?_⟩ | refine ⟨(by intro h; cases h), (by first | omega | (simp only [List.length_append, List.length_cons, List.length_nil, List.length_map]; omega) | (simp; done) | rfl | trivial), (by repeat first | exact parts_nil | refine parts_cons ⟨by first | rfl | simp [encP_len, encT_len], by first | rfl | simp [encP_one, encT_one, V.one], (by repeat first | exact PureL.nil | refine PureL.cons (by first | exact PureV.int _ _ | exact PureV.str _ | exact PureV.sl _ _ | exact PureV.bool _ | exact PureV.nil | (exact (encP_pure _).1) | (exact (encT_pure _).1)) ?_ | refine PureL.app ?_ ?_ | exact encT_pureL _ | exact encP_pureL _)⟩ ?_), h69 _ _ ?_⟩ | refine ⟨(by first | omega | (simp only [List.length_append, List.length_cons, List.length_nil, List.length_map]; omega) | (simp; done) | rfl | trivial), (by repeat first | exact parts_nil | refine parts_cons ⟨by first | rfl | simp [encP_len, encT_len], by first | rfl | simp [encP_one, encT_one, V.one], (by repeat first | exact PureL.nil | refine PureL.cons (by first | exact PureV.int _ _ | exact PureV.str _ | exact PureV.sl _ _ | exact PureV.bool _ | exact PureV.nil | (exact (encP_pure _).1) | (exact (encT_pure _).1)) ?_ | refine PureL.app ?_ ?_ | exact encT_pureL _ | exact encP_pureL _)⟩ ?_), h69 _ _ ?_⟩ | refine ⟨(by intro h; cases h), (by first | rfl | decide), (by repeat first | exact parts_nil | refine parts_cons ⟨by first | rfl | simp [encP_len, encT_len], by first | rfl | simp [encP_one, encT_one, V.one], (by repeat first | exact PureL.nil | refine PureL.cons (by first | exact PureV.int _ _ | exact PureV.str _ | exact PureV.sl _ _ | exact PureV.bool _ | exact PureV.nil | (exact (encP_pure _).1) | (exact (encT_pure _).1)) ?_ | refine PureL.app ?_ ?_ | exact encT_pureL _ | exact encP_pureL _)⟩ ?_), h69 _ _ ?_⟩ | refine ⟨(by first | rfl | decide), (by repeat first | exact parts_nil | refine parts_cons ⟨by first | rfl | simp [encP_len, encT_len], by first | rfl | simp [encP_one, encT_one, V.one], (by repeat first | exact PureL.nil | refine PureL.cons (by first | exact PureV.int _ _ | exact PureV.str _ | exact PureV.sl _ _ | exact PureV.bool _ | exact PureV.nil | (exact (encP_pure _).1) | (exact (encT_pure _).1)) ?_ | refine PureL.app ?_ ?_ | exact encT_pureL _ | exact encP_pureL _)⟩ ?_), h69 _ _ ?_⟩ | refine ⟨(by intro h; cases h), (by repeat first | exact parts_nil | refine parts_cons ⟨by first | rfl | simp [encP_len, encT_len], by first | rfl | simp [encP_one, encT_one, V.one], (by repeat first | exact PureL.nil | refine PureL.cons (by first | exact PureV.int _ _ | exact PureV.str _ | exact PureV.sl _ _ | exact PureV.bool _ | exact PureV.nil | (exact (encP_pure _).1) | (exact (encT_pure _).1)) ?_ | refine PureL.app ?_ ?_ | exact encT_pureL _ | exact encP_pureL _)⟩ ?_), h69 _ _ ?_⟩ | refine ⟨(by repeat first | exact parts_nil | refine parts_cons ⟨by first | rfl | simp [encP_len, encT_len], by first | rfl | simp [encP_one, encT_one, V.one], (by repeat first | exact PureL.nil | refine PureL.cons (by first | exact PureV.int _ _ | exact PureV.str _ | exact PureV.sl _ _ | exact PureV.bool _ | exact PureV.nil | (exact (encP_pure _).1) | (exact (encT_pure _).1)) ?_ | refine PureL.app ?_ ?_ | exact encT_pureL _ | exact encP_pureL _)⟩ ?_), h69 _ _ ?_⟩
            clear h69 K69
            refine awL_k rfl rfl fun K70 h70 => ?_
            simp (disch := omega) only [S0, step1, reduceIte, Nat.reduceEqDiff, appendP, rowOf, Tryd.elt52, S1, Nat.reduceAdd, Nat.reduceLeDiff, Nat.reduceMul, Nat.reduceSub, S2, PB, KB]
            first | refine ⟨(by repeat first | exact els_nil | refine els_cons (by first | rfl | simp [encP_len, encT_len]) ?_), (by first | rfl | exact List.length_map _ | simp), (by first | omega | (simp only [maxLen, List.length_append, List.length_cons, List.length_nil, List.length_map]; omega) | (simp only [List.length_append, List.length_cons, List.length_nil, List.length_map]; omega)), (by first | omega | (simp only [maxLen, List.length_append, List.length_cons, List.length_nil, List.length_map]; omega) | (simp only [List.length_append, List.length_cons, List.length_nil, List.length_map]; omega)), h70 _ _ ?_⟩ | refine ⟨(by repeat first | exact els_nil | refine els_cons (by first | rfl | simp [encP_len, encT_len]) ?_), (by first | rfl | exact List.length_map _ | simp), (by first | omega | (simp only [maxLen, List.length_append, List.length_cons, List.length_nil, List.length_map]; omega) | (simp only [List.length_append, List.length_cons, List.length_nil, List.length_map]; omega)), (by first | omega | (simp only [maxLen, List.length_append, List.length_cons, List.length_nil, List.length_map]; omega) | (simp only [List.length_append, List.length_cons, List.length_nil, List.length_map]; omega)), (by first | omega | (simp only [maxLen, List.length_append, List.length_cons, List.length_nil, List.length_map]; omega) | (simp only [List.length_append, List.length_cons, List.length_nil, List.length_map]; omega)), h70 _ _ ?_⟩ | refine ⟨(by repeat first | exact els_nil | refine els_cons (by first | rfl | simp [encP_len, encT_len]) ?_), (by first | rfl | exact List.length_map _ | simp), (by first | omega | (simp only [maxLen, List.length_append, List.length_cons, List.length_nil, List.length_map]; omega) | (simp only [List.length_append, List.length_cons, List.length_nil, List.length_map]; omega)), h70 _ _ ?_⟩ | refine ⟨(by repeat first | exact els_nil | refine els_cons (by first | rfl | simp [encP_len, encT_len]) ?_), (by first | omega | (simp only [maxLen, List.length_append, List.length_cons, List.length_nil, List.length_map]; omega) | (simp only [List.length_append, List.length_cons, List.length_nil, List.length_map]; omega)), (by first | omega | (simp only [maxLen, List.length_append, List.length_cons, List.length_nil, List.length_map]; omega) | (simp only [List.length_append, List.length_cons, List.length_nil, List.length_map]; omega)), h70 _ _ ?_⟩ | refine ⟨(by repeat first | exact els_nil | refine els_cons (by first | rfl | simp [encP_len, encT_len]) ?_), (by first | omega | (simp only [maxLen, List.length_append, List.length_cons, List.length_nil, List.length_map]; omega) | (simp only [List.length_append, List.length_cons, List.length_nil, List.length_map]; omega)), (by first | omega | (simp only [maxLen, List.length_append, List.length_cons, List.length_nil, List.length_map]; omega) | (simp only [List.length_append, List.length_cons, List.length_nil, List.length_map]; omega)), (by first | omega | (simp only [maxLen, List.length_append, List.length_cons, List.length_nil, List.length_map]; omega) | (simp only [List.length_append, List.length_cons, List.length_nil, List.length_map]; omega)), h70 _ _ ?_⟩ | refine ⟨(by repeat first | exact els_nil | refine els_cons (by first | rfl | simp [encP_len, encT_len]) ?_), (by first | omega | (simp only [maxLen, List.length_append, List.length_cons, List.length_nil, List.length_map]; omega) | (simp only [List.length_append, List.length_cons, List.length_nil, List.length_map]; omega)), h70 _ _ ?_⟩
            clear h70 K70
            refine awL_k rfl rfl fun K71 h71 => ?_
            simp (disch := omega) only [S0, step1, reduceIte, Nat.reduceEqDiff]
            refine h71 _ _ ?_
            clear h71 K71
            refine hK27 _ _ ?_
            try clear hK27 K27
            refine AW.region ?_
            refine awL_k rfl rfl fun K72 h72 => ?_
            simp (disch := omega) only [S0, step1, reduceIte, Nat.reduceEqDiff]
            refine h72 _ _ ?_
            clear h72 K72
            refine awL_k rfl rfl fun K73 h73 => ?_
            simp (disch := omega) only [S0, step1, reduceIte, Nat.reduceEqDiff, isNilC, Bool.false_eq_true, binP, intP, strP, and_true, true_and, if_true, if_false, PB, Nat.reduceSub, Nat.reduceLeDiff, KB]
            first | refine h73 _ _ ?_ | ((repeat' refine And.intro ?_ ?_); all_goals first | refine h73 _ _ ?_ | omega | rfl | exact Nat.le_of_ble_eq_true rfl | (simp only [List.length_append, List.length_cons, List.length_nil]; omega) | (simp; done) | (simp; omega))
            clear h73 K73
            refine awL_k rfl rfl fun K74 h74 => ?_
            simp (disch := omega) only [S0, step1, reduceIte, Nat.reduceEqDiff]
            refine h74 _ _ ?_
            clear h74 K74
            have hp := partL_some (n := l.length) (clAt_some hlt hltk (by omega) (by assumption) (by assumption) (by assumption))
            refine ⟨⟨k + 1, by omega, by omega⟩, by simp only []; omega, _, Nat.le_refl _, Nat.le_of_ble_eq_true rfl, ⟨V.le_of_eq (by rw [Env.trim_get]; simp only [S0, reduceIte, Nat.reduceEqDiff, V.trim] <;> first | rfl | (rw [if_pos (by simp)]; done) | (simp; done)), V.le_of_eq (by rw [Env.trim_get]; simp only [S0, reduceIte, Nat.reduceEqDiff, V.trim, hp, List.map_append, List.map_cons, List.map_nil]; first | rfl | (rw [if_pos (by simp)]; done) | (rw [if_pos (by simp)]; rfl)), V.le_of_eq (by rw [Env.trim_get]; simp only [S0, reduceIte, Nat.reduceEqDiff, V.trim] <;> first | rfl | (rw [if_pos (by simp)]; done) | (simp; done)), V.le_of_eq (by rw [Env.trim_get]; simp only [S0, reduceIte, Nat.reduceEqDiff, V.trim] <;> first | rfl | (rw [if_pos (by simp)]; done) | (simp; done)), trivial⟩, StLe.of_eq (by simp only [hp]; first | exact hlc.trim | (rw [trimS_app hst (by simp)]; simp [O.trim]))⟩
          · skip
            try simp only [decide_eq_true_eq, decide_eq_false_iff_not, Bool.not_eq_true, Bool.not_eq_false, Bool.not_eq_true', Bool.not_eq_false', Int.not_lt, Int.not_le, ne_eq, Decidable.not_not, List.length_map, Bool.and_eq_true, Bool.or_eq_true, Bool.and_eq_false_imp, Int.ofNat_lt, Int.ofNat_le] at hb64
            refine AW.skip ?_
            refine hK27 _ _ ?_
            try clear hK27 K27
            refine AW.region ?_
            refine awL_k rfl rfl fun K75 h75 => ?_
            simp (disch := omega) only [S0, step1, reduceIte, Nat.reduceEqDiff]
            refine h75 _ _ ?_
            clear h75 K75
            refine awL_k rfl rfl fun K76 h76 => ?_
            simp (disch := omega) only [S0, step1, reduceIte, Nat.reduceEqDiff, isNilC, Bool.false_eq_true, binP, intP, strP, and_true, true_and, if_true, if_false, PB, Nat.reduceSub, Nat.reduceLeDiff, KB]
            first | refine h76 _ _ ?_ | ((repeat' refine And.intro ?_ ?_); all_goals first | refine h76 _ _ ?_ | omega | rfl | exact Nat.le_of_ble_eq_true rfl | (simp only [List.length_append, List.length_cons, List.length_nil]; omega) | (simp; done) | (simp; omega))
            clear h76 K76
            refine awL_k rfl rfl fun K77 h77 => ?_
            simp (disch := omega) only [S0, step1, reduceIte, Nat.reduceEqDiff]
            refine h77 _ _ ?_
            clear h77 K77
            have hp := partL_none (n := l.length) (clAt_none hlt hltk (.inr (.inr (.inr (by assumption)))))
            refine ⟨⟨k + 1, by omega, by omega⟩, by simp only []; omega, _, Nat.le_refl _, Nat.le_of_ble_eq_true rfl, ⟨V.le_of_eq (by rw [Env.trim_get]; simp only [S0, reduceIte, Nat.reduceEqDiff, V.trim] <;> first | rfl | (rw [if_pos (by simp)]; done) | (simp; done)), V.le_of_eq (by rw [Env.trim_get]; simp only [S0, reduceIte, Nat.reduceEqDiff, V.trim, hp, List.map_append, List.map_cons, List.map_nil]; first | rfl | (rw [if_pos (by simp)]; done) | (rw [if_pos (by simp)]; rfl)), V.le_of_eq (by rw [Env.trim_get]; simp only [S0, reduceIte, Nat.reduceEqDiff, V.trim] <;> first | rfl | (rw [if_pos (by simp)]; done) | (simp; done)), V.le_of_eq (by rw [Env.trim_get]; simp only [S0, reduceIte, Nat.reduceEqDiff, V.trim] <;> first | rfl | (rw [if_pos (by simp)]; done) | (simp; done)), trivial⟩, StLe.of_eq (by simp only [hp]; first | exact hlc.trim | (rw [trimS_app hst (by simp)]; simp [O.trim]))⟩
        · rw [hg52]
          try simp only [decide_eq_true_eq, decide_eq_false_iff_not, Bool.not_eq_true, Bool.not_eq_false, Bool.not_eq_true', Bool.not_eq_false', Int.not_lt, Int.not_le, ne_eq, Decidable.not_not, List.length_map, Bool.and_eq_true, Bool.or_eq_true, Bool.and_eq_false_imp, Int.ofNat_lt, Int.ofNat_le] at hg52
          refine awA_no rfl rfl rfl rfl ?_
          refine awA_no rfl rfl rfl rfl ?_
          refine awA_no rfl rfl rfl rfl ?_
          refine awA_no rfl rfl rfl rfl ?_
          refine awA_no rfl rfl rfl rfl ?_
          refine awA_no rfl rfl rfl rfl ?_
          refine awA_no rfl rfl rfl rfl ?_
          refine awA_no rfl rfl rfl rfl ?_
          show awA _ _ _ [] _ _ _ _
          simp only [awA, applyUps, List.nil_append, List.cons_append, S2]
          show awL _ _ _ _ _ _ _
          refine awL_no rfl rfl rfl rfl ?_
          refine awL_no rfl rfl rfl rfl ?_
          refine awL_k rfl rfl fun K78 h78 => ?_
          simp (disch := omega) only [S0, step1, reduceIte, Nat.reduceEqDiff]
          refine h78 _ _ ?_
          clear h78 K78
          refine hK28 _ _ ?_
          try clear hK28 K28
          refine AW.condK _ rfl (fun hb79 => ?_) (fun hb79 => ?_)
          · skip
            cases hb79
          · skip
            refine AW.skip ?_
            refine hK27 _ _ ?_
            try clear hK27 K27
            refine AW.region ?_
            refine awL_k rfl rfl fun K80 h80 => ?_
            simp (disch := omega) only [S0, step1, reduceIte, Nat.reduceEqDiff]
            refine h80 _ _ ?_
            clear h80 K80
            refine awL_k rfl rfl fun K81 h81 => ?_
            simp (disch := omega) only [S0, step1, reduceIte, Nat.reduceEqDiff, isNilC, Bool.false_eq_true, binP, intP, strP, and_true, true_and, if_true, if_false, PB, Nat.reduceSub, Nat.reduceLeDiff, KB]
            first | refine h81 _ _ ?_ | ((repeat' refine And.intro ?_ ?_); all_goals first | refine h81 _ _ ?_ | omega | rfl | exact Nat.le_of_ble_eq_true rfl | (simp only [List.length_append, List.length_cons, List.length_nil]; omega) | (simp; done) | (simp; omega))
            clear h81 K81
            refine awL_k rfl rfl fun K82 h82 => ?_
            simp (disch := omega) only [S0, step1, reduceIte, Nat.reduceEqDiff]
            refine h82 _ _ ?_
            clear h82 K82
            have hp := partL_none (n := l.length) (clAt_none hlt hltk (.inr (.inr (.inl (by assumption)))))
            refine ⟨⟨k + 1, by omega, by omega⟩, by simp only []; omega, _, Nat.le_refl _, Nat.le_of_ble_eq_true rfl, ⟨V.le_of_eq (by rw [Env.trim_get]; simp only [S0, reduceIte, Nat.reduceEqDiff, V.trim] <;> first | rfl | (rw [if_pos (by simp)]; done) | (simp; done)), V.le_of_eq (by rw [Env.trim_get]; simp only [S0, reduceIte, Nat.reduceEqDiff, V.trim, hp, List.map_append, List.map_cons, List.map_nil]; first | rfl | (rw [if_pos (by simp)]; done) | (rw [if_pos (by simp)]; rfl)), V.le_of_eq (by rw [Env.trim_get]; simp only [S0, reduceIte, Nat.reduceEqDiff, V.trim] <;> first | rfl | (rw [if_pos (by simp)]; done) | (simp; done)), V.le_of_eq (by rw [Env.trim_get]; simp only [S0, reduceIte, Nat.reduceEqDiff, V.trim] <;> first | rfl | (rw [if_pos (by simp)]; done) | (simp; done)), trivial⟩, StLe.of_eq (by simp only [hp]; first | exact hlc.trim | (rw [trimS_app hst (by simp)]; simp [O.trim]))⟩
      · rw [hg39]
        try simp only [decide_eq_true_eq, decide_eq_false_iff_not, Bool.not_eq_true, Bool.not_eq_false, Bool.not_eq_true', Bool.not_eq_false', Int.not_lt, Int.not_le, ne_eq, Decidable.not_not, List.length_map, Bool.and_eq_true, Bool.or_eq_true, Bool.and_eq_false_imp, Int.ofNat_lt, Int.ofNat_le] at hg39
        refine awA_no rfl rfl rfl rfl ?_
        refine awA_no rfl rfl rfl rfl ?_
        refine awA_no rfl rfl rfl rfl ?_
        refine awA_no rfl rfl rfl rfl ?_
        refine awA_no rfl rfl rfl rfl ?_
        refine awA_no rfl rfl rfl rfl ?_
        refine awA_no rfl rfl rfl rfl ?_
        refine awA_no rfl rfl rfl rfl ?_
        refine awA_no rfl rfl rfl rfl ?_
        refine awA_no rfl rfl rfl rfl ?_
        refine awA_c rfl rfl rfl fun K83 h83 => ?_
        simp (disch := omega) only [S0, step1, reduceIte, Nat.reduceEqDiff]
        refine h83 _ _ rfl ?_
        clear h83 K83
        refine awA_c rfl rfl rfl fun K84 h84 => ?_
        simp (disch := omega) only [S0, step1, reduceIte, Nat.reduceEqDiff]
        refine h84 _ _ rfl ?_
        clear h84 K84
        refine awA_no rfl rfl rfl rfl ?_
        refine awA_no rfl rfl rfl rfl ?_
        refine awA_no rfl rfl rfl rfl ?_
        refine awA_no rfl rfl rfl rfl ?_
        refine awA_no rfl rfl rfl rfl ?_
        refine awA_no rfl rfl rfl rfl ?_
        refine awA_no rfl rfl rfl rfl ?_
        refine awA_no rfl rfl rfl rfl ?_
        show awA _ _ _ [] _ _ _ _
        simp only [awA, applyUps, List.nil_append, List.cons_append, S2]
        show awL _ _ _ _ _ _ _
        refine awL_no rfl rfl rfl rfl ?_
        refine awL_no rfl rfl rfl rfl ?_
        refine awL_k rfl rfl fun K85 h85 => ?_
        simp (disch := omega) only [S0, step1, reduceIte, Nat.reduceEqDiff]
        refine h85 _ _ ?_
        clear h85 K85
        refine hK28 _ _ ?_
        try clear hK28 K28
        refine AW.condK _ rfl (fun hb86 => ?_) (fun hb86 => ?_)
        · skip
          cases hb86
        · skip
          refine AW.skip ?_
          refine hK27 _ _ ?_
          try clear hK27 K27
          refine AW.region ?_
          refine awL_k rfl rfl fun K87 h87 => ?_
          simp (disch := omega) only [S0, step1, reduceIte, Nat.reduceEqDiff]
          refine h87 _ _ ?_
          clear h87 K87
          refine awL_k rfl rfl fun K88 h88 => ?_
          simp (disch := omega) only [S0, step1, reduceIte, Nat.reduceEqDiff, isNilC, Bool.false_eq_true, binP, intP, strP, and_true, true_and, if_true, if_false, PB, Nat.reduceSub, Nat.reduceLeDiff, KB]
          first | refine h88 _ _ ?_ | ((repeat' refine And.intro ?_ ?_); all_goals first | refine h88 _ _ ?_ | omega | rfl | exact Nat.le_of_ble_eq_true rfl | (simp only [List.length_append, List.length_cons, List.length_nil]; omega) | (simp; done) | (simp; omega))
          clear h88 K88
          refine awL_k rfl rfl fun K89 h89 => ?_
          simp (disch := omega) only [S0, step1, reduceIte, Nat.reduceEqDiff]
          refine h89 _ _ ?_
          clear h89 K89
          have hp := partL_none (n := l.length) (clAt_none hlt hltk (.inr (.inl (by assumption))))
          refine ⟨⟨k + 1, by omega, by omega⟩, by simp only []; omega, _, Nat.le_refl _, Nat.le_of_ble_eq_true rfl, ⟨V.le_of_eq (by rw [Env.trim_get]; simp only [S0, reduceIte, Nat.reduceEqDiff, V.trim] <;> first | rfl | (rw [if_pos (by simp)]; done) | (simp; done)), V.le_of_eq (by rw [Env.trim_get]; simp only [S0, reduceIte, Nat.reduceEqDiff, V.trim, hp, List.map_append, List.map_cons, List.map_nil]; first | rfl | (rw [if_pos (by simp)]; done) | (rw [if_pos (by simp)]; rfl)), V.le_of_eq (by rw [Env.trim_get]; simp only [S0, reduceIte, Nat.reduceEqDiff, V.trim] <;> first | rfl | (rw [if_pos (by simp)]; done) | (simp; done)), V.le_of_eq (by rw [Env.trim_get]; simp only [S0, reduceIte, Nat.reduceEqDiff, V.trim] <;> first | rfl | (rw [if_pos (by simp)]; done) | (simp; done)), trivial⟩, StLe.of_eq (by simp only [hp]; first | exact hlc.trim | (rw [trimS_app hst (by simp)]; simp [O.trim]))⟩
    · skip
      try simp only [decide_eq_true_eq, decide_eq_false_iff_not, Bool.not_eq_true, Bool.not_eq_false, Bool.not_eq_true', Bool.not_eq_false', Int.not_lt, Int.not_le, ne_eq, Decidable.not_not, List.length_map, Bool.and_eq_true, Bool.or_eq_true, Bool.and_eq_false_imp, Int.ofNat_lt, Int.ofNat_le] at hb26
      refine AW.exit ?_
      refine hK15 _ _ ?_
      try clear hK15 K15
      refine AW.region ?_
      refine awL_k rfl rfl fun K90 h90 => ?_
      simp (disch := omega) only [S0, step1, reduceIte, Nat.reduceEqDiff]
      refine h90 _ _ ?_
      clear h90 K90
      refine awL_k rfl rfl fun K91 h91 => ?_
      simp (disch := omega) only [S0, step1, reduceIte, Nat.reduceEqDiff, isNilC, Bool.false_eq_true, binP, intP, strP, and_true, true_and, if_true, if_false, PB, Nat.reduceSub, Nat.reduceLeDiff, KB]
      first | refine h91 _ _ ?_ | ((repeat' refine And.intro ?_ ?_); all_goals first | refine h91 _ _ ?_ | omega | rfl | exact Nat.le_of_ble_eq_true rfl | (simp only [List.length_append, List.length_cons, List.length_nil]; omega) | (simp; done) | (simp; omega))
      clear h91 K91
      refine awL_k rfl rfl fun K92 h92 => ?_
      simp (disch := omega) only [S0, step1, reduceIte, Nat.reduceEqDiff]
      refine h92 _ _ ?_
      clear h92 K92
      have hkn : k = l.length := by omega
      refine ⟨⟨i + 1, by omega⟩, by simp only []; omega, _, Nat.le_refl _, Nat.le_of_ble_eq_true rfl, ⟨V.le_of_eq (by rw [Env.trim_get]; simp only [S0, reduceIte, Nat.reduceEqDiff, V.trim] <;> first | rfl | (rw [if_pos (by simp)]; done) | (simp; done)), V.le_of_eq (by rw [Env.trim_get]; subst hkn; simp only [S0, reduceIte, Nat.reduceEqDiff, V.trim, partL_turn]; rw [if_pos (by simp)]), V.le_of_eq (by rw [Env.trim_get]; simp only [S0, reduceIte, Nat.reduceEqDiff, V.trim] <;> first | rfl | (rw [if_pos (by simp)]; done) | (simp; done)), trivial⟩, StLe.of_eq (by subst hkn; rw [trimS_app hst (by simp)]; simp [O.trim, partL_turn])⟩
  · skip
    try simp only [decide_eq_true_eq, decide_eq_false_iff_not, Bool.not_eq_true, Bool.not_eq_false, Bool.not_eq_true', Bool.not_eq_false', Int.not_lt, Int.not_le, ne_eq, Decidable.not_not, List.length_map, Bool.and_eq_true, Bool.or_eq_true, Bool.and_eq_false_imp, Int.ofNat_lt, Int.ofNat_le] at hb14
    have hge : i = l.length := by omega
    refine AW.exit ?_
    refine hK5 _ _ ?_
    try clear hK5 K5
    refine AW.seqK fun K93 hK93 => ?_
    refine AW.region ?_
    refine awL_k rfl rfl fun K94 h94 => ?_
    simp (disch := omega) only [S0, step1, reduceIte, Nat.reduceEqDiff]
    refine h94 _ _ ?_
    clear h94 K94
    refine awL_k rfl rfl fun K95 h95 => ?_
    simp (disch := omega) only [S0, step1, reduceIte, Nat.reduceEqDiff]
    refine h95 _ _ ?_
    clear h95 K95
    refine hK93 _ _ ?_
    try clear hK93 K93
    refine AW.ret ?_
    show (_ ∨ _) ∧ _
    refine ⟨.inr rfl, ?_⟩
    show resP _ _ _ [.tmp 2] _
    simp only [resP, resV, V.trim, V.trim.trimL, S0, reduceIte, Nat.reduceEqDiff]
    refine ⟨_, _, _, Nat.le_refl _, V.le_refl _ _, StLe.refl _, ?_⟩
    exact ⟨by subst hge; rw [partL_end, if_neg (Nat.lt_irrefl _)]; rfl, hst.trim_append _⟩

set_option maxHeartbeats 8000000 in
theorem rwait_spec (l : List Pr) (hn : l.length ≤ 1000000) (hL : ∀ x ∈ l, hasL x) (st : List O) : Duo.Call Tryd.prog Tryd.gl 26 [.sl (l.map encP) none] st (fun v st' => v = .sl ((waitL l).map encI) none ∧ st' = st) := by
  refine Duo.Call.clo fun hst => ?_
  refine Duo.Call.real fun hr => ?_
  have hll : (listL l).length ≤ 1000001000000 := by rw [listL, ← partL_end]; exact partL_len (by omega) (Nat.le_refl _) (Nat.zero_le _)
  refine Duo.Call.body 48 [(0, .sl (l.map encP) none)] Tryd.func26 rfl rfl ?_
  refine AW.seqK fun K1 hK1 => ?_
  refine AW.region ?_
  refine awL_k rfl rfl fun K2 h2 => ?_
  simp (disch := omega) only [S0, step1, reduceIte, Nat.reduceEqDiff]
  refine h2 _ _ ?_
  clear h2 K2
  refine hK1 _ _ ?_
  try clear hK1 K1
  refine AW.seqK fun K3 hK3 => ?_
  refine AW.region ?_
  refine awL_k rfl rfl fun K4 h4 => ?_
  simp (disch := omega) only [S0, step1, reduceIte, Nat.reduceEqDiff]
  refine h4 _ _ ?_
  clear h4 K4
  refine awL_k rfl rfl fun K5 h5 => ?_
  show ent _ _ = true ∧ _
  try simp only [S0, reduceIte, Nat.reduceEqDiff, PB, Nat.reduceSub, Nat.reduceLeDiff, encR_cells, List.take_succ_cons, List.take_zero, Option.toList, List.map, List.nil_append, List.append_nil, List.singleton_append, List.cons_append, List.toList_toArray]
  refine ⟨Tryd.ent20, Duo.Call.mono (rlist_spec _ (by omega) (by assumption) _) ?_⟩
  rintro _ _ ⟨rfl, hcs⟩
  obtain rfl := hcs.symm
  refine h5 _ _ ?_
  clear h5 K5
  refine awL_k rfl rfl fun K6 h6 => ?_
  simp (disch := omega) only [S0, step1, reduceIte, Nat.reduceEqDiff]
  refine h6 _ _ ?_
  clear h6 K6
  refine hK3 _ _ ?_
  try clear hK3 K3
  refine AW.seqK fun K7 hK7 => ?_
  refine AW.region ?_
  refine awL_k rfl rfl fun K8 h8 => ?_
  simp (disch := omega) only [S0, step1, reduceIte, Nat.reduceEqDiff]
  refine h8 _ _ ?_
  clear h8 K8
  refine hK7 _ _ ?_
  try clear hK7 K7
  refine AW.seqK fun K9 hK9 => ?_
  refine AW.seqK fun K10 hK10 => ?_
  refine AW.region ?_
  refine awL_k rfl rfl fun K11 h11 => ?_
  simp (disch := omega) only [S0, step1, reduceIte, Nat.reduceEqDiff]
  refine h11 _ _ ?_
  clear h11 K11
  refine hK10 _ _ ?_
  try clear hK10 K10
  refine AW.block ?_
  refine AW.tok 3 1 ?_
  refine AW.loop (α := { i : Nat // i ≤ l.length }) 48 (fun i => [(0, .sl (l.map encP) none), (3, .sl ((listL l).map encR) none), (4, .sl ((idleL (listL l) i.1).map encI) (some st.length)), (5, .int .i64 (i.1 : Nat))]) (fun i => st ++ [.tok 3 1 (idleL (listL l) i.1).length]) (fun i => l.length - i.1) ⟨0, Nat.zero_le _⟩ (by show _ ≤ _; exact Nat.le_of_ble_eq_true rfl) ⟨V.le_of_eq (by first | rfl | simp), V.le_of_eq (by first | rfl | simp), (V.le_nil_tok (by rw [st_get0]; rfl)), V.le_of_eq (by first | rfl | simp), trivial⟩ (StLe.of_eq rfl) ?_
  rintro ⟨i, hi⟩
  dsimp only
  have hb := idle_len (listL l) i
  refine AW.clo fun hlc => ?_
  refine AW.seqK fun K12 hK12 => ?_
  refine AW.seqK fun K13 hK13 => ?_
  refine AW.region ?_
  refine awL_k rfl rfl fun K14 h14 => ?_
  simp (disch := omega) only [S0, step1, reduceIte, Nat.reduceEqDiff]
  refine h14 _ _ ?_
  clear h14 K14
  refine awL_k rfl rfl fun K15 h15 => ?_
  simp (disch := omega) only [S0, step1, reduceIte, Nat.reduceEqDiff]
  refine h15 _ _ ?_
  clear h15 K15
  refine awL_k rfl rfl fun K16 h16 => ?_
  simp (disch := omega) only [S0, step1, reduceIte, Nat.reduceEqDiff, lenP, Tryd.elt27, Option.isSome, true_and, S1, Nat.reduceAdd, Nat.reduceLeDiff, Nat.reduceMul, Nat.reduceSub, S2, PB, encR_cells, List.take_succ_cons, List.take_zero, KB]
  first | refine h16 _ _ ?_ | ((repeat' refine And.intro ?_ ?_); all_goals first | refine h16 _ _ ?_ | omega | rfl | exact Nat.le_of_ble_eq_true rfl | (simp only [List.length_append, List.length_cons, List.length_nil]; omega) | (simp; done) | (simp; omega))
  clear h16 K16
  refine awL_k rfl rfl fun K17 h17 => ?_
  simp (disch := omega) only [S0, step1, reduceIte, Nat.reduceEqDiff, isNilC, Bool.false_eq_true, binP, intP, strP, and_true, true_and, if_true, if_false, PB, Nat.reduceSub, Nat.reduceLeDiff, encR_cells, List.take_succ_cons, List.take_zero, KB]
  first | refine h17 _ _ ?_ | ((repeat' refine And.intro ?_ ?_); all_goals first | refine h17 _ _ ?_ | omega | rfl | exact Nat.le_of_ble_eq_true rfl | (simp only [List.length_append, List.length_cons, List.length_nil]; omega) | (simp; done) | (simp; omega))
  clear h17 K17
  refine hK13 _ _ ?_
  try clear hK13 K13
  refine AW.condK _ rfl (fun hb18 => ?_) (fun hb18 => ?_)
  · skip
    try simp only [decide_eq_true_eq, decide_eq_false_iff_not, Bool.not_eq_true, Bool.not_eq_false, Bool.not_eq_true', Bool.not_eq_false', Int.not_lt, Int.not_le, ne_eq, Decidable.not_not, List.length_map, Bool.and_eq_true, Bool.or_eq_true, Bool.and_eq_false_imp, Int.ofNat_lt, Int.ofNat_le] at hb18
    have hlt : i < l.length := by omega
    refine AW.skip ?_
    refine hK12 _ _ ?_
    try clear hK12 K12
    refine AW.seqK fun K19 hK19 => ?_
    refine AW.block ?_
    refine AW.seqK fun K20 hK20 => ?_
    refine AW.region ?_
    refine awL_k rfl rfl fun K21 h21 => ?_
    simp (disch := omega) only [S0, step1, reduceIte, Nat.reduceEqDiff]
    refine h21 _ _ ?_
    clear h21 K21
    refine hK20 _ _ ?_
    try clear hK20 K20
    refine AW.seqK fun K22 hK22 => ?_
    refine AW.seqK fun K23 hK23 => ?_
    refine AW.region ?_
    refine awL_k rfl rfl fun K24 h24 => ?_
    simp (disch := omega) only [S0, step1, reduceIte, Nat.reduceEqDiff]
    refine h24 _ _ ?_
    clear h24 K24
    refine hK23 _ _ ?_
    try clear hK23 K23
    refine AW.block ?_
    refine AW.loop (α := { k : Nat // k ≤ (listL l).length }) 48 (fun k => [(0, .sl (l.map encP) none), (3, .sl ((listL l).map encR) none), (4, .sl ((idleL (listL l) i).map encI) (some st.length)), (5, .int .i64 (i : Nat)), (6, .bool (busyL ((listL l).take k.1) i)), (7, .int .i64 (k.1 : Nat))]) (fun k => st ++ [.tok 3 1 (idleL (listL l) i).length]) (fun k => (listL l).length - k.1) ⟨0, by omega⟩ (by show _ ≤ _; exact Nat.le_of_ble_eq_true rfl) ⟨V.le_of_eq (by first | rfl | simp), V.le_of_eq (by first | rfl | simp), V.le_of_eq (by first | rfl | simp), V.le_of_eq (by first | rfl | simp), V.le_of_eq (by first | rfl | simp), V.le_of_eq (by first | rfl | simp), trivial⟩ (StLe.of_eq rfl) ?_
    rintro ⟨k, hk⟩
    dsimp only
    refine AW.clo fun hlc => ?_
    refine AW.seqK fun K25 hK25 => ?_
    refine AW.seqK fun K26 hK26 => ?_
    refine AW.region ?_
    refine awL_k rfl rfl fun K27 h27 => ?_
    simp (disch := omega) only [S0, step1, reduceIte, Nat.reduceEqDiff]
    refine h27 _ _ ?_
    clear h27 K27
    refine awL_k rfl rfl fun K28 h28 => ?_
    simp (disch := omega) only [S0, step1, reduceIte, Nat.reduceEqDiff]
    refine h28 _ _ ?_
    clear h28 K28
    refine awL_k rfl rfl fun K29 h29 => ?_
    simp (disch := omega) only [S0, step1, reduceIte, Nat.reduceEqDiff, lenP, Tryd.elt49, Option.isSome, true_and, S1, Nat.reduceAdd, Nat.reduceLeDiff, Nat.reduceMul, Nat.reduceSub, S2, PB, encR_cells, List.take_succ_cons, List.take_zero, KB]
    first | refine h29 _ _ ?_ | ((repeat' refine And.intro ?_ ?_); all_goals first | refine h29 _ _ ?_ | omega | rfl | exact Nat.le_of_ble_eq_true rfl | (simp only [List.length_append, List.length_cons, List.length_nil]; omega) | (simp; done) | (simp; omega))
    clear h29 K29
    refine awL_k rfl rfl fun K30 h30 => ?_
    simp (disch := omega) only [S0, step1, reduceIte, Nat.reduceEqDiff, isNilC, Bool.false_eq_true, binP, intP, strP, and_true, true_and, if_true, if_false, PB, Nat.reduceSub, Nat.reduceLeDiff, encR_cells, List.take_succ_cons, List.take_zero, KB]
    first | refine h30 _ _ ?_ | ((repeat' refine And.intro ?_ ?_); all_goals first | refine h30 _ _ ?_ | omega | rfl | exact Nat.le_of_ble_eq_true rfl | (simp only [List.length_append, List.length_cons, List.length_nil]; omega) | (simp; done) | (simp; omega))
    clear h30 K30
    refine hK26 _ _ ?_
    try clear hK26 K26
    refine AW.condK _ rfl (fun hb31 => ?_) (fun hb31 => ?_)
    · skip
      try simp only [decide_eq_true_eq, decide_eq_false_iff_not, Bool.not_eq_true, Bool.not_eq_false, Bool.not_eq_true', Bool.not_eq_false', Int.not_lt, Int.not_le, ne_eq, Decidable.not_not, List.length_map, Bool.and_eq_true, Bool.or_eq_true, Bool.and_eq_false_imp, Int.ofNat_lt, Int.ofNat_le] at hb31
      have hltk : k < (listL l).length := by omega
      refine AW.skip ?_
      refine hK25 _ _ ?_
      try clear hK25 K25
      refine AW.seqK fun K32 hK32 => ?_
      refine AW.block ?_
      refine AW.region ?_
      refine awL_k rfl rfl fun K33 h33 => ?_
      simp (disch := omega) only [S0, step1, reduceIte, Nat.reduceEqDiff]
      refine h33 _ _ ?_
      clear h33 K33
      refine awL_k rfl rfl fun K34 h34 => ?_
      simp (disch := omega) only [S0, step1, reduceIte, Nat.reduceEqDiff]
      refine h34 _ _ ?_
      clear h34 K34
      refine awL_case 23 rfl (fun hg35 => ?_) (fun hg35 => ?_)
      · rw [hg35]
        try simp only [decide_eq_true_eq, decide_eq_false_iff_not, Bool.not_eq_true, Bool.not_eq_false, Bool.not_eq_true', Bool.not_eq_false', Int.not_lt, Int.not_le, ne_eq, Decidable.not_not, List.length_map, Bool.and_eq_true, Bool.or_eq_true, Bool.and_eq_false_imp, Int.ofNat_lt, Int.ofNat_le] at hg35
        refine awL_no rfl rfl rfl rfl ?_
        refine awL_no rfl rfl rfl rfl ?_
        refine awL_no rfl rfl rfl rfl ?_
        refine awL_no rfl rfl rfl rfl ?_
        refine awL_no rfl rfl rfl rfl ?_
        refine awL_no rfl rfl rfl rfl ?_
        refine awL_no rfl rfl rfl rfl ?_
        refine awL_k rfl rfl fun K36 h36 => ?_
        simp (disch := omega) only [S0, step1, reduceIte, Nat.reduceEqDiff]
        refine h36 _ _ ?_
        clear h36 K36
        refine awL_k rfl rfl fun K37 h37 => ?_
        simp (disch := omega) only [S0, step1, reduceIte, Nat.reduceEqDiff]
        refine h37 _ _ ?_
        clear h37 K37
        refine awL_no rfl rfl rfl rfl ?_
        refine awL_no rfl rfl rfl rfl ?_
        refine awL_no rfl rfl rfl rfl ?_
        refine awL_no rfl rfl rfl rfl ?_
        refine awL_no rfl rfl rfl rfl ?_
        refine awL_no rfl rfl rfl rfl ?_
        refine awL_no rfl rfl rfl rfl ?_
        refine awL_k rfl rfl fun K38 h38 => ?_
        simp (disch := omega) only [S0, step1, reduceIte, Nat.reduceEqDiff]
        refine h38 _ _ ?_
        clear h38 K38
        refine awL_k rfl rfl fun K39 h39 => ?_
        simp (disch := omega) only [S0, step1, reduceIte, Nat.reduceEqDiff]
        refine h39 _ _ ?_
        clear h39 K39
        refine hK32 _ _ ?_
        try clear hK32 K32
        refine AW.region ?_
        refine awL_k rfl rfl fun K40 h40 => ?_
        simp (disch := omega) only [S0, step1, reduceIte, Nat.reduceEqDiff]
        refine h40 _ _ ?_
        clear h40 K40
        refine awL_k rfl rfl fun K41 h41 => ?_
        simp (disch := omega) only [S0, step1, reduceIte, Nat.reduceEqDiff, isNilC, Bool.false_eq_true, binP, intP, strP, and_true, true_and, if_true, if_false, PB, Nat.reduceSub, Nat.reduceLeDiff, encR_cells, List.take_succ_cons, List.take_zero, KB]
        first | refine h41 _ _ ?_ | ((repeat' refine And.intro ?_ ?_); all_goals first | refine h41 _ _ ?_ | omega | rfl | exact Nat.le_of_ble_eq_true rfl | (simp only [List.length_append, List.length_cons, List.length_nil]; omega) | (simp; done) | (simp; omega))
        clear h41 K41
        refine awL_k rfl rfl fun K42 h42 => ?_
        simp (disch := omega) only [S0, step1, reduceIte, Nat.reduceEqDiff]
        refine h42 _ _ ?_
        clear h42 K42
        have hp := busy_succ hltk i
        refine ⟨⟨k + 1, by omega⟩, by simp only []; omega, _, Nat.le_refl _, Nat.le_of_ble_eq_true rfl, ⟨V.le_of_eq (by rw [Env.trim_get]; simp only [S0, reduceIte, Nat.reduceEqDiff, V.trim] <;> first | rfl | (rw [if_pos (by simp)]; done) | (simp; done)), V.le_of_eq (by rw [Env.trim_get]; simp only [S0, reduceIte, Nat.reduceEqDiff, V.trim] <;> first | rfl | (rw [if_pos (by simp)]; done) | (simp; done)), V.le_of_eq (by rw [Env.trim_get]; simp only [S0, reduceIte, Nat.reduceEqDiff, V.trim] <;> first | rfl | (rw [if_pos (by simp)]; done) | (simp; done)), V.le_of_eq (by rw [Env.trim_get]; simp only [S0, reduceIte, Nat.reduceEqDiff, V.trim] <;> first | rfl | (rw [if_pos (by simp)]; done) | (simp; done)), V.le_of_eq (by rw [Env.trim_get]; simp_all [S0, V.trim]), V.le_of_eq (by rw [Env.trim_get]; simp only [S0, reduceIte, Nat.reduceEqDiff, V.trim] <;> first | rfl | (rw [if_pos (by simp)]; done) | (simp; done)), trivial⟩, StLe.of_eq (by first | exact hlc.trim | exact trimS_pre hlc rfl | exact hlc.trim_append _)⟩
      · rw [hg35]
        try simp only [decide_eq_true_eq, decide_eq_false_iff_not, Bool.not_eq_true, Bool.not_eq_false, Bool.not_eq_true', Bool.not_eq_false', Int.not_lt, Int.not_le, ne_eq, Decidable.not_not, List.length_map, Bool.and_eq_true, Bool.or_eq_true, Bool.and_eq_false_imp, Int.ofNat_lt, Int.ofNat_le] at hg35
        refine awL_kyes rfl rfl rfl rfl fun K43 h43 => ?_
        simp (disch := omega) only [S0, step1, reduceIte, Nat.reduceEqDiff]
        refine h43 _ _ ?_
        clear h43 K43
        refine awL_kyes rfl rfl rfl rfl fun K44 h44 => ?_
        simp (disch := omega) only [S0, step1, reduceIte, Nat.reduceEqDiff]
        refine h44 _ _ ?_
        clear h44 K44
        refine awL_kyes rfl rfl rfl rfl fun K45 h45 => ?_
        simp (disch := omega) only [S0, step1, reduceIte, Nat.reduceEqDiff, iaP, Tryd.elt49, S3, V.one, S1, Nat.reduceAdd, Nat.reduceLeDiff, Nat.reduceMul, Nat.reduceSub, S2, PB, encR_cells, List.take_succ_cons, List.take_zero, KB]
        first | refine h45 _ _ ?_ | ((repeat' refine And.intro ?_ ?_); all_goals first | refine h45 _ _ ?_ | omega | rfl | exact Nat.le_of_ble_eq_true rfl | (simp only [List.length_append, List.length_cons, List.length_nil]; omega) | (simp; done) | (simp; omega))
        clear h45 K45
        refine awL_kyes rfl rfl rfl rfl fun K46 h46 => ?_
        simp (disch := omega) only [S0, step1, reduceIte, Nat.reduceEqDiff, faP, Tryd.fld91_0, Nat.zero_lt_succ, Nat.lt_add_one, S1, Nat.reduceAdd, Nat.reduceLeDiff, Nat.reduceMul, Nat.reduceSub, PB, encR_cells, List.take_succ_cons, List.take_zero, KB]
        first | refine h46 _ _ ?_ | ((repeat' refine And.intro ?_ ?_); all_goals first | refine h46 _ _ ?_ | omega | rfl | exact Nat.le_of_ble_eq_true rfl | (simp only [List.length_append, List.length_cons, List.length_nil]; omega) | (simp; done) | (simp; omega))
        clear h46 K46
        refine awL_kyes rfl rfl rfl rfl fun K47 h47 => ?_
        simp (disch := omega) only [S0, step1, reduceIte, Nat.reduceEqDiff, loadP, Tryd.lay3, pack, S1, Nat.reduceAdd, Nat.reduceLeDiff, Nat.reduceMul, Nat.reduceSub, S2, PB, encR_cells, List.take_succ_cons, List.take_zero, KB]
        first | refine h47 _ _ ?_ | ((repeat' refine And.intro ?_ ?_); all_goals first | refine h47 _ _ ?_ | omega | rfl | exact Nat.le_of_ble_eq_true rfl | (simp only [List.length_append, List.length_cons, List.length_nil]; omega) | (simp; done) | (simp; omega))
        clear h47 K47
        refine awL_kyes rfl rfl rfl rfl fun K48 h48 => ?_
        simp (disch := omega) only [S0, step1, reduceIte, Nat.reduceEqDiff]
        refine h48 _ _ ?_
        clear h48 K48
        refine awL_kyes rfl rfl rfl rfl fun K49 h49 => ?_
        simp (disch := omega) only [S0, step1, reduceIte, Nat.reduceEqDiff, isNilC, Bool.false_eq_true, binP, intP, strP, and_true, true_and, if_true, if_false, PB, Nat.reduceSub, Nat.reduceLeDiff, encR_cells, List.take_succ_cons, List.take_zero, KB]
        first | refine h49 _ _ ?_ | ((repeat' refine And.intro ?_ ?_); all_goals first | refine h49 _ _ ?_ | omega | rfl | exact Nat.le_of_ble_eq_true rfl | (simp only [List.length_append, List.length_cons, List.length_nil]; omega) | (simp; done) | (simp; omega))
        clear h49 K49
        refine awL_k rfl rfl fun K50 h50 => ?_
        simp (disch := omega) only [S0, step1, reduceIte, Nat.reduceEqDiff]
        refine h50 _ _ ?_
        clear h50 K50
        refine awL_k rfl rfl fun K51 h51 => ?_
        simp (disch := omega) only [S0, step1, reduceIte, Nat.reduceEqDiff]
        refine h51 _ _ ?_
        clear h51 K51
        refine awL_case 32 rfl (fun hg52 => ?_) (fun hg52 => ?_)
        · rw [hg52]
          try simp only [decide_eq_true_eq, decide_eq_false_iff_not, Bool.not_eq_true, Bool.not_eq_false, Bool.not_eq_true', Bool.not_eq_false', Int.not_lt, Int.not_le, ne_eq, Decidable.not_not, List.length_map, Bool.and_eq_true, Bool.or_eq_true, Bool.and_eq_false_imp, Int.ofNat_lt, Int.ofNat_le] at hg52
          refine awL_no rfl rfl rfl rfl ?_
          refine awL_no rfl rfl rfl rfl ?_
          refine awL_no rfl rfl rfl rfl ?_
          refine awL_no rfl rfl rfl rfl ?_
          refine awL_no rfl rfl rfl rfl ?_
          refine awL_no rfl rfl rfl rfl ?_
          refine awL_no rfl rfl rfl rfl ?_
          refine awL_k rfl rfl fun K53 h53 => ?_
          simp (disch := omega) only [S0, step1, reduceIte, Nat.reduceEqDiff]
          refine h53 _ _ ?_
          clear h53 K53
          refine awL_k rfl rfl fun K54 h54 => ?_
          simp (disch := omega) only [S0, step1, reduceIte, Nat.reduceEqDiff]
          refine h54 _ _ ?_
          clear h54 K54
          refine hK32 _ _ ?_
          try clear hK32 K32
          refine AW.region ?_
          refine awL_k rfl rfl fun K55 h55 => ?_
          simp (disch := omega) only [S0, step1, reduceIte, Nat.reduceEqDiff]
          refine h55 _ _ ?_
          clear h55 K55
          refine awL_k rfl rfl fun K56 h56 => ?_
          simp (disch := omega) only [S0, step1, reduceIte, Nat.reduceEqDiff, isNilC, Bool.false_eq_true, binP, intP, strP, and_true, true_and, if_true, if_false, PB, Nat.reduceSub, Nat.reduceLeDiff, encR_cells, List.take_succ_cons, List.take_zero, KB]
          first | refine h56 _ _ ?_ | ((repeat' refine And.intro ?_ ?_); all_goals first | refine h56 _ _ ?_ | omega | rfl | exact Nat.le_of_ble_eq_true rfl | (simp only [List.length_append, List.length_cons, List.length_nil]; omega) | (simp; done) | (simp; omega))
          clear h56 K56
          refine awL_k rfl rfl fun K57 h57 => ?_
          simp (disch := omega) only [S0, step1, reduceIte, Nat.reduceEqDiff]
          refine h57 _ _ ?_
          clear h57 K57
          have hp := busy_succ hltk i
          refine ⟨⟨k + 1, by omega⟩, by simp only []; omega, _, Nat.le_refl _, Nat.le_of_ble_eq_true rfl, ⟨V.le_of_eq (by rw [Env.trim_get]; simp only [S0, reduceIte, Nat.reduceEqDiff, V.trim] <;> first | rfl | (rw [if_pos (by simp)]; done) | (simp; done)), V.le_of_eq (by rw [Env.trim_get]; simp only [S0, reduceIte, Nat.reduceEqDiff, V.trim] <;> first | rfl | (rw [if_pos (by simp)]; done) | (simp; done)), V.le_of_eq (by rw [Env.trim_get]; simp only [S0, reduceIte, Nat.reduceEqDiff, V.trim] <;> first | rfl | (rw [if_pos (by simp)]; done) | (simp; done)), V.le_of_eq (by rw [Env.trim_get]; simp only [S0, reduceIte, Nat.reduceEqDiff, V.trim] <;> first | rfl | (rw [if_pos (by simp)]; done) | (simp; done)), V.le_of_eq (by rw [Env.trim_get]; simp_all [S0, V.trim]), V.le_of_eq (by rw [Env.trim_get]; simp only [S0, reduceIte, Nat.reduceEqDiff, V.trim] <;> first | rfl | (rw [if_pos (by simp)]; done) | (simp; done)), trivial⟩, StLe.of_eq (by first | exact hlc.trim | exact trimS_pre hlc rfl | exact hlc.trim_append _)⟩
        · rw [hg52]
          try simp only [decide_eq_true_eq, decide_eq_false_iff_not, Bool.not_eq_true, Bool.not_eq_false, Bool.not_eq_true', Bool.not_eq_false', Int.not_lt, Int.not_le, ne_eq, Decidable.not_not, List.length_map, Bool.and_eq_true, Bool.or_eq_true, Bool.and_eq_false_imp, Int.ofNat_lt, Int.ofNat_le] at hg52
          refine awL_kyes rfl rfl rfl rfl fun K58 h58 => ?_
          simp (disch := omega) only [S0, step1, reduceIte, Nat.reduceEqDiff]
          refine h58 _ _ ?_
          clear h58 K58
          refine awL_kyes rfl rfl rfl rfl fun K59 h59 => ?_
          simp (disch := omega) only [S0, step1, reduceIte, Nat.reduceEqDiff]
          refine h59 _ _ ?_
          clear h59 K59
          refine awL_kyes rfl rfl rfl rfl fun K60 h60 => ?_
          simp (disch := omega) only [S0, step1, reduceIte, Nat.reduceEqDiff, iaP, Tryd.elt49, S3, V.one, S1, Nat.reduceAdd, Nat.reduceLeDiff, Nat.reduceMul, Nat.reduceSub, S2, PB, encR_cells, List.take_succ_cons, List.take_zero, KB]
          first | refine h60 _ _ ?_ | ((repeat' refine And.intro ?_ ?_); all_goals first | refine h60 _ _ ?_ | omega | rfl | exact Nat.le_of_ble_eq_true rfl | (simp only [List.length_append, List.length_cons, List.length_nil]; omega) | (simp; done) | (simp; omega))
          clear h60 K60
          refine awL_kyes rfl rfl rfl rfl fun K61 h61 => ?_
          simp (disch := omega) only [S0, step1, reduceIte, Nat.reduceEqDiff, faP, Tryd.fld91_1, Nat.zero_lt_succ, Nat.lt_add_one, S1, Nat.reduceAdd, Nat.reduceLeDiff, Nat.reduceMul, Nat.reduceSub, PB, encR_cells, List.take_succ_cons, List.take_zero, KB]
          first | refine h61 _ _ ?_ | ((repeat' refine And.intro ?_ ?_); all_goals first | refine h61 _ _ ?_ | omega | rfl | exact Nat.le_of_ble_eq_true rfl | (simp only [List.length_append, List.length_cons, List.length_nil]; omega) | (simp; done) | (simp; omega))
          clear h61 K61
          refine awL_kyes rfl rfl rfl rfl fun K62 h62 => ?_
          simp (disch := omega) only [S0, step1, reduceIte, Nat.reduceEqDiff, loadP, Tryd.lay3, pack, S1, Nat.reduceAdd, Nat.reduceLeDiff, Nat.reduceMul, Nat.reduceSub, S2, PB, encR_cells, List.take_succ_cons, List.take_zero, KB]
          first | refine h62 _ _ ?_ | ((repeat' refine And.intro ?_ ?_); all_goals first | refine h62 _ _ ?_ | omega | rfl | exact Nat.le_of_ble_eq_true rfl | (simp only [List.length_append, List.length_cons, List.length_nil]; omega) | (simp; done) | (simp; omega))
          clear h62 K62
          refine awL_kyes rfl rfl rfl rfl fun K63 h63 => ?_
          simp (disch := omega) only [S0, step1, reduceIte, Nat.reduceEqDiff]
          refine h63 _ _ ?_
          clear h63 K63
          refine awL_kyes rfl rfl rfl rfl fun K64 h64 => ?_
          simp (disch := omega) only [S0, step1, reduceIte, Nat.reduceEqDiff, isNilC, Bool.false_eq_true, binP, intP, strP, and_true, true_and, if_true, if_false, PB, Nat.reduceSub, Nat.reduceLeDiff, encR_cells, List.take_succ_cons, List.take_zero, KB]
          first | refine h64 _ _ ?_ | ((repeat' refine And.intro ?_ ?_); all_goals first | refine h64 _ _ ?_ | omega | rfl | exact Nat.le_of_ble_eq_true rfl | (simp only [List.length_append, List.length_cons, List.length_nil]; omega) | (simp; done) | (simp; omega))
          clear h64 K64
          refine awL_k rfl rfl fun K65 h65 => ?_
          simp (disch := omega) only [S0, step1, reduceIte, Nat.reduceEqDiff]
          refine h65 _ _ ?_
          clear h65 K65
          refine awL_k rfl rfl fun K66 h66 => ?_
          simp (disch := omega) only [S0, step1, reduceIte, Nat.reduceEqDiff]
          refine h66 _ _ ?_
          clear h66 K66
          refine hK32 _ _ ?_
          try clear hK32 K32
          refine AW.region ?_
          refine awL_k rfl rfl fun K67 h67 => ?_
          simp (disch := omega) only [S0, step1, reduceIte, Nat.reduceEqDiff]
          refine h67 _ _ ?_
          clear h67 K67
          refine awL_k rfl rfl fun K68 h68 => ?_
          simp (disch := omega) only [S0, step1, reduceIte, Nat.reduceEqDiff, isNilC, Bool.false_eq_true, binP, intP, strP, and_true, true_and, if_true, if_false, PB, Nat.reduceSub, Nat.reduceLeDiff, encR_cells, List.take_succ_cons, List.take_zero, KB]
          first | refine h68 _ _ ?_ | ((repeat' refine And.intro ?_ ?_); all_goals first | refine h68 _ _ ?_ | omega | rfl | exact Nat.le_of_ble_eq_true rfl | (simp only [List.length_append, List.length_cons, List.length_nil]; omega) | (simp; done) | (simp; omega))
          clear h68 K68
          refine awL_k rfl rfl fun K69 h69 => ?_
          simp (disch := omega) only [S0, step1, reduceIte, Nat.reduceEqDiff]
          refine h69 _ _ ?_
          clear h69 K69
          have hp := busy_succ hltk i
          refine ⟨⟨k + 1, by omega⟩, by simp only []; omega, _, Nat.le_refl _, Nat.le_of_ble_eq_true rfl, ⟨V.le_of_eq (by rw [Env.trim_get]; simp only [S0, reduceIte, Nat.reduceEqDiff, V.trim] <;> first | rfl | (rw [if_pos (by simp)]; done) | (simp; done)), V.le_of_eq (by rw [Env.trim_get]; simp only [S0, reduceIte, Nat.reduceEqDiff, V.trim] <;> first | rfl | (rw [if_pos (by simp)]; done) | (simp; done)), V.le_of_eq (by rw [Env.trim_get]; simp only [S0, reduceIte, Nat.reduceEqDiff, V.trim] <;> first | rfl | (rw [if_pos (by simp)]; done) | (simp; done)), V.le_of_eq (by rw [Env.trim_get]; simp only [S0, reduceIte, Nat.reduceEqDiff, V.trim] <;> first | rfl | (rw [if_pos (by simp)]; done) | (simp; done)), V.le_of_eq (by rw [Env.trim_get]; simp_all [S0, V.trim]), V.le_of_eq (by rw [Env.trim_get]; simp only [S0, reduceIte, Nat.reduceEqDiff, V.trim] <;> first | rfl | (rw [if_pos (by simp)]; done) | (simp; done)), trivial⟩, StLe.of_eq (by first | exact hlc.trim | exact trimS_pre hlc rfl | exact hlc.trim_append _)⟩
    · skip
      try simp only [decide_eq_true_eq, decide_eq_false_iff_not, Bool.not_eq_true, Bool.not_eq_false, Bool.not_eq_true', Bool.not_eq_false', Int.not_lt, Int.not_le, ne_eq, Decidable.not_not, List.length_map, Bool.and_eq_true, Bool.or_eq_true, Bool.and_eq_false_imp, Int.ofNat_lt, Int.ofNat_le] at hb31
      have hkn : k = (listL l).length := by omega
      subst hkn
      rw [List.take_length]
      refine AW.exit ?_
      refine hK22 _ _ ?_
      try clear hK22 K22
      refine AW.seqK fun K70 hK70 => ?_
      refine AW.region ?_
      refine awL_k rfl rfl fun K71 h71 => ?_
      simp (disch := omega) only [S0, step1, reduceIte, Nat.reduceEqDiff]
      refine h71 _ _ ?_
      clear h71 K71
      refine awL_k rfl rfl fun K72 h72 => ?_
      simp (disch := omega) only [S0, step1, reduceIte, Nat.reduceEqDiff, unP, PB, Nat.reduceSub, Nat.reduceLeDiff, encR_cells, List.take_succ_cons, List.take_zero, KB]
      first | refine h72 _ _ ?_ | ((repeat' refine And.intro ?_ ?_); all_goals first | refine h72 _ _ ?_ | omega | rfl | exact Nat.le_of_ble_eq_true rfl | (simp only [List.length_append, List.length_cons, List.length_nil]; omega) | (simp; done) | (simp; omega))
      clear h72 K72
      refine hK70 _ _ ?_
      try clear hK70 K70
      refine AW.condK _ rfl (fun hb73 => ?_) (fun hb73 => ?_)
      · skip
        try simp only [decide_eq_true_eq, decide_eq_false_iff_not, Bool.not_eq_true, Bool.not_eq_false, Bool.not_eq_true', Bool.not_eq_false', Int.not_lt, Int.not_le, ne_eq, Decidable.not_not, List.length_map, Bool.and_eq_true, Bool.or_eq_true, Bool.and_eq_false_imp, Int.ofNat_lt, Int.ofNat_le] at hb73
        refine AW.region ?_
        refine awL_k rfl rfl fun K74 h74 => ?_
        simp (disch := omega) only [S0, step1, reduceIte, Nat.reduceEqDiff]
        refine h74 _ _ ?_
        clear h74 K74
        refine awL_k rfl rfl fun K75 h75 => ?_
        simp (disch := omega) only [S0, step1, reduceIte, Nat.reduceEqDiff]
        refine h75 _ _ ?_
        clear h75 K75
        refine awL_k rfl rfl fun K76 h76 => ?_
        simp (disch := omega) only [S0, step1, reduceIte, Nat.reduceEqDiff, buildSliceP, Tryd.elt56, S1, Nat.reduceAdd, Nat.reduceLeDiff, Nat.reduceMul, Nat.reduceSub, S2, V.bare, V.bare.bareL, PB, encR_cells, List.take_succ_cons, List.take_zero, KB]
        first | refine ⟨(by intro h; cases h), (by first | rfl | decide), (by first | omega | (simp only [List.length_append, List.length_cons, List.length_nil, List.length_map]; omega) | (simp; done) | rfl | trivial), (by repeat first | exact parts_nil | refine parts_cons ⟨by first | rfl | simp [encP_len, encT_len], by first | rfl | simp [encP_one, encT_one, V.one], (by repeat first | exact PureL.nil | refine PureL.cons (by first | exact PureV.int _ _ | exact PureV.str _ | exact PureV.sl _ _ | exact PureV.bool _ | exact PureV.nil | (exact (encP_pure _).1) | (exact (encT_pure _).1)) ?_ | refine PureL.app ?_ ?_ | exact encT_pureL _ | exact encP_pureL _)⟩ ?_), h76 _ _ ?_⟩ | refine ⟨(by first | rfl | decide), (by first | omega | (simp only [List.length_append, List.length_cons, List.length_nil, List.length_map]; omega) | (simp; done) | rfl | trivial), (by repeat first | exact parts_nil | refine parts_cons ⟨by first | rfl | simp [encP_len, encT_len], by first | rfl | simp [encP_one, encT_one, V.one], (by repeat first | exact PureL.nil | refine PureL.cons (by first | exact PureV.int _ _ | exact PureV.str _ | exact PureV.sl _ _ | exact PureV.bool _ | exact PureV.nil | (exact (encP_pure _).1) | (exact (encT_pure _).1)) ?_ | refine PureL.app ?_ ?_ | exact encT_pureL _ | exact encP_pureL _)⟩ ?_), h76 _ _ ?_⟩ | refine ⟨(by intro h; cases h), (by first | omega | (simp only [List.length_append, List.length_cons, List.length_nil, List.length_map]; omega) | (simp; done) | rfl | trivial), (by repeat first | exact parts_nil | refine parts_cons ⟨by first | rfl | simp [encP_len, encT_len], by first | rfl | simp [encP_one, encT_one, V.one], (by repeat first | exact PureL.nil | refine PureL.cons (by first | exact PureV.int _ _ | exact PureV.str _ | exact PureV.sl _ _ | exact PureV.bool _ | exact PureV.nil | (exact (encP_pure _).1) | (exact (encT_pure _).1)) ?_ | refine PureL.app ?_ ?_ | exact encT_pureL _ | exact encP_pureL _)⟩ ?_), h76 _ _ ?_⟩ | refine ⟨(by first | omega | (simp only [List.length_append, List.length_cons, List.length_nil, List.length_map]; omega) | (simp; done) | rfl | trivial), (by repeat first | exact parts_nil | refine parts_cons ⟨by first | rfl | simp [encP_len, encT_len], by first | rfl | simp [encP_one, encT_one, V.one], (by repeat first | exact PureL.nil | refine PureL.cons (by first | exact PureV.int _ _ | exact PureV.str _ | exact PureV.sl _ _ | exact PureV.bool _ | exact PureV.nil | (exact (encP_pure _).1) | (exact (encT_pure _).1)) ?_ | refine PureL.app ?_ ?_ | exact encT_pureL _ | exact encP_pureL _)⟩ ?_), h76 _ _ ?_⟩ | refine ⟨(by intro h; cases h), (by first | rfl | decide), (by repeat first | exact parts_nil | refine parts_cons ⟨by first | rfl | simp [encP_len, encT_len], by first | rfl | simp [encP_one, encT_one, V.one], (by repeat first | exact PureL.nil | refine PureL.cons (by first | exact PureV.int _ _ | exact PureV.str _ | exact PureV.sl _ _ | exact PureV.bool _ | exact PureV.nil | (exact (encP_pure _).1) | (exact (encT_pure _).1)) ?_ | refine PureL.app ?_ ?_ | exact encT_pureL _ | exact encP_pureL _)⟩ ?_), h76 _ _ ?_⟩ | refine ⟨(by first | rfl | decide), (by repeat first | exact parts_nil | refine parts_cons ⟨by first | rfl | simp [encP_len, encT_len], by first | rfl | simp [encP_one, encT_one, V.one], (by repeat first | exact PureL.nil | refine PureL.cons (by first | exact PureV.int _ _ | exact PureV.str _ | exact PureV.sl _ _ | exact PureV.bool _ | exact PureV.nil | (exact (encP_pure _).1) | (exact (encT_pure _).1)) ?_ | refine PureL.app ?_ ?_ | exact encT_pureL _ | exact encP_pureL _)⟩ ?_), h76 _ _ ?_⟩ | refine ⟨(by intro h; cases h), (by repeat first | exact parts_nil | refine parts_cons ⟨by first | rfl | simp [encP_len, encT_len], by first | rfl | simp [encP_one, encT_one, V.one], (by repeat first | exact PureL.nil | refine PureL.cons (by first | exact PureV.int _ _ | exact PureV.str _ | exact PureV.sl _ _ | exact PureV.bool _ | exact PureV.nil | (exact (encP_pure _).1) | (exact (encT_pure _).1)) ?_ | refine PureL.app ?_ ?_ | exact encT_pureL _ | exact encP_pureL _)⟩ ?_), h76 _ _ ?_⟩ | refine ⟨(by repeat first | exact parts_nil | refine parts_cons ⟨by first | rfl | simp [encP_len, encT_len], by first | rfl | simp [encP_one, encT_one, V.one], (by repeat first | exact PureL.nil | refine PureL.cons (by first | exact PureV.int _ _ | exact PureV.str _ | exact PureV.sl _ _ | exact PureV.bool _ | exact PureV.nil | (exact (encP_pure _).1) | (exact (encT_pure _).1)) ?_ | refine PureL.app ?_ ?_ | exact encT_pureL _ | exact encP_pureL _)⟩ ?_), h76 _ _ ?_⟩
        clear h76 K76
        refine awL_k rfl rfl fun K77 h77 => ?_
        simp (disch := omega) only [S0, step1, reduceIte, Nat.reduceEqDiff, appendP, rowOf, Tryd.elt56, S1, Nat.reduceAdd, Nat.reduceLeDiff, Nat.reduceMul, Nat.reduceSub, S2, PB, encR_cells, List.take_succ_cons, List.take_zero, KB]
        first | refine ⟨(by repeat first | exact els_nil | refine els_cons (by first | rfl | simp [encP_len, encT_len]) ?_), (by first | rfl | exact List.length_map _ | simp), (by first | omega | (simp only [maxLen, List.length_append, List.length_cons, List.length_nil, List.length_map]; omega) | (simp only [List.length_append, List.length_cons, List.length_nil, List.length_map]; omega)), (by first | omega | (simp only [maxLen, List.length_append, List.length_cons, List.length_nil, List.length_map]; omega) | (simp only [List.length_append, List.length_cons, List.length_nil, List.length_map]; omega)), h77 _ _ ?_⟩ | refine ⟨(by repeat first | exact els_nil | refine els_cons (by first | rfl | simp [encP_len, encT_len]) ?_), (by first | rfl | exact List.length_map _ | simp), (by first | omega | (simp only [maxLen, List.length_append, List.length_cons, List.length_nil, List.length_map]; omega) | (simp only [List.length_append, List.length_cons, List.length_nil, List.length_map]; omega)), (by first | omega | (simp only [maxLen, List.length_append, List.length_cons, List.length_nil, List.length_map]; omega) | (simp only [List.length_append, List.length_cons, List.length_nil, List.length_map]; omega)), (by first | omega | (simp only [maxLen, List.length_append, List.length_cons, List.length_nil, List.length_map]; omega) | (simp only [List.length_append, List.length_cons, List.length_nil, List.length_map]; omega)), h77 _ _ ?_⟩ | refine ⟨(by repeat first | exact els_nil | refine els_cons (by first | rfl | simp [encP_len, encT_len]) ?_), (by first | rfl | exact List.length_map _ | simp), (by first | omega | (simp only [maxLen, List.length_append, List.length_cons, List.length_nil, List.length_map]; omega) | (simp only [List.length_append, List.length_cons, List.length_nil, List.length_map]; omega)), h77 _ _ ?_⟩ | refine ⟨(by repeat first | exact els_nil | refine els_cons (by first | rfl | simp [encP_len, encT_len]) ?_), (by first | omega | (simp only [maxLen, List.length_append, List.length_cons, List.length_nil, List.length_map]; omega) | (simp only [List.length_append, List.length_cons, List.length_nil, List.length_map]; omega)), (by first | omega | (simp only [maxLen, List.length_append, List.length_cons, List.length_nil, List.length_map]; omega) | (simp only [List.length_append, List.length_cons, List.length_nil, List.length_map]; omega)), h77 _ _ ?_⟩ | refine ⟨(by repeat first | exact els_nil | refine els_cons (by first | rfl | simp [encP_len, encT_len]) ?_), (by first | omega | (simp only [maxLen, List.length_append, List.length_cons, List.length_nil, List.length_map]; omega) | (simp only [List.length_append, List.length_cons, List.length_nil, List.length_map]; omega)), (by first | omega | (simp only [maxLen, List.length_append, List.length_cons, List.length_nil, List.length_map]; omega) | (simp only [List.length_append, List.length_cons, List.length_nil, List.length_map]; omega)), (by first | omega | (simp only [maxLen, List.length_append, List.length_cons, List.length_nil, List.length_map]; omega) | (simp only [List.length_append, List.length_cons, List.length_nil, List.length_map]; omega)), h77 _ _ ?_⟩ | refine ⟨(by repeat first | exact els_nil | refine els_cons (by first | rfl | simp [encP_len, encT_len]) ?_), (by first | omega | (simp only [maxLen, List.length_append, List.length_cons, List.length_nil, List.length_map]; omega) | (simp only [List.length_append, List.length_cons, List.length_nil, List.length_map]; omega)), h77 _ _ ?_⟩
        clear h77 K77
        refine awL_k rfl rfl fun K78 h78 => ?_
        simp (disch := omega) only [S0, step1, reduceIte, Nat.reduceEqDiff]
        refine h78 _ _ ?_
        clear h78 K78
        refine hK19 _ _ ?_
        try clear hK19 K19
        refine AW.region ?_
        refine awL_k rfl rfl fun K79 h79 => ?_
        simp (disch := omega) only [S0, step1, reduceIte, Nat.reduceEqDiff]
        refine h79 _ _ ?_
        clear h79 K79
        refine awL_k rfl rfl fun K80 h80 => ?_
        simp (disch := omega) only [S0, step1, reduceIte, Nat.reduceEqDiff, isNilC, Bool.false_eq_true, binP, intP, strP, and_true, true_and, if_true, if_false, PB, Nat.reduceSub, Nat.reduceLeDiff, encR_cells, List.take_succ_cons, List.take_zero, KB]
        first | refine h80 _ _ ?_ | ((repeat' refine And.intro ?_ ?_); all_goals first | refine h80 _ _ ?_ | omega | rfl | exact Nat.le_of_ble_eq_true rfl | (simp only [List.length_append, List.length_cons, List.length_nil]; omega) | (simp; done) | (simp; omega))
        clear h80 K80
        refine awL_k rfl rfl fun K81 h81 => ?_
        simp (disch := omega) only [S0, step1, reduceIte, Nat.reduceEqDiff]
        refine h81 _ _ ?_
        clear h81 K81
        have hp := idle_yes (r := listL l) (n := i) (by assumption)
        refine ⟨⟨i + 1, by omega⟩, by simp only []; omega, _, Nat.le_refl _, Nat.le_of_ble_eq_true rfl, ⟨V.le_of_eq (by rw [Env.trim_get]; simp only [S0, reduceIte, Nat.reduceEqDiff, V.trim] <;> first | rfl | (rw [if_pos (by simp)]; done) | (simp; done)), V.le_of_eq (by rw [Env.trim_get]; simp only [S0, reduceIte, Nat.reduceEqDiff, V.trim] <;> first | rfl | (rw [if_pos (by simp)]; done) | (simp; done)), V.le_of_eq (by rw [Env.trim_get]; simp only [S0, reduceIte, Nat.reduceEqDiff, V.trim, hp, List.map_append, List.map_cons, List.map_nil, encI]; first | rfl | (rw [if_pos (by simp)]; done) | (rw [if_pos (by simp)]; rfl)), V.le_of_eq (by rw [Env.trim_get]; simp only [S0, reduceIte, Nat.reduceEqDiff, V.trim] <;> first | rfl | (rw [if_pos (by simp)]; done) | (simp; done)), trivial⟩, StLe.of_eq (by simp only [hp]; first | exact hlc.trim | (rw [trimS_app hst (by simp)]; simp [O.trim]))⟩
      · skip
        try simp only [decide_eq_true_eq, decide_eq_false_iff_not, Bool.not_eq_true, Bool.not_eq_false, Bool.not_eq_true', Bool.not_eq_false', Int.not_lt, Int.not_le, ne_eq, Decidable.not_not, List.length_map, Bool.and_eq_true, Bool.or_eq_true, Bool.and_eq_false_imp, Int.ofNat_lt, Int.ofNat_le] at hb73
        refine AW.skip ?_
        refine hK19 _ _ ?_
        try clear hK19 K19
        refine AW.region ?_
        refine awL_k rfl rfl fun K82 h82 => ?_
        simp (disch := omega) only [S0, step1, reduceIte, Nat.reduceEqDiff]
        refine h82 _ _ ?_
        clear h82 K82
        refine awL_k rfl rfl fun K83 h83 => ?_
        simp (disch := omega) only [S0, step1, reduceIte, Nat.reduceEqDiff, isNilC, Bool.false_eq_true, binP, intP, strP, and_true, true_and, if_true, if_false, PB, Nat.reduceSub, Nat.reduceLeDiff, encR_cells, List.take_succ_cons, List.take_zero, KB]
        first | refine h83 _ _ ?_ | ((repeat' refine And.intro ?_ ?_); all_goals first | refine h83 _ _ ?_ | omega | rfl | exact Nat.le_of_ble_eq_true rfl | (simp only [List.length_append, List.length_cons, List.length_nil]; omega) | (simp; done) | (simp; omega))
        clear h83 K83
        refine awL_k rfl rfl fun K84 h84 => ?_
        simp (disch := omega) only [S0, step1, reduceIte, Nat.reduceEqDiff]
        refine h84 _ _ ?_
        clear h84 K84
        have hp := idle_no (r := listL l) (n := i) (by assumption)
        refine ⟨⟨i + 1, by omega⟩, by simp only []; omega, _, Nat.le_refl _, Nat.le_of_ble_eq_true rfl, ⟨V.le_of_eq (by rw [Env.trim_get]; simp only [S0, reduceIte, Nat.reduceEqDiff, V.trim] <;> first | rfl | (rw [if_pos (by simp)]; done) | (simp; done)), V.le_of_eq (by rw [Env.trim_get]; simp only [S0, reduceIte, Nat.reduceEqDiff, V.trim] <;> first | rfl | (rw [if_pos (by simp)]; done) | (simp; done)), V.le_of_eq (by rw [Env.trim_get]; simp only [S0, reduceIte, Nat.reduceEqDiff, V.trim, hp, List.map_append, List.map_cons, List.map_nil, encI]; first | rfl | (rw [if_pos (by simp)]; done) | (rw [if_pos (by simp)]; rfl)), V.le_of_eq (by rw [Env.trim_get]; simp only [S0, reduceIte, Nat.reduceEqDiff, V.trim] <;> first | rfl | (rw [if_pos (by simp)]; done) | (simp; done)), trivial⟩, StLe.of_eq (by simp only [hp]; first | exact hlc.trim | (rw [trimS_app hst (by simp)]; simp [O.trim]))⟩
  · skip
    try simp only [decide_eq_true_eq, decide_eq_false_iff_not, Bool.not_eq_true, Bool.not_eq_false, Bool.not_eq_true', Bool.not_eq_false', Int.not_lt, Int.not_le, ne_eq, Decidable.not_not, List.length_map, Bool.and_eq_true, Bool.or_eq_true, Bool.and_eq_false_imp, Int.ofNat_lt, Int.ofNat_le] at hb18
    have hge : i = l.length := by omega
    refine AW.exit ?_
    refine hK9 _ _ ?_
    try clear hK9 K9
    refine AW.seqK fun K85 hK85 => ?_
    refine AW.region ?_
    refine awL_k rfl rfl fun K86 h86 => ?_
    simp (disch := omega) only [S0, step1, reduceIte, Nat.reduceEqDiff]
    refine h86 _ _ ?_
    clear h86 K86
    refine awL_k rfl rfl fun K87 h87 => ?_
    simp (disch := omega) only [S0, step1, reduceIte, Nat.reduceEqDiff]
    refine h87 _ _ ?_
    clear h87 K87
    refine hK85 _ _ ?_
    try clear hK85 K85
    refine AW.ret ?_
    show (_ ∨ _) ∧ _
    refine ⟨.inr rfl, ?_⟩
    show resP _ _ _ [.tmp 2] _
    simp only [resP, resV, V.trim, V.trim.trimL, S0, reduceIte, Nat.reduceEqDiff]
    refine ⟨_, _, _, Nat.le_refl _, V.le_refl _ _, StLe.refl _, ?_⟩
    exact ⟨by subst hge; rw [if_neg (Nat.lt_irrefl _)]; rfl, hst.trim_append _⟩

end Tryd
end Go.Proofs
