/-
  A part of the proof.
-/
import Derived.Test.YtmjngcfigfkafaaDoorLib
import Derived.Test.YtmjngcfigfkafaaDoorSFacts
import Derived.Test.YtmjngcfigfkafaaDoorData
import Derived.Test.YtmjngcfigfkafaaDoorDKit
import Derived.Test.YtmjngcfigfkafaaDoorSW4
set_option linter.all false
namespace Go.Proofs
open Go Go.Duo
namespace Tryd
set_option maxHeartbeats 8000000 in
theorem meetings_spec (l : List Pr) (ch : V) (hn : l.length ≤ 1000000) (hC : ∀ x ∈ l, x.chan.length ≤ 2147483647) : Duo.Call Tryd.prog Tryd.gl 70 [.yld 0, .dptr [.sl (l.map encP) none, ch]] [.yld ((meetsL l).map (encM l)) 0 true] (fun _ st' => ∃ i go, st' = [.yld ((meetsL l).map (encM l)) i go] ∧ (go = true → i = ((meetsL l).map (encM l)).length)) := by
  refine Duo.Call.clo fun hst => ?_
  refine Duo.Call.body 62 [(0, .yld 0), (1, .dptr [.sl (l.map encP) none, ch])] Tryd.func70 rfl rfl ?_
  refine AW.seqK fun K1 hK1 => ?_
  refine AW.region ?_
  refine awL_k rfl rfl fun K2 h2 => ?_
  simp (disch := omega) only [S0, step1, reduceIte, Nat.reduceEqDiff, faP, Tryd.fld45_0, Nat.lt_add_one, S1, LB]
  refine h2 _ _ ?_
  clear h2 K2
  refine awL_k rfl rfl fun K3 h3 => ?_
  simp (disch := omega) only [S0, step1, reduceIte, Nat.reduceEqDiff, loadP, Tryd.lay27, pack, S1, Nat.reduceAdd, Nat.reduceLeDiff, LB]
  refine h3 _ _ ?_
  clear h3 K3
  refine awL_k rfl rfl fun K4 h4 => ?_
  simp (disch := omega) only [S0, step1, reduceIte, Nat.reduceEqDiff, lenP, Tryd.elt27, Option.isSome, true_and, S1]
  refine h4 _ _ ?_
  clear h4 K4
  refine awL_k rfl rfl fun K5 h5 => ?_
  simp (disch := omega) only [S0, step1]
  refine h5 _ _ ?_
  clear h5 K5
  refine hK1 _ _ ?_
  clear hK1 K1
  refine AW.block ?_
  refine AW.loop (α := { i : Nat // i ≤ l.length }) 62 (fun i => [(0, .yld 0), (1, .dptr [.sl (l.map encP) none, ch]), (11, .sl (l.map encP) none), (12, .int .i64 l.length), (13, .int .i64 (i.1 : Nat))]) (fun i => [.yld ((meetsL l).map (encM l)) (partL l.length (mAt l) i.1 0).length true]) (fun i => l.length - i.1) ⟨0, Nat.zero_le _⟩ (by show _ ≤ _; exact Nat.le_of_ble_eq_true rfl) ⟨V.le_of_eq (by rfl), V.le_of_eq (by rfl), V.le_of_eq (by rfl), V.le_of_eq (by rfl), V.le_of_eq (by rfl), trivial⟩ (StLe.of_eq (by rfl)) ?_
  rintro ⟨i, hi⟩
  dsimp only
  refine AW.clo fun hlc => ?_
  refine AW.seqK fun K6 hK6 => ?_
  refine AW.region ?_
  refine awL_k rfl rfl fun K7 h7 => ?_
  simp (disch := omega) only [S0, step1, Nat.reduceEqDiff, isNilC, Bool.false_eq_true, binP, intP, true_and, if_true, if_false]
  refine h7 _ _ ?_
  clear h7 K7
  refine hK6 _ _ ?_
  clear hK6 K6
  refine AW.seqK fun K8 hK8 => ?_
  refine AW.condK _ rfl (fun hb9 => ?_) (fun hb9 => ?_)
  · skip
    simp only [decide_eq_true_eq, Int.ofNat_lt] at hb9
    have hlt : i < l.length := by omega
    refine AW.skip ?_
    refine hK8 _ _ ?_
    clear hK8 K8
    refine AW.seqK fun K10 hK10 => ?_
    refine AW.block ?_
    refine AW.seqK fun K11 hK11 => ?_
    refine AW.region ?_
    refine awL_k rfl rfl fun K12 h12 => ?_
    simp (disch := omega) only [S0, step1, reduceIte, Nat.reduceEqDiff]
    refine h12 _ _ ?_
    clear h12 K12
    refine awL_k rfl rfl fun K13 h13 => ?_
    simp (disch := omega) only [S0, step1, reduceIte, Nat.reduceEqDiff, iaP, Tryd.elt27, S1, PB, KB]
    (((repeat' refine And.intro ?_ ?_); all_goals first | refine h13 _ _ ?_ | omega))
    clear h13 K13
    refine awL_k rfl rfl fun K14 h14 => ?_
    simp (disch := omega) only [S0, step1, reduceIte, Nat.reduceEqDiff, loadP, Tryd.lay29, pack, S1, PB]
    refine h14 _ _ ?_
    clear h14 K14
    refine awL_k rfl rfl fun K15 h15 => ?_
    simp (disch := omega) only [step1, Tryd.zro29, LB, List.cons_append, List.nil_append]
    refine h15 _ _ ?_
    clear h15 K15
    refine awL_k rfl rfl fun K16 h16 => ?_
    simp (disch := omega) only [S0, step1, reduceIte, Nat.reduceEqDiff]
    refine h16 _ _ ?_
    clear h16 K16
    refine awL_k rfl rfl fun K17 h17 => ?_
    simp (disch := omega) only [S0, step1, reduceIte, Nat.reduceEqDiff, storeP, Tryd.lay29, splice, S1, Nat.reduceAdd, PB, LB]
    refine h17 _ _ ?_
    clear h17 K17
    refine hK11 _ _ ?_
    clear hK11 K11
    refine AW.seqK fun K18 hK18 => ?_
    refine AW.region ?_
    refine awL_k rfl rfl fun K19 h19 => ?_
    simp (disch := omega) only [S0, step1, reduceIte, Nat.reduceEqDiff, faP, Tryd.fld29_1, Nat.lt_add_one, S1, LB]
    refine h19 _ _ ?_
    clear h19 K19
    refine awL_k rfl rfl fun K20 h20 => ?_
    simp (disch := omega) only [S0, step1, reduceIte, Nat.reduceEqDiff, loadP, Tryd.lay9, pack, S1, Nat.reduceAdd, Nat.reduceLeDiff, PB, LB]
    refine h20 _ _ ?_
    clear h20 K20
    refine awL_k rfl rfl fun K21 h21 => ?_
    show ent _ _ = true ∧ _
    simp only [S0, reduceIte, Nat.reduceEqDiff, List.nil_append, List.append_nil, List.map]
    refine ⟨Tryd.ent71, Duo.Call.mono (pendpoint_spec _ (by exact hC _ (List.getElem_mem _)) _) ?_⟩
    rintro _ _ ⟨rfl, hcs⟩
    obtain rfl := hcs.symm
    refine h21 _ _ ?_
    clear h21 K21
    refine awL_k rfl rfl fun K22 h22 => ?_
    simp (disch := omega) only [S0, step1, reduceIte, Nat.reduceEqDiff]
    refine h22 _ _ ?_
    clear h22 K22
    refine awL_k rfl rfl fun K23 h23 => ?_
    simp (disch := omega) only [S0, step1, reduceIte, Nat.reduceEqDiff, List.getD_cons_zero, PB, LB]
    (((repeat' refine And.intro ?_ ?_); all_goals first | refine h23 _ _ ?_ | omega))
    clear h23 K23
    refine awL_k rfl rfl fun K24 h24 => ?_
    simp (disch := omega) only [S0, step1, reduceIte, Nat.reduceEqDiff, List.getD_cons_zero, List.getD_cons_succ, PB, LB]
    (((repeat' refine And.intro ?_ ?_); all_goals first | refine h24 _ _ ?_ | omega))
    clear h24 K24
    refine awL_k rfl rfl fun K25 h25 => ?_
    simp (disch := omega) only [S0, step1, reduceIte, Nat.reduceEqDiff, List.getD_cons_zero, List.getD_cons_succ, PB, LB]
    (((repeat' refine And.intro ?_ ?_); all_goals first | refine h25 _ _ ?_ | omega))
    clear h25 K25
    refine awL_k rfl rfl fun K26 h26 => ?_
    simp (disch := omega) only [S0, step1, reduceIte, Nat.reduceEqDiff]
    refine h26 _ _ ?_
    clear h26 K26
    refine awL_k rfl rfl fun K27 h27 => ?_
    simp (disch := omega) only [S0, step1, reduceIte, Nat.reduceEqDiff]
    refine h27 _ _ ?_
    clear h27 K27
    refine awL_k rfl rfl fun K28 h28 => ?_
    simp (disch := omega) only [S0, step1, reduceIte, Nat.reduceEqDiff]
    refine h28 _ _ ?_
    clear h28 K28
    refine hK18 _ _ ?_
    clear hK18 K18
    refine AW.seqK fun K29 hK29 => ?_
    refine AW.seqK fun K30 hK30 => ?_
    refine AW.region ?_
    refine awL_k rfl rfl fun K31 h31 => ?_
    simp (disch := omega) only [S0, step1, reduceIte, Nat.reduceEqDiff]
    refine h31 _ _ ?_
    clear h31 K31
    refine awL_k rfl rfl fun K32 h32 => ?_
    simp (disch := omega) only [S0, step1, reduceIte, Nat.reduceEqDiff, unP, PB]
    refine h32 _ _ ?_
    clear h32 K32
    refine hK30 _ _ ?_
    clear hK30 K30
    refine AW.condK _ rfl (fun hb33 => ?_) (fun hb33 => ?_)
    · skip
      simp only [Bool.not_eq_true'] at hb33
      refine AW.exit ?_
      refine hK10 _ _ ?_
      refine AW.region ?_
      refine awL_k rfl rfl fun K34 h34 => ?_
      simp (disch := omega) only [S0, step1, Nat.reduceEqDiff, isNilC, Bool.false_eq_true, binP, intP, true_and, if_true, if_false, PB, KB]
      refine h34 _ _ ?_
      clear h34 K34
      refine awL_k rfl rfl fun K35 h35 => ?_
      simp (disch := omega) only [S0, step1, reduceIte, Nat.reduceEqDiff]
      refine h35 _ _ ?_
      clear h35 K35
      have hp : partL l.length (mAt l) (i + 1) 0 = partL l.length (mAt l) i 0 := by rw [← partL_turn]; exact mAt_skip hlt (by assumption)
      refine ⟨⟨i + 1, by omega⟩, by simp only []; omega, _, Nat.le_refl _, Nat.le_of_ble_eq_true rfl, ⟨V.le_of_eq (by rw [Env.trim_get]; simp only [S0, reduceIte, Nat.reduceEqDiff, V.trim] <;> rfl), V.le_of_eq (by rw [Env.trim_get]; simp only [S0, reduceIte, Nat.reduceEqDiff, V.trim] <;> first | rfl | (rw [if_pos (by simp)]; done) | (simp; done)), V.le_of_eq (by rw [Env.trim_get]; simp only [S0, reduceIte, Nat.reduceEqDiff, V.trim] <;> first | rfl | (rw [if_pos (by simp)]; done) | (simp; done)), V.le_of_eq (by rw [Env.trim_get]; simp only [S0, reduceIte, Nat.reduceEqDiff, V.trim] <;> first | rfl | (rw [if_pos (by simp)]; done) | (simp; done)), V.le_of_eq (by rw [Env.trim_get]; simp only [S0, reduceIte, Nat.reduceEqDiff, V.trim] <;> rfl), trivial⟩, StLe.of_eq (by simp only [hp]; exact trimS_y)⟩
    · skip
      simp only [Bool.not_eq_false'] at hb33
      have hb := epK_lt l[i].chan
      refine AW.skip ?_
      refine hK29 _ _ ?_
      clear hK29 K29
      refine AW.seqK fun K36 hK36 => ?_
      refine AW.region ?_
      refine awL_k rfl rfl fun K37 h37 => ?_
      simp (disch := omega) only [S0, step1, reduceIte, Nat.reduceEqDiff, faP, Tryd.fld45_0, Nat.lt_add_one, S1, PB, LB]
      refine h37 _ _ ?_
      clear h37 K37
      refine awL_k rfl rfl fun K38 h38 => ?_
      simp (disch := omega) only [S0, step1, reduceIte, Nat.reduceEqDiff, loadP, Tryd.lay27, pack, S1, Nat.reduceAdd, Nat.reduceLeDiff, PB, LB]
      refine h38 _ _ ?_
      clear h38 K38
      refine awL_k rfl rfl fun K39 h39 => ?_
      simp (disch := omega) only [S0, step1, reduceIte, Nat.reduceEqDiff, lenP, Tryd.elt27, Option.isSome, true_and, S1, PB]
      refine h39 _ _ ?_
      clear h39 K39
      refine awL_k rfl rfl fun K40 h40 => ?_
      simp (disch := omega) only [S0, step1]
      refine h40 _ _ ?_
      clear h40 K40
      refine hK36 _ _ ?_
      clear hK36 K36
      refine AW.block ?_
      refine AW.loop (α := { k : Nat // k ≤ l.length }) 62 (fun k => [(0, .yld 0), (1, .dptr [.sl (l.map encP) none, ch]), (3, .int .i64 (i : Nat)), (4, .ptr 1 0), (5, .int .i64 (epK l[i].chan)), (6, .bool (epP l[i].chan)), (11, .sl (l.map encP) none), (12, .int .i64 l.length), (13, .int .i64 (i : Nat)), (28, .sl (l.map encP) none), (29, .int .i64 l.length), (30, .int .i64 (k.1 : Nat))]) (fun k => [.yld ((meetsL l).map (encM l)) (partL l.length (mAt l) i k.1).length true, .box 29 (encP l[i]).cells]) (fun k => l.length - k.1) ⟨0, Nat.zero_le _⟩ (by show _ ≤ _; exact Nat.le_of_ble_eq_true rfl) ⟨V.le_of_eq (by rfl), V.le_of_eq (by rfl), V.le_of_eq (by rfl), V.le_of_eq (by rfl), V.le_of_eq (by rfl), V.le_of_eq (by rfl), V.le_of_eq (by rfl), V.le_of_eq (by rfl), V.le_of_eq (by rfl), V.le_of_eq (by rfl), V.le_of_eq (by rfl), V.le_of_eq (by rfl), trivial⟩ (StLe.of_eq (by rfl)) ?_
      rintro ⟨k, hk⟩
      dsimp only
      refine AW.clo fun hlc => ?_
      refine AW.seqK fun K41 hK41 => ?_
      refine AW.region ?_
      refine awL_k rfl rfl fun K42 h42 => ?_
      simp (disch := omega) only [S0, step1, Nat.reduceEqDiff, isNilC, Bool.false_eq_true, binP, intP, true_and, if_true, if_false]
      refine h42 _ _ ?_
      clear h42 K42
      refine hK41 _ _ ?_
      clear hK41 K41
      refine AW.seqK fun K43 hK43 => ?_
      refine AW.condK _ rfl (fun hb44 => ?_) (fun hb44 => ?_)
      · skip
        simp only [decide_eq_true_eq, Int.ofNat_lt] at hb44
        have hltk : k < l.length := by omega
        refine AW.skip ?_
        refine hK43 _ _ ?_
        clear hK43 K43
        refine AW.seqK fun K45 hK45 => ?_
        refine AW.block ?_
        refine AW.seqK fun K46 hK46 => ?_
        refine AW.region ?_
        refine awL_k rfl rfl fun K47 h47 => ?_
        simp (disch := omega) only [S0, step1, reduceIte, Nat.reduceEqDiff]
        refine h47 _ _ ?_
        clear h47 K47
        refine awL_k rfl rfl fun K48 h48 => ?_
        simp (disch := omega) only [S0, step1, reduceIte, Nat.reduceEqDiff, iaP, Tryd.elt27, S1, PB, KB]
        (((repeat' refine And.intro ?_ ?_); all_goals first | refine h48 _ _ ?_ | omega))
        clear h48 K48
        refine awL_k rfl rfl fun K49 h49 => ?_
        simp (disch := omega) only [S0, step1, reduceIte, Nat.reduceEqDiff, loadP, Tryd.lay29, pack, S1, PB]
        refine h49 _ _ ?_
        clear h49 K49
        refine awL_k rfl rfl fun K50 h50 => ?_
        simp (disch := omega) only [step1, Tryd.zro29, LB, List.cons_append, List.nil_append]
        refine h50 _ _ ?_
        clear h50 K50
        refine awL_k rfl rfl fun K51 h51 => ?_
        simp (disch := omega) only [S0, step1, reduceIte, Nat.reduceEqDiff]
        refine h51 _ _ ?_
        clear h51 K51
        refine awL_k rfl rfl fun K52 h52 => ?_
        simp (disch := omega) only [S0, step1, reduceIte, Nat.reduceEqDiff, storeP, Tryd.lay29, splice, S1, Nat.reduceAdd, PB, LB]
        refine h52 _ _ ?_
        clear h52 K52
        refine hK46 _ _ ?_
        clear hK46 K46
        refine AW.seqK fun K53 hK53 => ?_
        refine AW.any Tryd.mix 22 rfl ?_
        refine awA_c rfl rfl rfl fun K54 h54 => ?_
        simp (disch := omega) only [S0, step1, reduceIte, Nat.reduceEqDiff]
        refine h54 _ _ rfl ?_
        clear h54 K54
        refine awA_c rfl rfl rfl fun K55 h55 => ?_
        simp (disch := omega) only [S0, step1, reduceIte, Nat.reduceEqDiff]
        refine h55 _ _ rfl ?_
        clear h55 K55
        refine awA_c rfl rfl rfl fun K56 h56 => ?_
        simp (disch := omega) only [S0, step1, Nat.reduceEqDiff, isNilC, Bool.false_eq_true, binP, intP, true_and, if_true, if_false]
        refine h56 _ _ rfl ?_
        clear h56 K56
        refine awA_c rfl rfl rfl fun K57 h57 => ?_
        simp (disch := omega) only [S0, step1, reduceIte, Nat.reduceEqDiff]
        refine h57 _ _ rfl ?_
        clear h57 K57
        refine awA_case 38 rfl (fun hg58 => ?_) (fun hg58 => ?_)
        · rw [hg58]
          simp only [decide_eq_true_eq, ne_eq] at hg58
          refine awA_cyes rfl rfl rfl rfl rfl fun K59 h59 => ?_
          simp (disch := omega) only [S0, step1, reduceIte, Nat.reduceEqDiff, faP, Tryd.fld29_1, Nat.lt_add_one, S1, Nat.reduceAdd, LB]
          refine h59 _ _ rfl ?_
          clear h59 K59
          refine awA_cyes rfl rfl rfl rfl rfl fun K60 h60 => ?_
          simp (disch := omega) only [S0, step1, reduceIte, Nat.reduceEqDiff, loadP, Tryd.lay9, pack, S1, Nat.reduceAdd, Nat.reduceLeDiff, PB, LB]
          refine h60 _ _ rfl ?_
          clear h60 K60
          refine awA_cyes rfl rfl rfl rfl rfl fun K61 h61 => ?_
          simp (disch := omega) only [S0, step1, reduceIte, Nat.reduceEqDiff]
          refine h61 _ _ rfl ?_
          clear h61 K61
          refine awA_cyes rfl rfl rfl rfl rfl fun K62 h62 => ?_
          simp (disch := omega) only [S0, step1, reduceIte, Nat.reduceEqDiff]
          refine h62 _ _ rfl ?_
          clear h62 K62
          refine awA_cyes rfl rfl rfl rfl rfl fun K63 h63 => ?_
          simp (disch := omega) only [S0, step1, reduceIte, Nat.reduceEqDiff, unP]
          refine h63 _ _ rfl ?_
          clear h63 K63
          refine awA_kyes rfl rfl rfl rfl fun K64 h64 g64 => ?_
          show ent _ _ = true ∧ _
          simp only [S0, reduceIte, Nat.reduceEqDiff, List.nil_append, List.append_nil, List.map]
          refine ⟨Tryd.ent72, _, pname_spec _ _ (by omega) (by omega) _, h64 _ ?_⟩
          clear h64 g64 K64
          refine awA_cyes rfl rfl rfl rfl rfl fun K65 h65 => ?_
          simp (disch := omega) only [S0, step1, Nat.reduceEqDiff, isNilC, Bool.false_eq_true, binP, strP, if_true, if_false]
          refine h65 _ _ rfl ?_
          clear h65 K65
          refine awA_c rfl rfl rfl fun K66 h66 => ?_
          simp (disch := omega) only [S0, step1, reduceIte, Nat.reduceEqDiff]
          refine h66 _ _ rfl ?_
          clear h66 K66
          refine awA_c rfl rfl rfl fun K67 h67 => ?_
          simp (disch := omega) only [S0, step1, reduceIte, Nat.reduceEqDiff]
          refine h67 _ _ rfl ?_
          clear h67 K67
          refine awA_case 47 rfl (fun hg68 => ?_) (fun hg68 => ?_)
          · rw [hg68]
            simp only [decide_eq_true_eq] at hg68
            have hmt : meetL l[i] l[k] = true := by rw [meet_yes (by assumption)]; exact decide_eq_true hg68.symm
            refine awA_cyes rfl rfl rfl rfl rfl fun K69 h69 => ?_
            simp (disch := omega) only [S0, step1, reduceIte, Nat.reduceEqDiff]
            refine h69 _ _ rfl ?_
            clear h69 K69
            refine awA_cyes rfl rfl rfl rfl rfl fun K70 h70 => ?_
            simp (disch := omega) only [S0, step1, reduceIte, Nat.reduceEqDiff]
            refine h70 _ _ rfl ?_
            clear h70 K70
            refine awA_cyes rfl rfl rfl rfl rfl fun K71 h71 => ?_
            simp (disch := omega) only [S0, step1, reduceIte, Nat.reduceEqDiff]
            refine h71 _ _ rfl ?_
            clear h71 K71
            refine awA_cyes rfl rfl rfl rfl rfl fun K72 h72 => ?_
            simp (disch := omega) only [S0, step1, reduceIte, Nat.reduceEqDiff]
            refine h72 _ _ rfl ?_
            clear h72 K72
            refine awA_cyes rfl rfl rfl rfl rfl fun K73 h73 => ?_
            simp (disch := omega) only [S0, step1, reduceIte, Nat.reduceEqDiff]
            refine h73 _ _ rfl ?_
            clear h73 K73
            refine awA_cyes rfl rfl rfl rfl rfl fun K74 h74 => ?_
            simp (disch := omega) only [S0, step1, reduceIte, Nat.reduceEqDiff, buildP, Tryd.plc68, Tryd.zro68, fillV, splice, S3, V.one, S1, Nat.reduceAdd, Nat.reduceLeDiff, LB]
            refine h74 _ _ rfl ?_
            clear h74 K74
            refine awA_cyes rfl rfl rfl rfl rfl fun K75 h75 => ?_
            simp (disch := omega) only [S0, step1, reduceIte, Nat.reduceEqDiff, loadP, Tryd.lay29, pack, S1, Nat.reduceAdd, PB, LB]
            refine h75 _ _ rfl ?_
            clear h75 K75
            refine awA_cyes rfl rfl rfl rfl rfl fun K76 h76 => ?_
            simp (disch := omega) only [S0, step1, reduceIte, Nat.reduceEqDiff, loadP, Tryd.lay29, pack, S1, Nat.reduceAdd, PB, LB]
            refine h76 _ _ rfl ?_
            clear h76 K76
            refine awA_cyes rfl rfl rfl rfl rfl fun K77 h77 => ?_
            simp (disch := omega) only [S0, step1, reduceIte, Nat.reduceEqDiff, buildP, Tryd.plc96, Tryd.zro96, fillV, splice, S3, V.one, S1, Nat.reduceAdd, Nat.reduceLeDiff, PB, LB, MB]
            refine h77 _ _ rfl ?_
            clear h77 K77
            show awA _ _ _ [] _ _ _ _
            simp only [awA, applyUps]
            show awL _ _ _ _ _ _ _
            refine awL_kyes rfl rfl rfl rfl fun K78 h78 => ?_
            simp (disch := omega) only [yldP, S0, step1, reduceIte, Nat.reduceEqDiff, LB, List.map]
            refine ⟨yld_alone (by simp [O.isYld]), (by intro a ha; rw [List.mem_singleton.1 ha]; exact PureV.agg (by repeat first | refine PureL.cons (by first | exact PureV.int _ _ | exact PureV.bool _ | exact PureV.nil) ?_ | refine PureL.app ?_ ?_ | exact encP_pureL _)), (by rw [List.getElem?_map, meetsL, pairsL_at hlt hltk (mAt_some hlt hltk (by omega) hmt)]; simp only [Option.map, encM, ← mCells_eq hlt hltk, (mCells_pure l i k).2]), ?_, ?_⟩
            · refine h78 _ _ ?_
              clear h78 K78
              refine awL_kyes rfl rfl rfl rfl fun K79 h79 => ?_
              simp (disch := omega) only [S0, step1, reduceIte, Nat.reduceEqDiff, unP]
              refine h79 _ _ ?_
              clear h79 K79
              refine awL_k rfl rfl fun K80 h80 => ?_
              simp (disch := omega) only [S0, step1, reduceIte, Nat.reduceEqDiff]
              refine h80 _ _ ?_
              clear h80 K80
              refine hK53 _ _ ?_
              clear hK53 K53
              refine AW.condK _ rfl (fun hb81 => ?_) (fun hb81 => ?_)
              · skip
                cases hb81
              · skip
                refine AW.skip ?_
                refine hK45 _ _ ?_
                clear hK45 K45
                refine AW.region ?_
                refine awL_k rfl rfl fun K82 h82 => ?_
                simp (disch := omega) only [S0, step1, Nat.reduceEqDiff, isNilC, Bool.false_eq_true, binP, intP, true_and, if_true, if_false, KB]
                refine h82 _ _ ?_
                clear h82 K82
                refine awL_k rfl rfl fun K83 h83 => ?_
                simp (disch := omega) only [S0, step1, reduceIte, Nat.reduceEqDiff]
                refine h83 _ _ ?_
                clear h83 K83
                have hp : (partL l.length (mAt l) i (k + 1)).length = (partL l.length (mAt l) i k).length + 1 := by rw [partL_some (mAt_some hlt hltk (by omega) hmt), List.length_append]; rfl
                refine ⟨⟨k + 1, by omega⟩, by simp only []; omega, _, Nat.le_refl _, Nat.le_of_ble_eq_true rfl, ⟨V.le_of_eq (by rw [Env.trim_get]; simp only [S0, reduceIte, Nat.reduceEqDiff, V.trim] <;> rfl), V.le_of_eq (by rw [Env.trim_get]; simp only [S0, reduceIte, Nat.reduceEqDiff, V.trim] <;> first | rfl | (rw [if_pos (by simp)]; done) | (simp; done)), V.le_of_eq (by rw [Env.trim_get]; simp only [S0, reduceIte, Nat.reduceEqDiff, V.trim] <;> first | rfl | (rw [if_pos (by simp)]; done) | (simp; done)), V.le_of_eq (by rw [Env.trim_get]; simp only [S0, reduceIte, Nat.reduceEqDiff, V.trim] <;> rfl), V.le_of_eq (by rw [Env.trim_get]; simp only [S0, reduceIte, Nat.reduceEqDiff, V.trim] <;> first | rfl | (rw [if_pos (by simp)]; done) | (simp; done)), V.le_of_eq (by rw [Env.trim_get]; simp only [S0, reduceIte, Nat.reduceEqDiff, V.trim] <;> first | rfl | (rw [if_pos (by simp)]; done) | (simp; done)), V.le_of_eq (by rw [Env.trim_get]; simp only [S0, reduceIte, Nat.reduceEqDiff, V.trim] <;> first | rfl | (rw [if_pos (by simp)]; done) | (simp; done)), V.le_of_eq (by rw [Env.trim_get]; simp only [S0, reduceIte, Nat.reduceEqDiff, V.trim] <;> first | rfl | (rw [if_pos (by simp)]; done) | (simp; done)), V.le_of_eq (by rw [Env.trim_get]; simp only [S0, reduceIte, Nat.reduceEqDiff, V.trim] <;> first | rfl | (rw [if_pos (by simp)]; done) | (simp; done)), V.le_of_eq (by rw [Env.trim_get]; simp only [S0, reduceIte, Nat.reduceEqDiff, V.trim] <;> first | rfl | (rw [if_pos (by simp)]; done) | (simp; done)), V.le_of_eq (by rw [Env.trim_get]; simp only [S0, reduceIte, Nat.reduceEqDiff, V.trim] <;> first | rfl | (rw [if_pos (by simp)]; done) | (simp; done)), V.le_of_eq (by rw [Env.trim_get]; simp only [S0, reduceIte, Nat.reduceEqDiff, V.trim] <;> rfl), trivial⟩, StLe.of_eq (by simp only [hp]; exact trimS_yb hlc)⟩
            · refine h78 _ _ ?_
              clear h78 K78
              refine awL_kyes rfl rfl rfl rfl fun K84 h84 => ?_
              simp (disch := omega) only [S0, step1, reduceIte, Nat.reduceEqDiff, unP]
              refine h84 _ _ ?_
              clear h84 K84
              refine awL_k rfl rfl fun K85 h85 => ?_
              simp (disch := omega) only [S0, step1, reduceIte, Nat.reduceEqDiff]
              refine h85 _ _ ?_
              clear h85 K85
              refine hK53 _ _ ?_
              clear hK53 K53
              refine AW.condK _ rfl (fun hb86 => ?_) (fun hb86 => ?_)
              · skip
                refine AW.ret ?_
                show (_ ∨ _) ∧ _
                refine ⟨.inr rfl, ?_⟩
                show resP _ _ _ [] _
                simp only [resP, resV, V.trim, V.trim.trimL]
                refine ⟨_, _, _, Nat.le_refl _, V.le_refl _ _, StLe.refl _, ?_⟩
                exact ⟨_, false, trimS_y, fun h => by cases h⟩
              · skip
                cases hb86
          · rw [hg68]
            simp only [decide_eq_false_iff_not] at hg68
            have hmt : meetL l[i] l[k] = false := by rw [meet_yes (by assumption)]; exact decide_eq_false fun h => hg68 h.symm
            refine awA_no rfl rfl rfl rfl ?_
            refine awA_no rfl rfl rfl rfl ?_
            refine awA_no rfl rfl rfl rfl ?_
            refine awA_no rfl rfl rfl rfl ?_
            refine awA_no rfl rfl rfl rfl ?_
            refine awA_no rfl rfl rfl rfl ?_
            refine awA_no rfl rfl rfl rfl ?_
            refine awA_no rfl rfl rfl rfl ?_
            refine awA_no rfl rfl rfl rfl ?_
            show awA _ _ _ [] _ _ _ _
            simp only [awA, applyUps]
            show awL _ _ _ _ _ _ _
            refine awL_no rfl rfl rfl rfl ?_
            refine awL_no rfl rfl rfl rfl ?_
            refine awL_k rfl rfl fun K87 h87 => ?_
            simp (disch := omega) only [S0, step1, reduceIte, Nat.reduceEqDiff]
            refine h87 _ _ ?_
            clear h87 K87
            refine hK53 _ _ ?_
            clear hK53 K53
            refine AW.condK _ rfl (fun hb88 => ?_) (fun hb88 => ?_)
            · skip
              cases hb88
            · skip
              refine AW.skip ?_
              refine hK45 _ _ ?_
              clear hK45 K45
              refine AW.region ?_
              refine awL_k rfl rfl fun K89 h89 => ?_
              simp (disch := omega) only [S0, step1, Nat.reduceEqDiff, isNilC, Bool.false_eq_true, binP, intP, true_and, if_true, if_false, KB]
              refine h89 _ _ ?_
              clear h89 K89
              refine awL_k rfl rfl fun K90 h90 => ?_
              simp (disch := omega) only [S0, step1, reduceIte, Nat.reduceEqDiff]
              refine h90 _ _ ?_
              clear h90 K90
              have hp := congrArg List.length (partL_none (n := l.length) (mAt_none hlt hltk (.inr hmt)))
              refine ⟨⟨k + 1, by omega⟩, by simp only []; omega, _, Nat.le_refl _, Nat.le_of_ble_eq_true rfl, ⟨V.le_of_eq (by rw [Env.trim_get]; simp only [S0, reduceIte, Nat.reduceEqDiff, V.trim] <;> rfl), V.le_of_eq (by rw [Env.trim_get]; simp only [S0, reduceIte, Nat.reduceEqDiff, V.trim] <;> first | rfl | (rw [if_pos (by simp)]; done) | (simp; done)), V.le_of_eq (by rw [Env.trim_get]; simp only [S0, reduceIte, Nat.reduceEqDiff, V.trim] <;> first | rfl | (rw [if_pos (by simp)]; done) | (simp; done)), V.le_of_eq (by rw [Env.trim_get]; simp only [S0, reduceIte, Nat.reduceEqDiff, V.trim] <;> rfl), V.le_of_eq (by rw [Env.trim_get]; simp only [S0, reduceIte, Nat.reduceEqDiff, V.trim] <;> first | rfl | (rw [if_pos (by simp)]; done) | (simp; done)), V.le_of_eq (by rw [Env.trim_get]; simp only [S0, reduceIte, Nat.reduceEqDiff, V.trim] <;> first | rfl | (rw [if_pos (by simp)]; done) | (simp; done)), V.le_of_eq (by rw [Env.trim_get]; simp only [S0, reduceIte, Nat.reduceEqDiff, V.trim] <;> first | rfl | (rw [if_pos (by simp)]; done) | (simp; done)), V.le_of_eq (by rw [Env.trim_get]; simp only [S0, reduceIte, Nat.reduceEqDiff, V.trim] <;> first | rfl | (rw [if_pos (by simp)]; done) | (simp; done)), V.le_of_eq (by rw [Env.trim_get]; simp only [S0, reduceIte, Nat.reduceEqDiff, V.trim] <;> first | rfl | (rw [if_pos (by simp)]; done) | (simp; done)), V.le_of_eq (by rw [Env.trim_get]; simp only [S0, reduceIte, Nat.reduceEqDiff, V.trim] <;> first | rfl | (rw [if_pos (by simp)]; done) | (simp; done)), V.le_of_eq (by rw [Env.trim_get]; simp only [S0, reduceIte, Nat.reduceEqDiff, V.trim] <;> first | rfl | (rw [if_pos (by simp)]; done) | (simp; done)), V.le_of_eq (by rw [Env.trim_get]; simp only [S0, reduceIte, Nat.reduceEqDiff, V.trim] <;> rfl), trivial⟩, StLe.of_eq (by simp only [hp]; exact trimS_yb hlc)⟩
        · rw [hg58]
          simp only [decide_eq_false_iff_not, ne_eq, Decidable.not_not] at hg58
          refine awA_no rfl rfl rfl rfl ?_
          refine awA_no rfl rfl rfl rfl ?_
          refine awA_no rfl rfl rfl rfl ?_
          refine awA_no rfl rfl rfl rfl ?_
          refine awA_no rfl rfl rfl rfl ?_
          refine awA_no rfl rfl rfl rfl ?_
          refine awA_no rfl rfl rfl rfl ?_
          refine awA_c rfl rfl rfl fun K91 h91 => ?_
          simp (disch := omega) only [S0, step1, reduceIte, Nat.reduceEqDiff]
          refine h91 _ _ rfl ?_
          clear h91 K91
          refine awA_c rfl rfl rfl fun K92 h92 => ?_
          simp (disch := omega) only [S0, step1, reduceIte, Nat.reduceEqDiff]
          refine h92 _ _ rfl ?_
          clear h92 K92
          refine awA_no rfl rfl rfl rfl ?_
          refine awA_no rfl rfl rfl rfl ?_
          refine awA_no rfl rfl rfl rfl ?_
          refine awA_no rfl rfl rfl rfl ?_
          refine awA_no rfl rfl rfl rfl ?_
          refine awA_no rfl rfl rfl rfl ?_
          refine awA_no rfl rfl rfl rfl ?_
          refine awA_no rfl rfl rfl rfl ?_
          refine awA_no rfl rfl rfl rfl ?_
          show awA _ _ _ [] _ _ _ _
          simp only [awA, applyUps]
          show awL _ _ _ _ _ _ _
          refine awL_no rfl rfl rfl rfl ?_
          refine awL_no rfl rfl rfl rfl ?_
          refine awL_k rfl rfl fun K93 h93 => ?_
          simp (disch := omega) only [S0, step1, reduceIte, Nat.reduceEqDiff]
          refine h93 _ _ ?_
          clear h93 K93
          refine hK53 _ _ ?_
          clear hK53 K53
          refine AW.condK _ rfl (fun hb94 => ?_) (fun hb94 => ?_)
          · skip
            cases hb94
          · skip
            refine AW.skip ?_
            refine hK45 _ _ ?_
            clear hK45 K45
            refine AW.region ?_
            refine awL_k rfl rfl fun K95 h95 => ?_
            simp (disch := omega) only [S0, step1, Nat.reduceEqDiff, isNilC, Bool.false_eq_true, binP, intP, true_and, if_true, if_false, KB]
            refine h95 _ _ ?_
            clear h95 K95
            refine awL_k rfl rfl fun K96 h96 => ?_
            simp (disch := omega) only [S0, step1, reduceIte, Nat.reduceEqDiff]
            refine h96 _ _ ?_
            clear h96 K96
            have hp := congrArg List.length (partL_none (n := l.length) (mAt_none hlt hltk (.inl (by omega))))
            refine ⟨⟨k + 1, by omega⟩, by simp only []; omega, _, Nat.le_refl _, Nat.le_of_ble_eq_true rfl, ⟨V.le_of_eq (by rw [Env.trim_get]; simp only [S0, reduceIte, Nat.reduceEqDiff, V.trim] <;> rfl), V.le_of_eq (by rw [Env.trim_get]; simp only [S0, reduceIte, Nat.reduceEqDiff, V.trim] <;> first | rfl | (rw [if_pos (by simp)]; done) | (simp; done)), V.le_of_eq (by rw [Env.trim_get]; simp only [S0, reduceIte, Nat.reduceEqDiff, V.trim] <;> first | rfl | (rw [if_pos (by simp)]; done) | (simp; done)), V.le_of_eq (by rw [Env.trim_get]; simp only [S0, reduceIte, Nat.reduceEqDiff, V.trim] <;> rfl), V.le_of_eq (by rw [Env.trim_get]; simp only [S0, reduceIte, Nat.reduceEqDiff, V.trim] <;> first | rfl | (rw [if_pos (by simp)]; done) | (simp; done)), V.le_of_eq (by rw [Env.trim_get]; simp only [S0, reduceIte, Nat.reduceEqDiff, V.trim] <;> first | rfl | (rw [if_pos (by simp)]; done) | (simp; done)), V.le_of_eq (by rw [Env.trim_get]; simp only [S0, reduceIte, Nat.reduceEqDiff, V.trim] <;> first | rfl | (rw [if_pos (by simp)]; done) | (simp; done)), V.le_of_eq (by rw [Env.trim_get]; simp only [S0, reduceIte, Nat.reduceEqDiff, V.trim] <;> first | rfl | (rw [if_pos (by simp)]; done) | (simp; done)), V.le_of_eq (by rw [Env.trim_get]; simp only [S0, reduceIte, Nat.reduceEqDiff, V.trim] <;> first | rfl | (rw [if_pos (by simp)]; done) | (simp; done)), V.le_of_eq (by rw [Env.trim_get]; simp only [S0, reduceIte, Nat.reduceEqDiff, V.trim] <;> first | rfl | (rw [if_pos (by simp)]; done) | (simp; done)), V.le_of_eq (by rw [Env.trim_get]; simp only [S0, reduceIte, Nat.reduceEqDiff, V.trim] <;> first | rfl | (rw [if_pos (by simp)]; done) | (simp; done)), V.le_of_eq (by rw [Env.trim_get]; simp only [S0, reduceIte, Nat.reduceEqDiff, V.trim] <;> rfl), trivial⟩, StLe.of_eq (by simp only [hp]; exact trimS_yb hlc)⟩
      · skip
        simp only [decide_eq_false_iff_not, Int.ofNat_lt] at hb44
        have hkn : k = l.length := by omega
        refine AW.exit ?_
        refine hK10 _ _ ?_
        refine AW.region ?_
        refine awL_k rfl rfl fun K97 h97 => ?_
        simp (disch := omega) only [S0, step1, Nat.reduceEqDiff, isNilC, Bool.false_eq_true, binP, intP, true_and, if_true, if_false, KB]
        refine h97 _ _ ?_
        clear h97 K97
        refine awL_k rfl rfl fun K98 h98 => ?_
        simp (disch := omega) only [S0, step1, reduceIte, Nat.reduceEqDiff]
        refine h98 _ _ ?_
        clear h98 K98
        have hp : partL l.length (mAt l) (i + 1) 0 = partL l.length (mAt l) i k := by rw [hkn, partL_turn]
        refine ⟨⟨i + 1, by omega⟩, by simp only []; omega, _, Nat.le_refl _, Nat.le_of_ble_eq_true rfl, ⟨V.le_of_eq (by rw [Env.trim_get]; simp only [S0, reduceIte, Nat.reduceEqDiff, V.trim] <;> rfl), V.le_of_eq (by rw [Env.trim_get]; simp only [S0, reduceIte, Nat.reduceEqDiff, V.trim] <;> first | rfl | (rw [if_pos (by simp)]; done) | (simp; done)), V.le_of_eq (by rw [Env.trim_get]; simp only [S0, reduceIte, Nat.reduceEqDiff, V.trim] <;> first | rfl | (rw [if_pos (by simp)]; done) | (simp; done)), V.le_of_eq (by rw [Env.trim_get]; simp only [S0, reduceIte, Nat.reduceEqDiff, V.trim] <;> first | rfl | (rw [if_pos (by simp)]; done) | (simp; done)), V.le_of_eq (by rw [Env.trim_get]; simp only [S0, reduceIte, Nat.reduceEqDiff, V.trim] <;> rfl), trivial⟩, StLe.of_eq (by simp only [hp]; exact trimS_y)⟩
  · skip
    simp only [decide_eq_false_iff_not, Int.ofNat_lt] at hb9
    have hge : i = l.length := by omega
    refine AW.exit ?_
    show (_ ∨ _) ∧ _
    refine ⟨.inl rfl, ?_⟩
    show resP _ _ _ [] _
    simp only [resP, resV]
    refine ⟨_, _, _, Nat.le_refl _, V.le_refl _ _, StLe.refl _, ?_⟩
    exact ⟨_, true, trimS_y, fun _ => by subst hge; rw [partL_end, List.length_map]; rfl⟩
theorem seq_spec (l : List Pr) (ch : V) (hch : rowOK ch) (st : List O) : Duo.Call Tryd.prog Tryd.gl 44 [.agg [.sl (l.map encP) none, ch]] st (fun v st' => v = .func (.func 70) [] [.dptr [.sl (l.map encP) none, ch.bare]] ∧ st' = st) := by
  refine Duo.Call.clo fun hst => ?_
  refine Duo.Call.body 4 [(0, .agg [.sl (l.map encP) none, ch])] Tryd.func44 rfl rfl ?_
  refine AW.seqK fun K1 hK1 => ?_
  refine AW.region ?_
  refine awL_k rfl rfl fun K2 h2 => ?_
  simp (disch := omega) only [S0, step1, reduceIte, S3, S1, hch.one, one_sl]
  refine h2 _ _ ?_
  clear h2 K2
  refine awL_k rfl rfl fun K3 h3 => ?_
  simp (disch := omega) only [S0, step1]
  refine h3 _ _ ?_
  clear h3 K3
  refine hK1 _ _ ?_
  clear hK1 K1
  refine AW.seqK fun K4 hK4 => ?_
  refine AW.region ?_
  refine awL_k rfl rfl fun K5 h5 => ?_
  simp (disch := omega) only [S0, step1, reduceIte, Nat.reduceEqDiff, List.map_cons, List.map_nil]
  refine h5 _ _ ?_
  clear h5 K5
  refine awL_k rfl rfl fun K6 h6 => ?_
  simp (disch := omega) only [S0, step1, reduceIte, Nat.reduceEqDiff]
  refine h6 _ _ ?_
  clear h6 K6
  refine hK4 _ _ ?_
  clear hK4 K4
  refine AW.pre (Env.le_refl _ _) (StLe.app (l' := [.box 45 [.sl (l.map encP) none, ch.bare]]) (show OLe _ [_] [_] from ⟨O.le_box (show CLe _ [_, _] [_, _] from ⟨V.le_refl _ _, hch.le _, trivial⟩), trivial⟩)) ?_
  refine AW.frz st.length 45 [.sl (l.map encP) none, ch.bare] (by rw [st_get0]; rfl) (by intro c hc; simp only [List.mem_cons, List.not_mem_nil, or_false] at hc; rcases hc with rfl | rfl; exact ⟨PureV.sl _ _, V.bare_sl _ _⟩; exact ⟨hch.bare.1.pure, hch.bare.2⟩) ?_
  refine AW.ret ?_
  show (_ ∨ _) ∧ _
  refine ⟨.inr rfl, ?_⟩
  show resP _ _ _ [.tmp 2] _
  simp only [resP, resV, V.trim, V.trim.trimL, S0, reduceIte, Nat.reduceEqDiff, Env.fz_get, V.fz, V.fz.fzL, List.drop_zero]
  refine ⟨_, _, _, Nat.le_refl _, V.le_refl _ _, StLe.refl _, ?_⟩
  exact ⟨by rcases hch with rfl | ⟨es, rfl⟩ <;> rfl, fz_clo hst _ _⟩
end Tryd
end Go.Proofs
