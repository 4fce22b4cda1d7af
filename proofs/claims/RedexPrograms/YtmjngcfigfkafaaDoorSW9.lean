/-
  A part of the proof.
-/
import Derived.Test.YtmjngcfigfkafaaDoorLib
import Derived.Test.YtmjngcfigfkafaaDoorSFacts
import Derived.Test.YtmjngcfigfkafaaDoorData
import Derived.Test.YtmjngcfigfkafaaDoorDKit
import Derived.Test.YtmjngcfigfkafaaDoorSX6
import Derived.Test.YtmjngcfigfkafaaDoorSW8
set_option linter.all false
namespace Go.Proofs
open Go Go.Duo
namespace Tryd
set_option maxHeartbeats 8000000 in
theorem awake_spec  (st : List O) : Duo.Call Tryd.prog Tryd.gl 16 [] st (fun v st' => v = .bool true ∧ st' = st) := by
  refine Duo.Call.clo fun hst => ?_
  refine Duo.Call.real fun hr => ?_
  refine Duo.Call.body 80 [] Tryd.func16 rfl rfl ?_
  refine AW.seqK fun K1 hK1 => ?_
  refine AW.region ?_
  refine awL_k rfl rfl fun K2 h2 => ?_
  simp (disch := omega) only [S0, step1]
  refine h2 _ _ ?_
  clear h2 K2
  refine hK1 _ _ ?_
  clear hK1 K1
  refine AW.seqK fun K3 hK3 => ?_
  refine AW.region ?_
  refine awL_k rfl rfl fun K4 h4 => ?_
  simp (disch := omega) only [S0, step1, reduceIte, buildP, Tryd.plc89, Tryd.zro89, fillV, splice, S3, V.one, S1, Nat.reduceAdd, Nat.reduceLeDiff, LB]
  refine h4 _ _ ?_
  clear h4 K4
  refine awL_k rfl rfl fun K5 h5 => ?_
  simp (disch := omega) only [S0, step1, reduceIte, buildP, Tryd.plc89, Tryd.zro89, fillV, splice, S3, V.one, S1, Nat.reduceAdd, Nat.reduceLeDiff, LB]
  refine h5 _ _ ?_
  clear h5 K5
  refine awL_k rfl rfl fun K6 h6 => ?_
  simp (disch := omega) only [S0, step1, reduceIte, buildP, Tryd.plc89, Tryd.zro89, fillV, splice, S3, V.one, S1, Nat.reduceAdd, Nat.reduceLeDiff, LB]
  refine h6 _ _ ?_
  clear h6 K6
  refine awL_k rfl rfl fun K7 h7 => ?_
  simp (disch := omega) only [S0, step1, reduceIte, buildP, Tryd.plc89, Tryd.zro89, fillV, splice, S3, V.one, S1, Nat.reduceAdd, Nat.reduceLeDiff, LB]
  refine h7 _ _ ?_
  clear h7 K7
  refine awL_k rfl rfl fun K8 h8 => ?_
  simp (disch := omega) only [S0, step1, reduceIte, Nat.reduceEqDiff, buildSliceP, Tryd.elt42, S1, Nat.reduceLeDiff, Nat.reduceMul, V.bare, V.bare.bareL]
  (refine ⟨(by decide), (by rfl), (by repeat first | exact parts_nil | refine parts_cons ⟨by rfl, by rfl, (by repeat first | exact PureL.nil | refine PureL.cons (by first | exact PureV.int _ _ | exact PureV.bool _) ?_)⟩ ?_), h8 _ _ ?_⟩)
  clear h8 K8
  refine awL_k rfl rfl fun K9 h9 => ?_
  show ent _ _ = true ∧ _
  simp only [S0, reduceIte, Nat.reduceEqDiff, List.nil_append, List.append_nil, List.map]
  refine ⟨Tryd.ent17, Duo.Call.mono (Duo.Call.argle (bs := [.sl (thA.map encTh) none]) (show CLe _ [_] [_] from ⟨by exact V.le_sl _ (thA.map encTh) _, trivial⟩) (threads_spec thA (by decide) _)) ?_⟩
  rintro _ _ ⟨rfl, hcs⟩
  obtain rfl := hcs.symm
  rw [thA_pr]
  refine h9 _ _ ?_
  clear h9 K9
  refine awL_k rfl rfl fun K10 h10 => ?_
  simp (disch := omega) only [S0, step1, reduceIte, Nat.reduceEqDiff]
  refine h10 _ _ ?_
  clear h10 K10
  refine hK3 _ _ ?_
  clear hK3 K3
  refine AW.seqK fun K11 hK11 => ?_
  refine AW.region ?_
  refine awL_k rfl rfl fun K12 h12 => ?_
  simp (disch := omega) only [S0, step1, reduceIte, Nat.reduceEqDiff]
  refine h12 _ _ ?_
  clear h12 K12
  refine awL_k rfl rfl fun K13 h13 => ?_
  simp (disch := omega) only [S0, step1, reduceIte, Nat.reduceEqDiff, buildP, Tryd.plc45, Tryd.zro45, fillV, splice, S3, V.one, S1, Nat.reduceAdd, Nat.reduceLeDiff, LB]
  refine h13 _ _ ?_
  clear h13 K13
  refine awL_k rfl rfl fun K14 h14 => ?_
  simp (disch := omega) only [step1, Tryd.zro45, S2, LB, List.cons_append, List.nil_append]
  refine h14 _ _ ?_
  clear h14 K14
  refine awL_k rfl rfl fun K15 h15 => ?_
  simp (disch := omega) only [S0, step1, reduceIte, Nat.reduceEqDiff, storeP, Tryd.lay45, splice, S3, V.one, S1, Nat.reduceAdd, S2, LB]
  refine h15 _ _ ?_
  clear h15 K15
  refine hK11 _ _ ?_
  clear hK11 K11
  refine AW.seqK fun K16 hK16 => ?_
  refine AW.region ?_
  refine awL_k rfl rfl fun K17 h17 => ?_
  simp (disch := omega) only [S0, step1, reduceIte, Nat.reduceEqDiff, loadP, Tryd.lay45, pack, S1, Nat.reduceAdd, S2, LB]
  refine h17 _ _ ?_
  clear h17 K17
  refine awL_k rfl rfl fun K18 h18 => ?_
  show ent _ _ = true ∧ _
  simp only [S0, reduceIte, Nat.reduceEqDiff, List.nil_append, List.append_nil, List.map]
  refine ⟨Tryd.ent19, Duo.Call.mono (plist_spec prA .nil rowOK.nil (by decide) hasA chanA _) ?_⟩
  rintro _ _ ⟨rfl, hcs⟩
  obtain rfl := hcs.symm
  rw [listA]
  refine h18 _ _ ?_
  clear h18 K18
  refine awL_k rfl rfl fun K19 h19 => ?_
  simp (disch := omega) only [S0, step1, reduceIte, Nat.reduceEqDiff]
  refine h19 _ _ ?_
  clear h19 K19
  refine hK16 _ _ ?_
  clear hK16 K16
  refine AW.seqK fun K20 hK20 => ?_
  refine AW.region ?_
  refine awL_k rfl rfl fun K21 h21 => ?_
  simp (disch := omega) only [S0, step1, reduceIte, Nat.reduceEqDiff, loadP, Tryd.lay45, pack, S1, Nat.reduceAdd, S2, LB]
  refine h21 _ _ ?_
  clear h21 K21
  refine awL_k rfl rfl fun K22 h22 => ?_
  show ent _ _ = true ∧ _
  simp only [S0, reduceIte, Nat.reduceEqDiff, List.nil_append, List.append_nil, List.map]
  refine ⟨Tryd.ent22, Duo.Call.mono (pclash_spec prA .nil rowOK.nil (by decide) hasA chanA _) ?_⟩
  rintro _ _ ⟨rfl, hcs⟩
  obtain rfl := hcs.symm
  rw [clashA]
  refine h22 _ _ ?_
  clear h22 K22
  refine awL_k rfl rfl fun K23 h23 => ?_
  simp (disch := omega) only [S0, step1, reduceIte, Nat.reduceEqDiff]
  refine h23 _ _ ?_
  clear h23 K23
  refine hK20 _ _ ?_
  clear hK20 K20
  refine AW.seqK fun K24 hK24 => ?_
  refine AW.region ?_
  refine awL_k rfl rfl fun K25 h25 => ?_
  simp (disch := omega) only [S0, step1, reduceIte, Nat.reduceEqDiff, loadP, Tryd.lay45, pack, S1, Nat.reduceAdd, S2, LB]
  refine h25 _ _ ?_
  clear h25 K25
  refine awL_k rfl rfl fun K26 h26 => ?_
  show ent _ _ = true ∧ _
  simp only [S0, reduceIte, Nat.reduceEqDiff, List.nil_append, List.append_nil, List.map]
  refine ⟨Tryd.ent25, Duo.Call.mono (pwait_spec prA .nil rowOK.nil (by decide) hasA chanA _) ?_⟩
  rintro _ _ ⟨rfl, hcs⟩
  obtain rfl := hcs.symm
  rw [waitA]
  refine h26 _ _ ?_
  clear h26 K26
  refine awL_k rfl rfl fun K27 h27 => ?_
  simp (disch := omega) only [S0, step1, reduceIte, Nat.reduceEqDiff]
  refine h27 _ _ ?_
  clear h27 K27
  refine hK24 _ _ ?_
  clear hK24 K24
  refine AW.seqK fun K28 hK28 => ?_
  refine AW.region ?_
  refine awL_k rfl rfl fun K29 h29 => ?_
  simp (disch := omega) only [S0, step1, reduceIte, Nat.reduceEqDiff]
  refine h29 _ _ ?_
  clear h29 K29
  refine awL_k rfl rfl fun K30 h30 => ?_
  show ent _ _ = true ∧ _
  simp only [S0, reduceIte, Nat.reduceEqDiff, List.nil_append, List.append_nil, encI, List.map]
  refine ⟨Tryd.ent29, Duo.Call.mono (ppick_spec [⟨0, 1, 0, true⟩] (-5) (by decide) _) ?_⟩
  rintro _ _ ⟨rfl, hcs⟩
  obtain rfl := hcs.symm
  rw [pickA]
  refine h30 _ _ ?_
  clear h30 K30
  refine awL_k rfl rfl fun K31 h31 => ?_
  simp (disch := omega) only [S0, step1, reduceIte, Nat.reduceEqDiff]
  refine h31 _ _ ?_
  clear h31 K31
  refine awL_k rfl rfl fun K32 h32 => ?_
  simp (disch := omega) only [S0, step1, reduceIte, Nat.reduceEqDiff, List.getD_cons_zero, LB, List.map_cons, List.map_nil, encI]
  (((repeat' refine And.intro ?_ ?_); all_goals first | refine h32 _ _ ?_ | omega))
  clear h32 K32
  refine awL_k rfl rfl fun K33 h33 => ?_
  simp (disch := omega) only [S0, step1, reduceIte, Nat.reduceEqDiff, List.getD_cons_zero, List.getD_cons_succ, LB, List.map_cons, List.map_nil, encI]
  (((repeat' refine And.intro ?_ ?_); all_goals first | refine h33 _ _ ?_ | omega))
  clear h33 K33
  refine awL_k rfl rfl fun K34 h34 => ?_
  simp (disch := omega) only [step1, Tryd.zro68, S2, LB, List.cons_append, List.nil_append]
  refine h34 _ _ ?_
  clear h34 K34
  refine awL_k rfl rfl fun K35 h35 => ?_
  simp (disch := omega) only [S0, step1, reduceIte, Nat.reduceEqDiff, storeP, Tryd.lay68, splice, V.one, S1, Nat.reduceAdd, S2, LB, encR_cells, encI]
  refine h35 _ _ ?_
  clear h35 K35
  refine awL_k rfl rfl fun K36 h36 => ?_
  simp (disch := omega) only [S0, step1, reduceIte, Nat.reduceEqDiff]
  refine h36 _ _ ?_
  clear h36 K36
  refine hK28 _ _ ?_
  clear hK28 K28
  refine AW.seqK fun K37 hK37 => ?_
  refine AW.region ?_
  refine awL_k rfl rfl fun K38 h38 => ?_
  show ent _ _ = true ∧ _
  simp only [S0, List.nil_append, List.append_nil, encI, List.map]
  refine ⟨Tryd.ent29, Duo.Call.mono (Duo.Call.argle (bs := [.sl (([] : List Rx).map encR) none, .int .i64 1]) (show CLe _ [_, _] [_, _] from ⟨V.le_nil _, V.le_refl _ _, trivial⟩) (ppick_spec [] 1 (by decide) _)) ?_⟩
  rintro _ _ ⟨rfl, hcs⟩
  obtain rfl := hcs.symm
  refine h38 _ _ ?_
  clear h38 K38
  refine awL_k rfl rfl fun K39 h39 => ?_
  simp (disch := omega) only [S0, step1, reduceIte, Nat.reduceEqDiff]
  refine h39 _ _ ?_
  clear h39 K39
  refine awL_k rfl rfl fun K40 h40 => ?_
  simp (disch := omega) only [S0, step1, reduceIte, Nat.reduceEqDiff, List.getD_cons_zero, LB, List.map_cons, List.map_nil, encI]
  (((repeat' refine And.intro ?_ ?_); all_goals first | refine h40 _ _ ?_ | omega))
  clear h40 K40
  refine awL_k rfl rfl fun K41 h41 => ?_
  simp (disch := omega) only [S0, step1, reduceIte, Nat.reduceEqDiff, List.getD_cons_zero, List.getD_cons_succ, LB, List.map_cons, List.map_nil, encI]
  (((repeat' refine And.intro ?_ ?_); all_goals first | refine h41 _ _ ?_ | omega))
  clear h41 K41
  refine awL_k rfl rfl fun K42 h42 => ?_
  simp (disch := omega) only [step1, Tryd.zro68, S2, LB, List.cons_append, List.nil_append]
  refine h42 _ _ ?_
  clear h42 K42
  refine awL_k rfl rfl fun K43 h43 => ?_
  simp (disch := omega) only [S0, step1, reduceIte, Nat.reduceEqDiff, storeP, Tryd.lay68, splice, V.one, S1, Nat.reduceAdd, S2, LB, encR_cells, encI]
  refine h43 _ _ ?_
  clear h43 K43
  refine awL_k rfl rfl fun K44 h44 => ?_
  simp (disch := omega) only [S0, step1, reduceIte, Nat.reduceEqDiff]
  refine h44 _ _ ?_
  clear h44 K44
  refine hK37 _ _ ?_
  clear hK37 K37
  refine AW.seqK fun K45 hK45 => ?_
  refine AW.any Tryd.mix 38 rfl ?_
  refine awA_c rfl rfl rfl fun K46 h46 => ?_
  simp (disch := omega) only [S0, step1, reduceIte, Nat.reduceEqDiff]
  refine h46 _ _ rfl ?_
  clear h46 K46
  refine awA_c rfl rfl rfl fun K47 h47 => ?_
  simp (disch := omega) only [S0, step1, reduceIte, Nat.reduceEqDiff, lenP, Tryd.elt47, Option.isSome, true_and, S1, Nat.reduceAdd, LB, encI]
  refine h47 _ _ rfl ?_
  clear h47 K47
  refine awA_c rfl rfl rfl fun K48 h48 => ?_
  simp (disch := omega) only [S0, step1, Nat.reduceEqDiff, isNilC, Bool.false_eq_true, binP, intP, true_and, if_true, if_false, List.map_cons, List.map_nil, encI]
  refine h48 _ _ rfl ?_
  clear h48 K48
  refine awA_c rfl rfl rfl fun K49 h49 => ?_
  simp (disch := omega) only [S0, step1, reduceIte, Nat.reduceEqDiff]
  refine h49 _ _ rfl ?_
  clear h49 K49
  refine awA_cyes rfl rfl rfl rfl rfl fun K50 h50 => ?_
  simp (disch := omega) only [S0, step1, reduceIte, Nat.reduceEqDiff]
  refine h50 _ _ rfl ?_
  clear h50 K50
  refine awA_cyes rfl rfl rfl rfl rfl fun K51 h51 => ?_
  simp (disch := omega) only [S0, step1, reduceIte, Nat.reduceEqDiff, iaP, Tryd.elt47, S1, Nat.reduceAdd, LB, encR_cells, encI, List.getD_cons_zero, Int.toNat_zero]
  (((repeat' refine And.intro ?_ ?_); all_goals first | refine h51 _ _ rfl ?_ | omega))
  clear h51 K51
  refine awA_cyes rfl rfl rfl rfl rfl fun K52 h52 => ?_
  simp (disch := omega) only [S0, step1, reduceIte, Nat.reduceEqDiff, loadP, Tryd.lay68, pack, S1, Nat.reduceAdd, LB, encI]
  refine h52 _ _ rfl ?_
  clear h52 K52
  refine awA_cyes rfl rfl rfl rfl rfl fun K53 h53 => ?_
  simp (disch := omega) only [S0, step1, reduceIte, buildP, Tryd.plc68, Tryd.zro68, fillV, splice, S3, V.one, S1, Nat.reduceAdd, Nat.reduceLeDiff, LB, encI]
  refine h53 _ _ rfl ?_
  clear h53 K53
  refine awA_cyes rfl rfl rfl rfl rfl fun K54 h54 => ?_
  simp (disch := omega) only [S0, step1, Nat.reduceEqDiff, isNilC, Bool.false_eq_true, binP, if_true, if_false, eqP, Tryd.seq68, cmpL, cmpV, List.map_cons, List.map_nil, encI]
  refine h54 _ _ rfl ?_
  clear h54 K54
  refine awA_c rfl rfl rfl fun K55 h55 => ?_
  simp (disch := omega) only [S0, step1, reduceIte, Nat.reduceEqDiff]
  refine h55 _ _ rfl ?_
  clear h55 K55
  refine awA_c rfl rfl rfl fun K56 h56 => ?_
  simp (disch := omega) only [S0, step1, reduceIte, Nat.reduceEqDiff]
  refine h56 _ _ rfl ?_
  clear h56 K56
  refine awA_cyes rfl rfl rfl rfl rfl fun K57 h57 => ?_
  simp (disch := omega) only [S0, step1, reduceIte, Nat.reduceEqDiff]
  refine h57 _ _ rfl ?_
  clear h57 K57
  refine awA_cyes rfl rfl rfl rfl rfl fun K58 h58 => ?_
  simp (disch := omega) only [S0, step1, reduceIte, Nat.reduceEqDiff, lenP, Tryd.elt52, Option.isSome, true_and, S1, Nat.reduceAdd, LB, encI]
  refine h58 _ _ rfl ?_
  clear h58 K58
  refine awA_cyes rfl rfl rfl rfl rfl fun K59 h59 => ?_
  simp (disch := omega) only [S0, step1, Nat.reduceEqDiff, isNilC, Bool.false_eq_true, binP, intP, true_and, if_true, if_false, List.map_cons, List.map_nil, encI]
  refine h59 _ _ rfl ?_
  clear h59 K59
  refine awA_c rfl rfl rfl fun K60 h60 => ?_
  simp (disch := omega) only [S0, step1, reduceIte, Nat.reduceEqDiff]
  refine h60 _ _ rfl ?_
  clear h60 K60
  refine awA_c rfl rfl rfl fun K61 h61 => ?_
  simp (disch := omega) only [S0, step1, reduceIte, Nat.reduceEqDiff]
  refine h61 _ _ rfl ?_
  clear h61 K61
  refine awA_cyes rfl rfl rfl rfl rfl fun K62 h62 => ?_
  simp (disch := omega) only [S0, step1, reduceIte, Nat.reduceEqDiff]
  refine h62 _ _ rfl ?_
  clear h62 K62
  refine awA_cyes rfl rfl rfl rfl rfl fun K63 h63 => ?_
  simp (disch := omega) only [S0, step1, reduceIte, Nat.reduceEqDiff, iaP, Tryd.elt52, S1, Nat.reduceAdd, LB, encD_cells, encI, List.getD_cons_zero, Int.toNat_zero]
  (((repeat' refine And.intro ?_ ?_); all_goals first | refine h63 _ _ rfl ?_ | omega))
  clear h63 K63
  refine awA_cyes rfl rfl rfl rfl rfl fun K64 h64 => ?_
  simp (disch := omega) only [S0, step1, reduceIte, Nat.reduceEqDiff, loadP, Tryd.lay73, pack, S1, Nat.reduceAdd, LB, encI]
  refine h64 _ _ rfl ?_
  clear h64 K64
  refine awA_cyes rfl rfl rfl rfl rfl fun K65 h65 => ?_
  simp (disch := omega) only [S0, step1, reduceIte, buildP, Tryd.plc73, Tryd.zro73, fillV, splice, S3, V.one, S1, Nat.reduceAdd, Nat.reduceLeDiff, Nat.reduceMul, LB, encI]
  refine h65 _ _ rfl ?_
  clear h65 K65
  refine awA_cyes rfl rfl rfl rfl rfl fun K66 h66 => ?_
  simp (disch := omega) only [S0, step1, Nat.reduceEqDiff, isNilC, Bool.false_eq_true, binP, if_true, if_false, eqP, Tryd.seq73, cmpL, cmpV, List.map_cons, List.map_nil, encI]
  refine h66 _ _ rfl ?_
  clear h66 K66
  refine awA_c rfl rfl rfl fun K67 h67 => ?_
  simp (disch := omega) only [S0, step1, reduceIte, Nat.reduceEqDiff]
  refine h67 _ _ rfl ?_
  clear h67 K67
  refine awA_c rfl rfl rfl fun K68 h68 => ?_
  simp (disch := omega) only [S0, step1, reduceIte, Nat.reduceEqDiff]
  refine h68 _ _ rfl ?_
  clear h68 K68
  refine awA_cyes rfl rfl rfl rfl rfl fun K69 h69 => ?_
  simp (disch := omega) only [S0, step1, reduceIte, Nat.reduceEqDiff]
  refine h69 _ _ rfl ?_
  clear h69 K69
  refine awA_cyes rfl rfl rfl rfl rfl fun K70 h70 => ?_
  simp (disch := omega) only [S0, step1, reduceIte, Nat.reduceEqDiff, lenP, Tryd.elt56, Option.isSome, true_and, S1, Nat.reduceAdd, LB, encI]
  refine h70 _ _ rfl ?_
  clear h70 K70
  refine awA_cyes rfl rfl rfl rfl rfl fun K71 h71 => ?_
  simp (disch := omega) only [S0, step1, Nat.reduceEqDiff, isNilC, Bool.false_eq_true, binP, intP, true_and, if_true, if_false, List.map_cons, List.map_nil, encI]
  refine h71 _ _ rfl ?_
  clear h71 K71
  refine awA_c rfl rfl rfl fun K72 h72 => ?_
  simp (disch := omega) only [S0, step1, reduceIte, Nat.reduceEqDiff]
  refine h72 _ _ rfl ?_
  clear h72 K72
  refine awA_c rfl rfl rfl fun K73 h73 => ?_
  simp (disch := omega) only [S0, step1, reduceIte, Nat.reduceEqDiff]
  refine h73 _ _ rfl ?_
  clear h73 K73
  refine awA_cyes rfl rfl rfl rfl rfl fun K74 h74 => ?_
  simp (disch := omega) only [S0, step1, reduceIte, Nat.reduceEqDiff]
  refine h74 _ _ rfl ?_
  clear h74 K74
  refine awA_cyes rfl rfl rfl rfl rfl fun K75 h75 => ?_
  simp (disch := omega) only [S0, step1, reduceIte, Nat.reduceEqDiff, iaP, Tryd.elt56, S3, S1, Nat.reduceAdd, LB, encI, List.getD_cons_zero, Int.toNat_zero]
  (((repeat' refine And.intro ?_ ?_); all_goals first | refine h75 _ _ rfl ?_ | omega))
  clear h75 K75
  refine awA_cyes rfl rfl rfl rfl rfl fun K76 h76 => ?_
  simp (disch := omega) only [S0, step1, reduceIte, Nat.reduceEqDiff, loadP, Tryd.lay3, pack, S1, Nat.reduceAdd, LB, encI]
  refine h76 _ _ rfl ?_
  clear h76 K76
  refine awA_cyes rfl rfl rfl rfl rfl fun K77 h77 => ?_
  simp (disch := omega) only [S0, step1, Nat.reduceEqDiff, isNilC, Bool.false_eq_true, binP, intP, true_and, if_true, if_false, List.map_cons, List.map_nil, encI]
  refine h77 _ _ rfl ?_
  clear h77 K77
  refine awA_c rfl rfl rfl fun K78 h78 => ?_
  simp (disch := omega) only [S0, step1, reduceIte, Nat.reduceEqDiff]
  refine h78 _ _ rfl ?_
  clear h78 K78
  refine awA_c rfl rfl rfl fun K79 h79 => ?_
  simp (disch := omega) only [S0, step1, reduceIte, Nat.reduceEqDiff]
  refine h79 _ _ rfl ?_
  clear h79 K79
  refine awA_cyes rfl rfl rfl rfl rfl fun K80 h80 => ?_
  simp (disch := omega) only [S0, step1, reduceIte, Nat.reduceEqDiff, loadP, Tryd.lay68, pack, S1, Nat.reduceAdd, S2, LB, encI]
  refine h80 _ _ rfl ?_
  clear h80 K80
  refine awA_cyes rfl rfl rfl rfl rfl fun K81 h81 => ?_
  simp (disch := omega) only [S0, step1, reduceIte, Nat.reduceEqDiff]
  refine h81 _ _ rfl ?_
  clear h81 K81
  refine awA_cyes rfl rfl rfl rfl rfl fun K82 h82 => ?_
  simp (disch := omega) only [S0, step1, reduceIte, Nat.reduceEqDiff, iaP, Tryd.elt47, S1, Nat.reduceAdd, LB, encR_cells, encI, List.getD_cons_zero, Int.toNat_zero]
  (((repeat' refine And.intro ?_ ?_); all_goals first | refine h82 _ _ rfl ?_ | omega))
  clear h82 K82
  refine awA_cyes rfl rfl rfl rfl rfl fun K83 h83 => ?_
  simp (disch := omega) only [S0, step1, reduceIte, Nat.reduceEqDiff, loadP, Tryd.lay68, pack, S1, Nat.reduceAdd, LB, encI]
  refine h83 _ _ rfl ?_
  clear h83 K83
  show awA _ _ _ [] _ _ _ _
  simp only [awA, applyUps]
  show awL _ _ _ _ _ _ _
  refine awL_kyes rfl rfl rfl rfl fun K84 h84 => ?_
  simp (disch := omega) only [S0, step1, Nat.reduceEqDiff, isNilC, Bool.false_eq_true, binP, if_true, if_false, eqP, Tryd.seq68, cmpL, cmpV, List.map_cons, List.map_nil, encI]
  refine h84 _ _ ?_
  clear h84 K84
  refine awL_k rfl rfl fun K85 h85 => ?_
  simp (disch := omega) only [S0, step1, reduceIte, Nat.reduceEqDiff]
  refine h85 _ _ ?_
  clear h85 K85
  refine awL_k rfl rfl fun K86 h86 => ?_
  simp (disch := omega) only [S0, step1, reduceIte, Nat.reduceEqDiff]
  refine h86 _ _ ?_
  clear h86 K86
  refine awL_kyes rfl rfl rfl rfl fun K87 h87 => ?_
  simp (disch := omega) only [S0, step1, reduceIte, Nat.reduceEqDiff]
  refine h87 _ _ ?_
  clear h87 K87
  refine awL_k rfl rfl fun K88 h88 => ?_
  simp (disch := omega) only [S0, step1, reduceIte, Nat.reduceEqDiff]
  refine h88 _ _ ?_
  clear h88 K88
  refine awL_k rfl rfl fun K89 h89 => ?_
  simp (disch := omega) only [S0, step1, reduceIte, Nat.reduceEqDiff]
  refine h89 _ _ ?_
  clear h89 K89
  refine awL_kyes rfl rfl rfl rfl fun K90 h90 => ?_
  simp (disch := omega) only [S0, step1, reduceIte, Nat.reduceEqDiff]
  refine h90 _ _ ?_
  clear h90 K90
  refine awL_kyes rfl rfl rfl rfl fun K91 h91 => ?_
  simp (disch := omega) only [S0, step1, reduceIte, Nat.reduceEqDiff, unP, List.map_cons, List.map_nil, encI]
  refine h91 _ _ ?_
  clear h91 K91
  refine awL_k rfl rfl fun K92 h92 => ?_
  simp (disch := omega) only [S0, step1, reduceIte, Nat.reduceEqDiff]
  refine h92 _ _ ?_
  clear h92 K92
  refine awL_k rfl rfl fun K93 h93 => ?_
  simp (disch := omega) only [S0, step1, reduceIte, Nat.reduceEqDiff]
  refine h93 _ _ ?_
  clear h93 K93
  refine hK45 _ _ ?_
  clear hK45 K45
  refine AW.ret ?_
  show (_ ∨ _) ∧ _
  refine ⟨.inr rfl, ?_⟩
  show resP _ _ _ [.tmp 0] _
  simp only [resP, resV, S0, reduceIte, Nat.reduceEqDiff]
  refine ⟨_, _, _, Nat.le_refl _, V.le_refl _ _, StLe.refl _, ?_⟩
  exact ⟨by rfl, hst.trim_append _⟩
end Tryd
end Go.Proofs
