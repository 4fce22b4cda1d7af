/-
  A part of the proof.
-/
import Derived.Test.YtdlcnihacaboiaaGreatDoorSubLib
import Derived.Test.YtdlcnihacaboiaaGreatDoorGM
import Derived.Test.YtdlcnihacaboiaaGreatDoorDS3
import Derived.Test.YtdlcnihacaboiaaGreatDoorDLate3
import Derived.Test.YtdlcnihacaboiaaGreatDoorGI
import Derived.Test.YtdlcnihacaboiaaGreatDoorGN
import Derived.Test.YtdlcnihacaboiaaGreatDoorZProgE
set_option linter.all false
namespace Go.Proofs
open Go Go.Duo
namespace Tryz
attribute [local irreducible] awL awA awT AW
set_option maxRecDepth 100000 in
set_option maxHeartbeats 8000000 in
theorem total_spec (p:Pg) (hp:okPg p) (hs:smPg p) (st:List O):Duo.Call Tryz.prog Tryz.gl 131 [encPg p] st (fun v st' => v = .int .i64 (p.total:Nat) ∧ st' = st):=by
  refine Duo.Call.clo fun hst => ?_
  have hm:=hs.main
  have ht:=hs.tz
  have hl:=hs.len
  rw [Pg.total_eq]
  refine Duo.Call.body 62 [(0,encPg p)] Tryz.func131 rfl rfl ?_
  repeat' first
    | refine AW.seqK fun K hK => ?_
    | (refine hK _ _ ?_;clear hK K)
    | refine AW.region ?_
    | refine AW.any (id:=1) mix 5 (by decide +kernel) ?_
    | refine AW.any (id:=5) mix 16 (by decide +kernel) ?_
    | refine awL_call rfl (by exact ent55) (by simp only [go_sem,↓reduceIte];rfl) (by first | exact ptypes_spec _ (by omega) (by omega) hm.2 _ | exact size_spec _ (by have:=hd.2.2 _ (List.getElem_mem hq2);omega) _) rfl ?_
    | refine awA_nil (by simp only [applyUps,S0];rfl) ?_
    | refine awL_nil ?_
    | ((fail_if_success (clear hjq));(rcases Nat.lt_or_ge i p.defs.length with hq | hq;rotate_left;focus (exfalso;omega));have hjq:True:=trivial;have hd:=hs.defs _ (List.getElem_mem hq);have hw:=hs.wz (List.getElem_mem hq);have hu:=hp.defs _ (List.getElem_mem hq);have hs1:=sumN_take (f:=Df.wz) hq;have hs2:=sumN_le Df.wz p.defs (i + 1);have hz1:(p.defs[i]).wz = (p.defs[i]).body.sz + (p.defs[i]).body.tz + sumN Pm.sz (p.defs[i]).params:=rfl)
    | ((fail_if_success (clear hjq2));(rcases Nat.lt_or_ge k (p.defs[i]).params.length with hq | hq;rotate_left;focus (exfalso;omega));have hjq2:True:=trivial;have hq2:=hq;have hr1:=sumN_take (f:=Pm.sz) hq2;have hr2:=sumN_le Pm.sz (p.defs[i]).params (k + 1);have hz2:((p.defs[i]).params[k]).sz = ((p.defs[i]).params[k]).t.sz:=rfl)
    | refine awL_S1 rfl rfl (by simp (disch:=omega) only [go_sem,↓reduceIte,Nat.reduceEqDiff,Nat.reduceAdd,Nat.reduceLeDiff,Nat.reduceLT];rfl) ?_
    | refine awA_call rfl (by exact ent55) (by simp only [go_sem,↓reduceIte];rfl) (by first | exact psize_spec _ (by omega) _ | exact ptypes_spec _ (by omega) (by omega) hd.1.2 _) rfl ?_
    | refine awA_S1 rfl rfl (by simp (disch:=omega) only [go_sem,↓reduceIte,Nat.reduceEqDiff,Nat.reduceAdd,Nat.reduceLeDiff,Nat.reduceLT];rfl) ?_
    | (refine AW.condK _ rfl (fun hb => ?_) (fun hb => ?_) <;> (simp only [decide_eq_true_eq,decide_eq_false_iff_not] at hb) <;> skip)
    | refine AW.block ?_
    | refine bq_s ?_
    | refine AW.exit ?_
    | refine AW.skip ?_
    | refine useK (by assumption) ?_
    | (refine AW.loopS (α:={ i:Nat // i ≤ p.defs.length }) 62 (fun i => [(1,.ptr st.length 0),(3,.int .i64 (p.main.sz + p.main.tz + sumN Df.wz (p.defs.take i.1):Nat)),(4,.int .i64 (i.1:Nat))]) (fun i => st ++ [.box 48 (encPg p).cells]) (fun i => p.defs.length - i.1) ⟨0,Nat.zero_le _⟩ rfl ?_ ?_ ?_;(focus (simp (disch:=omega) only [go_sem,↓reduceIte,Nat.reduceEqDiff,List.take_zero,sumN_nil,Nat.add_zero];done));(focus (simp (disch:=omega) only [go_sem];done));rintro ⟨i,hi⟩ hlc;dsimp only;have hs3:=sumN_le Df.wz p.defs i)
    | (refine ⟨⟨i + 1,by omega⟩,by simp only [];omega,_,Nat.le_refl _,Nat.le_of_ble_eq_true rfl, ?_, ?_⟩ <;> (simp (disch:=omega) only [go_sem,↓reduceIte,Nat.reduceEqDiff,hs1,hz1,Nat.add_assoc,List.length_append,trimS_app hst]))
    | (have hqq:=hq;refine AW.loopS (α:={ k:Nat // k ≤ (p.defs[i]).params.length }) 62 (fun k => [(1,.ptr st.length 0),(3,.int .i64 (p.main.sz + p.main.tz + sumN Df.wz (p.defs.take i) + (p.defs[i]).body.sz + (p.defs[i]).body.tz + sumN Pm.sz ((p.defs[i]).params.take k.1):Nat)),(4,.int .i64 (i:Nat)),(5,.int .i64 (k.1:Nat))]) (fun k => st ++ [.box 48 (encPg p).cells]) (fun k => (p.defs[i]).params.length - k.1) ⟨0,Nat.zero_le _⟩ rfl ?_ ?_ ?_;(focus (simp (disch:=omega) only [go_sem,↓reduceIte,Nat.reduceEqDiff,List.take_zero,sumN_nil,Nat.add_zero,Nat.add_assoc];done));(focus (simp (disch:=omega) only [go_sem];done));rintro ⟨k,hk⟩ hlc;dsimp only;have hs4:=sumN_le Pm.sz (p.defs[i]).params k)
    | (refine ⟨⟨k + 1,by omega⟩,by simp only [];omega,_,Nat.le_refl _,Nat.le_of_ble_eq_true rfl, ?_, ?_⟩ <;> (simp (disch:=omega) only [go_sem,↓reduceIte,Nat.reduceEqDiff,hr1,hz2,Nat.add_assoc,List.length_append,trimS_app hst]))
    | (refine AW.ret ?_;show (_ ∨ _) ∧ _;refine ⟨.inr rfl, ?_⟩;show resP _ _ _ [.tmp 2] _;simp (disch:=omega) only [go_sem,↓reduceIte];refine ⟨_,_,_,Nat.le_refl _,V.le_refl _ _,StLe.refl _, ?_⟩;(simp (disch:=omega) only [go_sem,hst.trim_append]))
  · rw [List.take_of_length_le (show (p.defs[i]).params.length ≤ k by omega)];exact V.le_refl _ _
  · rw [List.take_of_length_le (show p.defs.length ≤ i by omega)]
set_option maxRecDepth 100000 in
set_option maxHeartbeats 8000000 in
theorem progE_spec (p:Pg) (hp:okPg p) (hs:smPg p) (st:List O):Duo.Call Tryz.prog Tryz.gl 109 [encPg p] st (fun v st' => v = .int .i64 (progE p) ∧ st' = st):=by
  refine Duo.Call.clo fun hst => ?_
  have hm:=hs.main
  have ht:=hs.tz
  have hl:=hs.len
  have hmo:=hp.main
  have htot:=Pg.total_eq p
  refine Duo.Call.body 76 [(0,encPg p)] Tryz.func109 rfl rfl ?_
  repeat' first
    | refine AW.seqK fun K hK => ?_
    | (refine hK _ _ ?_;clear hK K)
    | refine AW.region ?_
    | refine awL_call rfl (by exact ent131) (by simp only [go_sem,↓reduceIte];rfl) (by first | exact total_spec p hp hs _ | exact rightP_spec _ hmo hm.2 (by omega) _ | exact rightP_spec _ hu.2.1 hd.1.2 (by omega) _ | exact name3_spec _ hu.1 _ | exact name3_spec _ (hu.2.2.2 _ (List.getElem_mem hq2)).1 _ | exact rightT_spec _ (by have:=hd.2.2 _ (List.getElem_mem hq2);omega) (hu.2.2.2 _ (List.getElem_mem hq2)).2 _) rfl ?_
    | refine awL_nil ?_
    | ((fail_if_success (clear hjq));(rcases Nat.lt_or_ge i p.defs.length with hq | hq;rotate_left;focus (exfalso;omega));have hjq:True:=trivial;have hd:=hs.defs _ (List.getElem_mem hq);have hw:=hs.wz (List.getElem_mem hq);have hu:=hp.defs _ (List.getElem_mem hq))
    | ((fail_if_success (clear hjq));(rcases Nat.lt_or_ge i2 p.defs.length with hq | hq;rotate_left;focus (exfalso;omega));have hjq:True:=trivial;have hd:=hs.defs _ (List.getElem_mem hq);have hw:=hs.wz (List.getElem_mem hq);have hu:=hp.defs _ (List.getElem_mem hq))
    | ((fail_if_success (clear hjq2));(rcases Nat.lt_or_ge k (p.defs[i2]).params.length with hq | hq;rotate_left;focus (exfalso;omega));have hjq2:True:=trivial;have hq2:=hq)
    | (refine awL_gno rfl ?_ rfl ?_;focus (simp only [S0,↓reduceIte,Nat.reduceEqDiff,Bool.not_false];done))
    | (refine awL_gyes rfl ?_ ?_;focus (simp only [S0,↓reduceIte,Nat.reduceEqDiff];done))
    | (refine awL_gcase rfl rfl (fun hg => ?_) (fun hg => ?_) <;> (rw [hg];(simp only [Bool.not_eq_true',Bool.not_eq_false'] at hg);skip))
    | refine awL_S1 rfl rfl (by simp (disch:=omega) only [go_sem,↓reduceIte,Nat.reduceEqDiff,Nat.reduceAdd,Nat.reduceLeDiff,Nat.reduceLT];rfl) ?_
    | (refine AW.condK _ rfl (fun hb => ?_) (fun hb => ?_) <;> (simp only [Bool.true_eq_false,decide_eq_true_eq,decide_eq_false_iff_not,Bool.not_eq_true',Bool.not_eq_false',Int.not_lt,Decidable.not_not] at hb) <;> skip)
    | refine AW.block ?_
    | refine bq_s ?_
    | refine AW.exit ?_
    | refine AW.skip ?_
    | refine useK (by assumption) ?_
    | (refine AW.loopS (α:={ i:Nat // i ≤ p.defs.length ∧ ∀ (j:Nat) (hj:j < p.defs.length),j < i → rightP (p.defs[j]).body = 0 }) 76 (fun i => [(1,.ptr st.length 0),(3,.int .i64 (i.1:Nat))]) (fun i => st ++ [.box 48 (encPg p).cells]) (fun i => p.defs.length - i.1) ⟨0,Nat.zero_le _,by intro j hj hj2;omega⟩ rfl ?_ ?_ ?_;(focus (simp (disch:=omega) only [go_sem,↓reduceIte,Nat.reduceEqDiff];done));(focus (simp (disch:=omega) only [go_sem];done));rintro ⟨i,hi,hpre⟩ hlc;dsimp only)
    | (refine ⟨⟨i + 1,by omega,fun j hj hj2 => by rcases Nat.lt_or_eq_of_le (Nat.le_of_lt_succ hj2) with h | h;exact hpre j hj h;subst h;assumption⟩,by simp only [];omega,_,Nat.le_refl _,Nat.le_of_ble_eq_true rfl, ?_, ?_⟩ <;> (simp (disch:=omega) only [go_sem,↓reduceIte,Nat.reduceEqDiff,List.length_append,trimS_app hst]))
    | (refine AW.loopS (α:={ i:Nat // i ≤ p.defs.length ∧ p.defs.all defE = (p.defs.drop i).all defE }) 76 (fun i => [(1,.ptr st.length 0),(6,.int .i64 (i.1:Nat))]) (fun i => st ++ [.box 48 (encPg p).cells]) (fun i => p.defs.length - i.1) ⟨0,Nat.zero_le _,rfl⟩ rfl ?_ ?_ ?_;(focus (simp (disch:=omega) only [go_sem,↓reduceIte,Nat.reduceEqDiff];done));(focus (simp (disch:=omega) only [go_sem];done));rintro ⟨i2,hi2,hpre2⟩ hlc;dsimp only)
    | (refine ⟨⟨i2 + 1,by omega,gall_yes hpre2 (by assumption) (by rw [defE_all,gall_end hpre3 (by omega)];simp_all)⟩,by simp only [];omega,_,Nat.le_refl _,Nat.le_of_ble_eq_true rfl, ?_, ?_⟩ <;> (simp (disch:=omega) only [go_sem,↓reduceIte,Nat.reduceEqDiff,List.length_append,trimS_app hst]))
    | (refine AW.loopS (α:={ k:Nat // k ≤ (p.defs[i2]).params.length ∧ (p.defs[i2]).params.all paramE = ((p.defs[i2]).params.drop k).all paramE }) 76 (fun k => [(1,.ptr st.length 0),(6,.int .i64 (i2:Nat)),(7,.ptr (st.length + 1) 0),(8,.int .i64 (k.1:Nat))]) (fun k => st ++ [.box 48 (encPg p).cells,.box 134 (encDf (p.defs[i2])).cells]) (fun k => (p.defs[i2]).params.length - k.1) ⟨0,Nat.zero_le _,rfl⟩ rfl ?_ ?_ ?_;(focus (simp (disch:=omega) only [go_sem,↓reduceIte,Nat.reduceEqDiff];done));(focus (simp (disch:=omega) only [go_sem];done));rintro ⟨k,hk,hpre3⟩ hlc;dsimp only)
    | (refine ⟨⟨k + 1,by omega,gall_yes hpre3 (by assumption) (by rw [paramE_eq];simp_all)⟩,by simp only [];omega,_,Nat.le_refl _,Nat.le_of_ble_eq_true rfl, ?_, ?_⟩ <;> (simp (disch:=omega) only [go_sem,↓reduceIte,Nat.reduceEqDiff,Nat.reduceAdd,List.length_append,trimS_app hst]))
    | (refine AW.ret ?_;show (_ ∨ _) ∧ _;refine ⟨.inr rfl, ?_⟩;show resP _ _ _ [.tmp 2] _;simp (disch:=omega) only [go_sem,↓reduceIte];refine ⟨_,_,_,Nat.le_refl _,V.le_refl _ _,StLe.refl _, ?_⟩;(simp (disch:=omega) only [go_sem,hst.trim_append]))
  · rw [progE_big (by omega)]
  · rw [progE_body (by omega) hq hpre hb]
  · rw [progE_main (by omega) (show p.defs.length ≤ i by omega) hpre hb]
  · have h2:defE p.defs[i2] = false:=(by rw [defE_all,hb,Bool.false_and])
    have h3:=gall_no hpre2 hq h2
    rw [progE_defs (by omega) (show p.defs.length ≤ i by omega) hpre (by assumption),h3];rfl
  · have h1:paramE p.defs[i2].params[k] = false:=(by rw [paramE_eq,hg,Bool.false_and])
    have h2:defE p.defs[i2] = false:=(by rw [defE_all,gall_no hpre3 hq2 h1,Bool.and_false])
    have h3:=gall_no hpre2 (by assumption) h2
    rw [progE_defs (by omega) (show p.defs.length ≤ i by omega) hpre (by assumption),h3];rfl
  · have h1:paramE p.defs[i2].params[k] = false:=(by rw [paramE_eq,decide_eq_false hb,Bool.and_false])
    have h2:defE p.defs[i2] = false:=(by rw [defE_all,gall_no hpre3 hq2 h1,Bool.and_false])
    have h3:=gall_no hpre2 (by assumption) h2
    rw [progE_defs (by omega) (show p.defs.length ≤ i by omega) hpre (by assumption),h3];rfl
  · have h3:=gall_end hpre2 (show p.defs.length ≤ i2 by omega)
    rw [progE_defs (by omega) (show p.defs.length ≤ i by omega) hpre (by assumption),h3];rfl
set_option maxRecDepth 100000 in
set_option maxHeartbeats 8000000 in
theorem little_spec (p:Pg) (m:Int) (h0:0 ≤ m) (h1:m ≤ 1000000) (hp:okPg p) (st:List O):Duo.Call Tryz.prog Tryz.gl 77 [encPg p,.int .i64 m] st (fun v st' => v = .bool (littleB p m) ∧ st' = st):=by
  refine Duo.Call.clo fun hst => ?_
  have hmo:=hp.main
  have hlen:p.defs.length ≤ 9223372036854775807:=hp.len
  refine Duo.Call.body 67 [(0,encPg p),(1,.int .i64 m)] Tryz.func77 rfl rfl ?_
  repeat' first
    | refine AW.seqK fun K hK => ?_
    | (refine hK _ _ ?_;clear hK K)
    | refine AW.region ?_
    | refine awL_call rfl (by exact ent14) (by simp only [go_sem,↓reduceIte,Nat.reduceEqDiff];rfl) (by first | exact pfew_spec _ _ h0 h1 hmo _ | exact pfew_spec _ _ h0 h1 hu.2.1 _ | exact few_spec _ _ (by omega) (by omega) (hu.2.2.2 _ (List.getElem_mem hq2)).2 _) rfl ?_
    | refine awL_nil ?_
    | ((fail_if_success (clear hjq));(rcases Nat.lt_or_ge i p.defs.length with hq | hq;rotate_left;focus (exfalso;omega));have hjq:True:=trivial;have hu:=hp.defs _ (List.getElem_mem hq);have hul:(p.defs[i]).params.length ≤ 9223372036854775807:=hu.2.2.1)
    | ((fail_if_success (clear hjq2));(rcases Nat.lt_or_ge k (p.defs[i]).params.length with hq | hq;rotate_left;focus (exfalso;omega));have hjq2:True:=trivial;have hq2:=hq)
    | (refine awL_gno rfl ?_ rfl ?_;focus (simp only [S0,↓reduceIte,Nat.reduceEqDiff,Bool.not_false];done))
    | (refine awL_gyes rfl ?_ ?_;focus (simp only [S0,↓reduceIte,Nat.reduceEqDiff];done))
    | (refine awL_gcase rfl rfl (fun hg => ?_) (fun hg => ?_) <;> (rw [hg];(simp only [decide_eq_true_eq,decide_eq_false_iff_not,Bool.not_eq_true',Bool.not_eq_false',Int.not_lt] at hg);skip))
    | refine awL_S1 rfl rfl (by simp (disch:=omega) only [go_sem,↓reduceIte,Nat.reduceEqDiff,Nat.reduceAdd,Nat.reduceLeDiff,Nat.reduceLT];rfl) ?_
    | (refine AW.condK _ rfl (fun hb => ?_) (fun hb => ?_) <;> (simp only [Bool.true_eq_false,decide_eq_true_eq,decide_eq_false_iff_not,Bool.not_eq_true',Bool.not_eq_false',Int.not_lt] at hb) <;> skip)
    | refine AW.block ?_
    | refine bq_s ?_
    | refine AW.exit ?_
    | refine AW.skip ?_
    | refine useK (by assumption) ?_
    | (refine AW.loopS (α:={ i:Nat // i ≤ p.defs.length ∧ p.defs.all (littleD m) = (p.defs.drop i).all (littleD m) }) 67 (fun i => [(1,.int .i64 m),(2,.ptr st.length 0),(5,.int .i64 (i.1:Nat))]) (fun i => st ++ [.box 48 (encPg p).cells]) (fun i => p.defs.length - i.1) ⟨0,Nat.zero_le _,rfl⟩ rfl ?_ ?_ ?_;(focus (simp (disch:=omega) only [go_sem,↓reduceIte,Nat.reduceEqDiff];done));(focus (simp (disch:=omega) only [go_sem];done));rintro ⟨i,hi,hpre⟩ hlc;dsimp only)
    | (refine ⟨⟨i + 1,by omega,gall_yes hpre (by assumption) (by unfold littleD;rw [gall_end hpre3 (by omega),decide_eq_true (by omega),Bool.and_true,Bool.and_true];assumption)⟩,by simp only [];omega,_,Nat.le_refl _,Nat.le_of_ble_eq_true rfl, ?_, ?_⟩ <;> (simp (disch:=omega) only [go_sem,↓reduceIte,Nat.reduceEqDiff,List.length_append,trimS_app hst]))
    | (refine AW.loopS (α:={ k:Nat // k ≤ (p.defs[i]).params.length ∧ (p.defs[i]).params.all (fun x => fewTy x.t 300) = ((p.defs[i]).params.drop k).all (fun x => fewTy x.t 300) }) 67 (fun k => [(1,.int .i64 m),(2,.ptr st.length 0),(5,.int .i64 (i:Nat)),(6,.int .i64 (k.1:Nat))]) (fun k => st ++ [.box 48 (encPg p).cells]) (fun k => (p.defs[i]).params.length - k.1) ⟨0,Nat.zero_le _,rfl⟩ rfl ?_ ?_ ?_;(focus (simp (disch:=omega) only [go_sem,↓reduceIte,Nat.reduceEqDiff];done));(focus (simp (disch:=omega) only [go_sem];done));rintro ⟨k,hk,hpre3⟩ hlc;dsimp only)
    | (refine ⟨⟨k + 1,by omega,gall_yes hpre3 (by assumption) (by assumption)⟩,by simp only [];omega,_,Nat.le_refl _,Nat.le_of_ble_eq_true rfl, ?_, ?_⟩ <;> (simp (disch:=omega) only [go_sem,↓reduceIte,Nat.reduceEqDiff,List.length_append,trimS_app hst]))
    | (refine AW.ret ?_;show (_ ∨ _) ∧ _;refine ⟨.inr rfl, ?_⟩;show resP _ _ _ [.tmp 4] _;simp (disch:=omega) only [go_sem,↓reduceIte];refine ⟨_,_,_,Nat.le_refl _,V.le_refl _ _,StLe.refl _, ?_⟩;(simp (disch:=omega) only [go_sem,hst.trim_append]))
  · rw [littleB_eq,decide_eq_false (by omega),Bool.false_and]
  · rw [littleB_eq,hb,Bool.false_and,Bool.and_false]
  · have h2:littleD m p.defs[i] = false:=(by unfold littleD;rw [hg,Bool.false_and])
    rw [littleB_eq,gall_no hpre hq h2,Bool.and_false,Bool.and_false]
  · have h2:littleD m p.defs[i] = false:=(by unfold littleD;rw [decide_eq_false (by omega),Bool.false_and,Bool.and_false])
    rw [littleB_eq,gall_no hpre hq h2,Bool.and_false,Bool.and_false]
  · have h2:littleD m p.defs[i] = false:=(by unfold littleD;rw [gall_no hpre3 hq2 hb,Bool.and_false,Bool.and_false])
    rw [littleB_eq,gall_no hpre (by assumption) h2,Bool.and_false,Bool.and_false]
  · rw [littleB_eq,gall_end hpre (by omega),decide_eq_true (by omega)];simp_all
set_option maxRecDepth 100000 in
set_option maxHeartbeats 8000000 in
theorem find_spec (p:Pg) (s:Str) (hlen:p.defs.length ≤ 1000000) (st:List O):Duo.Call Tryz.prog Tryz.gl 110 [encPg p,.str s] st (fun v st' => v = .int .i64 (findI p.defs s) ∧ st' = st):=by
  refine Duo.Call.clo fun hst => ?_
  refine Duo.Call.body 22 [(0,encPg p),(1,.str s)] Tryz.func110 rfl rfl ?_
  repeat' first
    | refine AW.seqK fun K hK => ?_
    | (refine hK _ _ ?_;clear hK K)
    | refine AW.region ?_
    | refine awL_nil ?_
    | refine awL_S1 rfl rfl (by simp (disch:=omega) only [go_sem,↓reduceIte,Nat.reduceEqDiff,Nat.reduceAdd,Nat.reduceLeDiff,Nat.reduceLT];rfl) ?_
    | (refine AW.condK _ rfl (fun hb => ?_) (fun hb => ?_) <;> (simp only [decide_eq_true_eq,decide_eq_false_iff_not] at hb) <;> skip)
    | refine AW.block ?_
    | refine bq_s ?_
    | refine AW.exit ?_
    | refine AW.skip ?_
    | refine useK (by assumption) ?_
    | (refine AW.loopS (α:={ i:Nat // i ≤ p.defs.length ∧ ∀ (j:Nat) (hj:j < p.defs.length),j < i → ¬ (p.defs[j]).name = s }) 22 (fun i => [(1,.str s),(2,.ptr st.length 0),(5,.int .i64 (i.1:Nat))]) (fun i => st ++ [.box 48 (encPg p).cells]) (fun i => p.defs.length - i.1) ⟨0,Nat.zero_le _,by intro j hj hj2;omega⟩ rfl ?_ ?_ ?_;(focus (simp (disch:=omega) only [go_sem,↓reduceIte,Nat.reduceEqDiff];done));(focus (simp (disch:=omega) only [go_sem];done));rintro ⟨i,hi,hpre⟩ hlc;dsimp only)
    | (refine ⟨⟨i + 1,by omega,fun j hj hj2 => by rcases Nat.lt_or_eq_of_le (Nat.le_of_lt_succ hj2) with h | h;exact hpre j hj h;subst h;assumption⟩,by simp only [];omega,_,Nat.le_refl _,Nat.le_of_ble_eq_true rfl, ?_, ?_⟩ <;> (simp (disch:=omega) only [go_sem,↓reduceIte,Nat.reduceEqDiff,List.length_append,trimS_app hst]))
    | (refine AW.ret ?_;show (_ ∨ _) ∧ _;refine ⟨.inr rfl, ?_⟩;show resP _ _ _ [.tmp 4] _;simp (disch:=omega) only [go_sem,↓reduceIte];refine ⟨_,_,_,Nat.le_refl _,V.le_refl _ _,StLe.refl _, ?_⟩;(simp (disch:=omega) only [go_sem,hst.trim_append]))
  · rw [findI_some (by assumption) hpre (by assumption)]
  · rw [findI_none (by omega) hpre]
end Tryz
end Go.Proofs
