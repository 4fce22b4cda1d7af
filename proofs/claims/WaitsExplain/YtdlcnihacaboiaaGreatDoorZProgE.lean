/-
  A part of the proof.
-/
import Derived.Test.YtdlcnihacaboiaaGreatDoorSubLib
import Derived.Test.YtdlcnihacaboiaaGreatDoorGM
import Derived.Test.YtdlcnihacaboiaaGreatDoorDS3
import Derived.Test.YtdlcnihacaboiaaGreatDoorDLate3
import Derived.Test.YtdlcnihacaboiaaGreatDoorGI
import Derived.Test.YtdlcnihacaboiaaGreatDoorGN
import Derived.Test.YtdlcnihacaboiaaGreatDoorZProgD
set_option linter.all false
namespace Go.Proofs
open Go Go.Duo
namespace Tryz
attribute [local irreducible] awL awA awT AW
set_option maxRecDepth 100000 in
set_option maxHeartbeats 8000000 in
theorem pnode_spec (t:Pr) (ho:okP t) (hz:t.typ.sz ≤ 1000000) (st:List O):Duo.Call Tryz.prog Tryz.gl 92 [encP t] st (fun v st' => v = .bool (nodeB t) ∧ st' = st):=by
  refine Duo.Call.clo fun hst => ?_
  have h1:=ho.chan
  have h2:=ho.var
  have h3:=ho.labels
  have h4:=ho.args
  have h5:=((okP_iff t).1 ho).2.2.2.2.2.2.1
  unfold inL at h5
  refine Duo.Call.body 276 [(0,encP t)] Tryz.func92 rfl rfl ?_
  repeat' first
    | refine AW.seqK fun K hK => ?_
    | (refine hK _ _ ?_;clear hK K)
    | refine AW.region ?_
    | refine awL_call rfl (by exact ent136) (by simp only [go_sem,↓reduceIte];rfl) (by first | exact value_spec _ (h4.2 _ (List.getElem_mem (by assumption))) _ | exact plain_spec _ ho _ | exact name3_spec _ h1 _ | exact name3_spec _ h2 _ | exact name3_spec _ (h3.2 _ (List.getElem_mem _)) _ | exact labels_spec _ h3.1 h3.2 _ | exact rightT_spec _ hz ho.typ _ | exact session_spec _ _) rfl ?_
    | refine awL_nil ?_
    | (refine awL_gno rfl ?_ rfl ?_;focus (simp only [S0,↓reduceIte,Nat.reduceEqDiff,Bool.not_true];done))
    | (refine awL_gyes rfl ?_ ?_;focus (simp only [S0,↓reduceIte,Nat.reduceEqDiff];done))
    | (refine awL_gcase rfl rfl (fun hg => ?_) (fun hg => ?_) <;> (rw [hg];(try simp only [Int.ofNat_inj,decide_eq_true_eq,decide_eq_false_iff_not,Decidable.not_not] at hg);skip))
    | refine awL_S1 rfl rfl (by simp (disch:=omega) only [go_sem,↓reduceIte,Nat.reduceEqDiff,Nat.reduceAdd,Nat.reduceLeDiff,Nat.reduceLT];rfl) ?_
    | (refine AW.condK _ rfl (fun hb => ?_) (fun hb => ?_) <;> (simp only [decide_eq_true_eq,decide_eq_false_iff_not,Bool.not_eq_true',Bool.not_eq_false'] at hb) <;> skip)
    | refine AW.block ?_
    | refine bq_s ?_
    | refine AW.exit ?_
    | refine AW.skip ?_
    | refine useK (by assumption) ?_
    | (refine AW.loopS (α:={ i:Nat // i ≤ t.args.length ∧ t.args.all valueB = (t.args.drop i).all valueB }) 276 (fun i => [(1,.ptr st.length 0),(3,.int .i64 (i.1:Nat))]) (fun i => st ++ [.box 29 (encP t).cells]) (fun i => t.args.length - i.1) ⟨0,Nat.zero_le _,rfl⟩ rfl ?_ ?_ ?_;(focus (simp (disch:=omega) only [go_sem,↓reduceIte,Nat.reduceEqDiff];done));(focus (simp (disch:=omega) only [go_sem];done));rintro ⟨i,hi,hpre⟩ hlc;dsimp only)
    | (refine ⟨⟨i + 1,by omega,gall_yes hpre (by assumption) (by assumption)⟩,by simp only [];omega,_,Nat.le_refl _,Nat.le_of_ble_eq_true rfl, ?_, ?_⟩ <;> (simp (disch:=omega) only [go_sem,↓reduceIte,Nat.reduceEqDiff,List.length_append,trimS_app hst]))
    | (refine AW.loopS (α:={ j:Nat // j ≤ t.kids.length ∧ t.kids.all (fun q => decide (q.kind ≠ 7)) = (t.kids.drop j).all (fun q => decide (q.kind ≠ 7)) }) 276 (fun j => [(1,.ptr st.length 0),(4,.int .i64 (t.args.length:Nat)),(5,.int .i64 (t.labels.length:Nat)),(6,.int .i64 (t.kids.length:Nat)),(7,.int .i64 (j.1:Nat)),(32,.int .i64 t.kind)]) (fun j => st ++ [.box 29 (encP t).cells]) (fun j => t.kids.length - j.1) ⟨0,Nat.zero_le _,rfl⟩ rfl ?_ ?_ ?_;(focus (simp (disch:=omega) only [go_sem,↓reduceIte,Nat.reduceEqDiff];done));(focus (simp (disch:=omega) only [go_sem];done));rintro ⟨j,hj,hpre2⟩ hlc;dsimp only)
    | (refine ⟨⟨j + 1,by omega,gall_yes hpre2 (by assumption) (by simp_all)⟩,by simp only [];omega,_,Nat.le_refl _,Nat.le_of_ble_eq_true rfl, ?_, ?_⟩ <;> (simp (disch:=omega) only [go_sem,↓reduceIte,Nat.reduceEqDiff,List.length_append,trimS_app hst]))
    | (refine AW.ret ?_;show (_ ∨ _) ∧ _;refine ⟨.inr rfl, ?_⟩;show resP _ _ _ [.tmp 2] _;simp (disch:=omega) only [go_sem,↓reduceIte];refine ⟨_,_,_,Nat.le_refl _,V.le_refl _ _,StLe.refl _, ?_⟩;(simp (disch:=omega) only [go_sem,hst.trim_append]))
  all_goals unfold nodeB
  · rw [gall_no hpre (by assumption) (by assumption),Bool.false_and]
  all_goals (have ha:=gall_end hpre (by omega);rw [ha,Bool.true_and];clear ha hpre h1 h2 h3 h4 h5 ho)
  all_goals first
    | (rw [hpre2,gall_at];rotate_left;(focus (assumption));clear hpre2;simp_all;done)
    | (rw [hpre2,List.drop_eq_nil_of_le];rotate_left;(focus omega);clear hpre2;simp_all;done)
    | (rw [hpre2,List.drop_eq_nil_of_le];rotate_left;(focus omega);clear hpre2;simp_all;intros;omega)
    | (simp_all [hd_at];done)
set_option maxRecDepth 100000 in
set_option maxHeartbeats 8000000 in
theorem pnodes_spec:∀ (t:Pr) (ho:okP t) (h4:tyS t) (st:List O),Duo.Call Tryz.prog Tryz.gl 56 [encP t] st (fun v st' => v = .bool (nodesB t) ∧ st' = st):=Pr.ind' fun t ih => by
  intro ho h4 st
  refine Duo.Call.clo fun hst => ?_
  have h5:=(tyS_iff t).1 h4
  have h6:=((okP_iff t).1 ho).2.2.2.2.2.2.1
  unfold inL at h6
  rw [nodesB_eq,nodesBs_eq]
  refine Duo.Call.body 21 [(0,encP t)] Tryz.func56 rfl rfl ?_
  repeat' first
    | refine AW.seqK fun K hK => ?_
    | (refine hK _ _ ?_;clear hK K)
    | refine AW.region ?_
    | refine awL_call rfl (by exact ent92) (by simp only [go_sem,↓reduceIte];rfl) (by first | exact pnode_spec _ ho (by omega) _ | exact ih _ (List.getElem_mem _) (ho.kid (List.getElem_mem _)) (h5.2 _ (List.getElem_mem (by assumption))) _) rfl ?_
    | refine awL_nil ?_
    | refine awL_S1 rfl rfl (by simp (disch:=omega) only [go_sem,↓reduceIte,Nat.reduceEqDiff,Nat.reduceAdd,Nat.reduceLT];rfl) ?_
    | (refine AW.condK _ rfl (fun hb => ?_) (fun hb => ?_) <;> (simp only [decide_eq_true_eq,decide_eq_false_iff_not,Bool.not_eq_true',Bool.not_eq_false'] at hb) <;> skip)
    | refine AW.block ?_
    | refine bq_s ?_
    | refine AW.exit ?_
    | refine AW.skip ?_
    | refine useK (by assumption) ?_
    | (refine AW.loopS (α:={ i:Nat // i ≤ t.kids.length ∧ t.kids.all nodesB = (t.kids.drop i).all nodesB }) 21 (fun i => [(1,.ptr st.length 0),(3,.int .i64 (i.1:Nat))]) (fun i => st ++ [.box 29 (encP t).cells]) (fun i => t.kids.length - i.1) ⟨0,Nat.zero_le _,rfl⟩ rfl ?_ ?_ ?_;(focus (simp (disch:=omega) only [go_sem,↓reduceIte,Nat.reduceEqDiff];done));(focus (simp (disch:=omega) only [go_sem];done));rintro ⟨i,hi,hpre⟩ hlc;dsimp only)
    | (refine ⟨⟨i + 1,by omega,gall_yes hpre (by assumption) (by assumption)⟩,by simp only [];omega,_,Nat.le_refl _,Nat.le_of_ble_eq_true rfl, ?_, ?_⟩ <;> (simp (disch:=omega) only [go_sem,↓reduceIte,Nat.reduceEqDiff,List.length_append,trimS_app hst]))
    | (refine AW.ret ?_;show (_ ∨ _) ∧ _;refine ⟨.inr rfl, ?_⟩;show resP _ _ _ [.tmp 2] _;simp (disch:=omega) only [go_sem,↓reduceIte];refine ⟨_,_,_,Nat.le_refl _,V.le_refl _ _,StLe.refl _, ?_⟩;(simp (disch:=omega) only [go_sem,hst.trim_append]))
  · simp_all
  · rw [gall_no hpre (by assumption) (by assumption),Bool.and_false]
  · rw [gall_end hpre (by omega),Bool.and_true];simp_all
set_option maxRecDepth 100000 in
set_option maxHeartbeats 8000000 in
theorem rightP_spec (t:Pr) (ho:okP t) (h4:tyS t) (h:t.sz ≤ 1000000) (st:List O):Duo.Call Tryz.prog Tryz.gl 15 [encP t] st (fun v st' => v = .int .i64 (rightP t) ∧ st' = st):=by
  refine Duo.Call.clo fun hst => ?_
  refine Duo.Call.body 14 [(0,encP t)] Tryz.func15 rfl rfl ?_
  repeat' first
    | refine AW.seqK fun K hK => ?_
    | (refine hK _ _ ?_;clear hK K)
    | refine AW.region ?_
    | refine awL_call rfl (by exact ent54) (by simp only [go_sem,↓reduceIte];rfl) (by first | exact pdepth_spec _ h _ | exact psize_spec _ h _ | exact pnodes_spec _ ho h4 _) rfl ?_
    | refine awL_nil ?_
    | (refine awL_gno rfl ?_ rfl ?_;focus (simp only [S0,↓reduceIte,Nat.reduceEqDiff,Bool.not_false];done))
    | (refine awL_gyes rfl ?_ ?_;focus (simp only [S0,↓reduceIte,Nat.reduceEqDiff];done))
    | (refine awL_gcase rfl rfl (fun hg => ?_) (fun hg => ?_) <;> (rw [hg];(simp only [decide_eq_true_eq,decide_eq_false_iff_not,Int.not_lt] at hg);skip))
    | refine awL_S1 rfl rfl (by simp (disch:=omega) only [go_sem,↓reduceIte,Nat.reduceEqDiff];rfl) ?_
    | (refine AW.condK _ rfl (fun hb => ?_) (fun hb => ?_) <;> (simp only [Bool.true_eq_false,decide_eq_true_eq,decide_eq_false_iff_not,Bool.not_eq_true',Bool.not_eq_false',Int.not_lt] at hb) <;> skip)
    | refine AW.skip ?_
    | (refine AW.ret ?_;show (_ ∨ _) ∧ _;refine ⟨.inr rfl, ?_⟩;show resP _ _ _ [.tmp 2] _;simp (disch:=omega) only [go_sem,↓reduceIte];refine ⟨_,_,_,Nat.le_refl _,V.le_refl _ _,StLe.refl _, ?_⟩;(simp (disch:=omega) only [go_sem,hst.trim_append]))
  all_goals unfold rightP
  · rw [if_pos (by omega)]
  · rw [if_pos (by omega)]
  · rw [if_neg (by omega),if_neg (by simp_all)]
  · rw [if_neg (by omega),if_pos (by assumption)]
end Tryz
end Go.Proofs
