/-
  A part of the proof.
-/
import Derived.Test.YtdlcnihacaboiaaGreatDoorSubLib
import Derived.Test.YtdlcnihacaboiaaGreatDoorGM
import Derived.Test.YtdlcnihacaboiaaGreatDoorDS3
import Derived.Test.YtdlcnihacaboiaaGreatDoorDLate3
import Derived.Test.YtdlcnihacaboiaaGreatDoorGI
import Derived.Test.YtdlcnihacaboiaaGreatDoorGN
import Derived.Test.YtdlcnihacaboiaaGreatDoorZProgB
set_option linter.all false
namespace Go.Proofs
open Go Go.Duo
namespace Tryz
attribute [local irreducible] awL awA awT AW
set_option maxRecDepth 100000 in
set_option maxHeartbeats 8000000 in
theorem nodeT_spec:∀ (t:Ty) (names:List Str) (g:Nat) (se:Bool) (h:t.sz ≤ 1000000) (hn:names.length + t.dp ≤ 1000000) (ho:okT t) (st:List O),Duo.Call Tryz.prog Tryz.gl 188 [encT t,.sl (names.map .str) none,.int .i64 (g:Nat),.bool se] st (fun v st' => v = .int .i64 (nodeT t names g se) ∧ st' = st):=Ty.ind' fun t ih => by
  intro names g se h hn ho st
  refine Duo.Call.clo fun hst => ?_
  have hzl:=Ty.szs_len t.kids
  have hz:=Ty.sz_eq t
  refine Duo.Call.body 85 [(0,encT t),(1,.sl (names.map .str) none),(2,.int .i64 (g:Nat)),(3,.bool se)] Tryz.func188 rfl rfl ?_
  repeat' first
    | refine AW.seqK fun K hK => ?_
    | (refine hK _ _ ?_;clear hK K)
    | refine AW.region ?_
    | refine AW.any (id:=7) mix 6 (by decide +kernel) ?_
    | refine AW.anyT1 (id:=13) mix 12 9 1 (by decide +kernel) ?_
    | refine AW.any (id:=17) mix 15 (by decide +kernel) ?_
    | refine awL_call rfl (by exact ent220) (by simp only [go_sem,↓reduceIte,Nat.reduceEqDiff];rfl) (by first | exact shape_spec _ ho _ | exact session_spec _ _ | exact ih _ (List.getElem_mem _) names names.length _ (by have:=kid_sz (t:=t) (by assumption);omega) (by have:=kid_dp (t:=t) (by assumption);omega) (ho.kid (List.getElem_mem _)) _ | exact Duo.Call.argle (by repeat' (first | exact trivial | exact V.le_refl _ _ | (refine V.leS ?_;simp only [List.map_append,List.map_cons,List.map_nil];done) | refine ⟨?_, ?_⟩)) (ih (t.kids[0]'hk0) (List.getElem_mem _) (names ++ [t.name]) g true (by have:=kid_sz (t:=t) (i:=0) (by omega);omega) (by have:=kid_dp (t:=t) (i:=0) (by omega);simp only [List.length_append,List.length_cons,List.length_nil];omega) (ho.kid (List.getElem_mem _)) _)) rfl ?_
    | refine awT_nil (by simp only [applyUps,List.nil_append,List.cons_append,List.append_assoc,List.length_append,List.length_cons,List.length_nil,Nat.reduceAdd,Nat.zero_add,S0];rfl) ?_
    | refine awA_nil (by simp only [applyUps];rfl) ?_
    | refine awL_nil ?_
    | ((fail_if_success (clear hk8t));have hk8:=shapeB_8 (by assumption) (by assumption);have hk0:0 < t.kids.length:=(by omega);have hk8t:True:=trivial)
    | ((fail_if_success (clear hj0));(rcases j with _ | j;focus (exfalso;omega));have hj0:True:=trivial)
    | (refine awL_gno rfl ?_ rfl ?_;focus (simp only [S0,↓reduceIte,Nat.reduceEqDiff,Bool.not_true,Bool.not_false];done))
    | (refine awL_gyes rfl ?_ ?_;focus (simp only [S0,↓reduceIte,Nat.reduceEqDiff];done))
    | refine awL_hole rfl rfl rfl rfl ?_
    | (refine awL_gcase rfl rfl (fun hg => ?_) (fun hg => ?_) <;> (rw [hg];(try simp only [Bool.not_eq_true',Bool.not_eq_false'] at hg);skip))
    | refine awL_S1 rfl rfl (by simp (disch:=omega) only [go_sem,↓reduceIte,Nat.reduceEqDiff,Nat.reduceAdd,Nat.reduceLeDiff,Nat.reduceLT,List.length_map];rfl) ?_
    | refine awT_S1 rfl rfl (by simp (disch:=omega) only [go_sem,↓reduceIte,Nat.reduceEqDiff,Nat.reduceAdd,Nat.reduceLeDiff,Nat.reduceMul,Nat.reduceLT,List.length_map,List.length_append,List.length_cons,List.length_nil];rfl) ?_
    | (refine awA_gno rfl ?_ rfl ?_;focus (simp only [S0,↓reduceIte,Nat.reduceEqDiff,Bool.not_false];done))
    | (refine awA_gyes rfl ?_ ?_;focus (simp only [S0,↓reduceIte,Nat.reduceEqDiff];done))
    | (refine awA_gcase rfl rfl (fun hg => ?_) (fun hg => ?_) <;> (rw [hg];(simp only [decide_eq_true_eq,decide_eq_false_iff_not] at hg);skip))
    | refine awA_S1 rfl rfl (by simp (disch:=omega) only [go_sem,↓reduceIte,Nat.reduceEqDiff,Nat.reduceAdd,Nat.reduceLeDiff,Nat.reduceLT,List.length_map,List.length_cons,List.length_nil,Nat.add_one_sub_one];rfl) ?_
    | (refine AW.condK _ rfl (fun hb => ?_) (fun hb => ?_) <;> (simp only [Bool.false_eq_true,Bool.true_eq_false,decide_eq_true_eq,decide_eq_false_iff_not,Bool.not_eq_true',Bool.not_eq_false',Int.not_lt,Int.not_le,Decidable.not_not] at hb) <;> skip)
    | refine AW.block ?_
    | refine bq_s ?_
    | refine AW.exit ?_
    | refine AW.skip ?_
    | refine useK (by assumption) ?_
    | (refine AW.loopS (α:={ j:Nat // j ≤ names.length ∧ varE names t.name g names.length = varE names t.name g j }) 85 (fun j => [(1,.sl (names.map .str) none),(2,.int .i64 (g:Nat)),(4,.ptr st.length 0),(9,.int .i64 ((j.1:Int) - 1))]) (fun j => st ++ [.box 26 (encT t).cells]) (fun j => j.1) ⟨names.length,Nat.le_refl _,rfl⟩ rfl ?_ ?_ ?_;(focus (simp (disch:=omega) only [go_sem,↓reduceIte,Nat.reduceEqDiff];done));(focus (simp (disch:=omega) only [go_sem];done));rintro ⟨j,hj,hpre⟩ hlc;dsimp only)
    | (have hp:((j + 1:Nat):Int) - 1 - 1 = (j:Int) - 1:=(by omega);refine ⟨⟨j,by omega,hpre.trans (varE_miss (by omega) (by assumption))⟩,by simp only [];omega,_,Nat.le_refl _,Nat.le_of_ble_eq_true rfl, ?_, ?_⟩ <;> (simp (disch:=omega) only [go_sem,↓reduceIte,Nat.reduceEqDiff,hp,List.length_append,trimS_app hst]))
    | (refine AW.loopS (α:={ i:Nat // i ≤ t.kids.length ∧ nodeTs t.kids names (decide (5 < t.kind)) = nodeTs (t.kids.drop i) names (decide (0 < i) || decide (5 < t.kind)) }) 85 (fun i => [(1,.sl (names.map .str) none),(4,.ptr st.length 0),(10,.int .i64 (i.1:Nat))]) (fun i => st ++ [.box 26 (encT t).cells]) (fun i => t.kids.length - i.1) ⟨0,Nat.zero_le _,rfl⟩ rfl ?_ ?_ ?_;(focus (simp (disch:=omega) only [go_sem,↓reduceIte,Nat.reduceEqDiff];done));(focus (simp (disch:=omega) only [go_sem];done));rintro ⟨i,hi,hpre⟩ hlc;dsimp only)
    | (refine ⟨⟨i + 1,by omega,hpre.trans (by rw [nodeTs_at (by assumption)];simp_all)⟩,by simp only [];omega,_,Nat.le_refl _,Nat.le_of_ble_eq_true rfl, ?_, ?_⟩ <;> (simp (disch:=omega) only [go_sem,↓reduceIte,Nat.reduceEqDiff,List.length_append,trimS_app hst]))
    | (refine AW.ret ?_;show (_ ∨ _) ∧ _;refine ⟨.inr rfl, ?_⟩;show resP _ _ _ [.tmp 8] _;simp (disch:=omega) only [go_sem,↓reduceIte];refine ⟨_,_,_,Nat.le_refl _,V.le_refl _ _,StLe.refl _, ?_⟩;(simp (disch:=omega) only [go_sem,hst.trim_append]))
  all_goals (clear ih;rw [nodeT_eq t])
  all_goals first | (rw [if_pos];focus (simp_all;done)) | (rw [if_neg];rotate_left;focus (simp_all;done))
  all_goals first
    | (rw [if_pos (by assumption),hpre,varE_hit (by omega) (by assumption),if_pos (by omega)];done)
    | (rw [if_pos (by assumption),hpre,varE_hit (by omega) (by assumption),if_neg (by omega)];done)
    | (rw [if_pos (by assumption),hpre,show j = 0 by omega,varE];done)
    | (guard_hyp hk8t:True;rw [if_neg (by omega),if_pos (by assumption),nodeT1_at hk0])
    | (rw [if_neg (by assumption),if_neg (by assumption),hpre,nodeTs_end (by omega)];done)
    | (rw [if_neg (by assumption),if_neg (by assumption),hpre,nodeTs_at (by omega)];simp_all;done)
set_option maxRecDepth 100000 in
set_option maxHeartbeats 8000000 in
theorem rightT_spec (t:Ty) (h:t.sz ≤ 1000000) (ho:okT t) (st:List O):Duo.Call Tryz.prog Tryz.gl 140 [encT t] st (fun v st' => v = .int .i64 (rightT t) ∧ st' = st):=by
  refine Duo.Call.clo fun hst => ?_
  refine Duo.Call.body 13 [(0,encT t)] Tryz.func140 rfl rfl ?_
  repeat' first
    | refine AW.seqK fun K hK => ?_
    | (refine hK _ _ ?_;clear hK K)
    | refine AW.region ?_
    | refine awL_call rfl (by exact ent132) (by simp only [go_sem,↓reduceIte];rfl) (by first | exact depth_spec _ h _ | exact size_spec _ h _ | exact Duo.Call.argle (by repeat' (first | exact trivial | exact V.le_refl _ _ | exact V.le_nil _ | refine ⟨?_, ?_⟩)) (nodeT_spec t [] 0 false h (by have:=Ty.dp_le t;simp only [List.length_nil];omega) ho _)) rfl ?_
    | refine awL_nil ?_
    | (refine awL_gno rfl ?_ rfl ?_;focus (simp only [S0,↓reduceIte,Nat.reduceEqDiff,Bool.not_false];done))
    | (refine awL_gyes rfl ?_ ?_;focus (simp only [S0,↓reduceIte,Nat.reduceEqDiff];done))
    | (refine awL_gcase rfl rfl (fun hg => ?_) (fun hg => ?_) <;> (rw [hg];(simp only [decide_eq_true_eq,decide_eq_false_iff_not,Int.not_lt] at hg);skip))
    | refine awL_S1 rfl rfl (by simp (disch:=omega) only [go_sem,↓reduceIte,Nat.reduceEqDiff];rfl) ?_
    | (refine AW.condK _ rfl (fun hb => ?_) (fun hb => ?_) <;> (simp only [Bool.true_eq_false,decide_eq_true_eq,decide_eq_false_iff_not,Int.not_lt] at hb) <;> skip)
    | refine AW.skip ?_
    | (refine AW.ret ?_;show (_ ∨ _) ∧ _;refine ⟨.inr rfl, ?_⟩;show resP _ _ _ [.tmp 2] _;simp (disch:=omega) only [go_sem,↓reduceIte];refine ⟨_,_,_,Nat.le_refl _,V.le_refl _ _,StLe.refl _, ?_⟩;(simp (disch:=omega) only [go_sem,hst.trim_append]))
  all_goals (unfold rightT)
  · rw [if_pos (by omega)]
  · rw [if_pos (by omega)]
  · rw [if_neg (by omega)]
set_option maxRecDepth 100000 in
set_option maxHeartbeats 8000000 in
theorem sameT_spec:∀ (a:Ty) (b:Ty) (ho:okT a) (st:List O),Duo.Call Tryz.prog Tryz.gl 60 [encT a,encT b] st (fun v st' => v = .bool (sameT a b) ∧ st' = st):=Ty.ind' fun a ih => by
  intro b ho st
  refine Duo.Call.clo fun hst => ?_
  have hk:=((okT_iff a).1 ho).2.2.2.2.2.1
  unfold inL at hk
  have hl:=ho.labels
  rw [sameT_eq]
  refine Duo.Call.body 68 [(0,encT a),(1,encT b)] Tryz.func60 rfl rfl ?_
  repeat' first
    | refine AW.seqK fun K hK => ?_
    | (refine hK _ _ ?_;clear hK K)
    | refine AW.region ?_
    | refine AW.any (id:=6) mix 10 (by decide +kernel) ?_
    | refine awL_call rfl (by exact ent101) (by simp only [go_sem,↓reduceIte,Nat.reduceEqDiff];rfl) (by first | exact texts_spec _ _ hl.1 _ | exact ih _ (List.getElem_mem _) _ (ho.kid (List.getElem_mem _)) _) rfl ?_
    | refine awA_nil (by simp only [applyUps];rfl) ?_
    | refine awL_nil ?_
    | (refine awL_gno rfl ?_ rfl ?_;focus (simp only [S0,↓reduceIte,Nat.reduceEqDiff,Bool.not_false];done))
    | (refine awL_gyes rfl ?_ ?_;focus (simp only [S0,↓reduceIte,Nat.reduceEqDiff];done))
    | (refine awL_gcase rfl rfl (fun hg => ?_) (fun hg => ?_) <;> (rw [hg];(simp only [decide_eq_true_eq,decide_eq_false_iff_not,Bool.not_eq_true',Bool.not_eq_false',Decidable.not_not] at hg);skip))
    | refine awL_S1 rfl rfl (by simp (disch:=omega) only [go_sem,↓reduceIte,Nat.reduceEqDiff,Nat.reduceAdd,Nat.reduceLeDiff,Nat.reduceLT];rfl) ?_
    | refine awA_S1 rfl rfl (by simp (disch:=omega) only [go_sem,↓reduceIte,Nat.reduceEqDiff,Nat.reduceAdd,Nat.reduceLT];rfl) ?_
    | (refine AW.condK _ rfl (fun hb => ?_) (fun hb => ?_) <;> (simp only [Int.ofNat_inj,Bool.true_eq_false,decide_eq_true_eq,decide_eq_false_iff_not,Bool.not_eq_true',Bool.not_eq_false',Decidable.not_not] at hb) <;> skip)
    | refine AW.block ?_
    | refine bq_s ?_
    | refine AW.exit ?_
    | refine AW.skip ?_
    | refine useK (by assumption) ?_
    | (refine AW.loopS (α:={ i:Nat // i ≤ a.kids.length ∧ sameTs a.kids b.kids = sameTs (a.kids.drop i) (b.kids.drop i) }) 68 (fun i => [(2,.ptr st.length 0),(3,.ptr (st.length + 1) 0),(5,.int .i64 (i.1:Nat))]) (fun i => st ++ [.box 26 (encT a).cells,.box 26 (encT b).cells]) (fun i => a.kids.length - i.1) ⟨0,Nat.zero_le _,rfl⟩ rfl ?_ ?_ ?_;(focus (simp (disch:=omega) only [go_sem,↓reduceIte,Nat.reduceEqDiff];done));(focus (simp (disch:=omega) only [go_sem];done));rintro ⟨i,hi,hpre⟩ hlc;dsimp only)
    | (refine ⟨⟨i + 1,by omega,hpre.trans (by rw [sameTs_at (by omega) (by omega)];simp_all)⟩,by simp only [];omega,_,Nat.le_refl _,Nat.le_of_ble_eq_true rfl, ?_, ?_⟩ <;> (simp (disch:=omega) only [go_sem,↓reduceIte,Nat.reduceEqDiff,Nat.reduceAdd,List.length_append,trimS_app hst]))
    | (refine AW.ret ?_;show (_ ∨ _) ∧ _;refine ⟨.inr rfl, ?_⟩;show resP _ _ _ [.tmp 4] _;simp (disch:=omega) only [go_sem,↓reduceIte];refine ⟨_,_,_,Nat.le_refl _,V.le_refl _ _,StLe.refl _, ?_⟩;(simp (disch:=omega) only [go_sem,hst.trim_append]))
  all_goals (clear ih;first | (rw [hpre,sameTs_at (by omega) (by omega)];simp_all;done) | (simp_all [sameTs_end];done))
end Tryz
end Go.Proofs
