/-
  A part of the proof.
-/
import Derived.Test.YtdlcnihacaboiaaGreatDoorSubLib
import Derived.Test.YtdlcnihacaboiaaGreatDoorGM
import Derived.Test.YtdlcnihacaboiaaGreatDoorDS3
import Derived.Test.YtdlcnihacaboiaaGreatDoorDLate3
import Derived.Test.YtdlcnihacaboiaaGreatDoorGI
import Derived.Test.YtdlcnihacaboiaaGreatDoorGN
import Derived.Test.YtdlcnihacaboiaaGreatDoorZProgA
set_option linter.all false
namespace Go.Proofs
open Go Go.Duo
namespace Tryz
attribute [local irreducible] awL awA awT AW
set_option maxRecDepth 100000 in
set_option maxHeartbeats 8000000 in
theorem raise_spec:∀ (t:Ty) (n:Int) (h:t.sz ≤ 1000000) (hl:smL t) (st:List O),Duo.Call Tryz.prog Tryz.gl 115 [encT t,.int .i64 n] st (fun v st' => v = encT (raiseT n t) ∧ st' = st):=Ty.ind' fun t ih => by
  intro n h hl st
  refine Duo.Call.clo fun hst => ?_
  have hl2:=(smL_iff t).1 hl
  have hzl:=Ty.szs_len t.kids
  have hzz:=Ty.sz_eq t
  refine Duo.Call.body 53 [(0,encT t),(1,.int .i64 n)] Tryz.func115 rfl rfl ?_
  repeat' first
    | refine AW.seqK fun K hK => ?_
    | (refine hK _ _ ?_;clear hK K)
    | refine AW.region ?_
    | refine AW.anyT1 (id:=1) mix 14 9 1 (by decide +kernel) ?_
    | refine AW.any (id:=7) mix 10 (by decide +kernel) ?_
    | refine awT_nil (by simp only [applyUps,List.nil_append,List.cons_append,List.append_assoc,List.length_append,List.length_cons,List.length_nil,Nat.reduceAdd,Nat.zero_add,S0];rfl) ?_
    | refine awA_nil (by simp only [applyUps,List.nil_append,List.cons_append,S0,S2];rfl) ?_
    | refine awL_nil ?_
    | (refine awL_gno rfl ?_ rfl ?_;focus (simp only [S0,↓reduceIte,Nat.reduceEqDiff,Bool.not_true];done))
    | (refine awL_gyes rfl ?_ ?_;focus (simp only [S0,↓reduceIte,Nat.reduceEqDiff];done))
    | (refine awL_gcase rfl rfl (fun hg => ?_) (fun hg => ?_) <;> (rw [hg];(simp only [decide_eq_true_eq,decide_eq_false_iff_not,Int.not_le] at hg);skip))
    | refine awL_S1 rfl rfl (by simp (disch:=omega) only [go_sem,↓reduceIte,Nat.reduceEqDiff,Nat.reduceAdd,Nat.reduceLeDiff,Nat.reduceLT,List.length_map];rfl) ?_
    | refine awT_S1 rfl rfl (by simp (disch:=omega) only [go_sem,↓reduceIte,Nat.reduceEqDiff,Nat.reduceAdd,Nat.reduceLeDiff,Nat.reduceLT,List.length_map];rfl) ?_
    | refine awA_call rfl (by exact ent115) (by simp only [go_sem,↓reduceIte,Nat.reduceEqDiff];rfl) (by (exact ih _ (List.getElem_mem _) n (by have:=kid_sz (t:=t) (by assumption);omega) (hl2.2 _ (List.getElem_mem (by assumption))) _)) rfl ?_
    | refine awA_S1 rfl rfl (by simp (disch:=omega) only [go_sem,↓reduceIte,Nat.reduceEqDiff,Nat.reduceAdd,Nat.reduceLeDiff,Nat.reduceMul,Nat.reduceLT,List.length_map];rfl) ?_
    | (refine AW.condK _ rfl (fun hb => ?_) (fun hb => ?_) <;> (simp only [Bool.false_eq_true,decide_eq_true_eq,decide_eq_false_iff_not,Int.not_le] at hb) <;> skip)
    | refine AW.block ?_
    | refine bq_s ?_
    | refine AW.exit ?_
    | refine AW.skip ?_
    | refine useK (by assumption) ?_
    | (refine AW.tok 26 6 ?_;rw [List.append_assoc];simp only [List.cons_append,List.nil_append];refine AW.loopS (α:={ i:Nat // i ≤ t.kids.length }) 53 (fun i => [(1,.int .i64 n),(2,.ptr st.length 0),(4,.ptr (st.length + 1) 0),(5,.ptr (st.length + 3) 0),(6,.int .i64 (i.1:Nat))]) (fun i => st ++ [.box 26 (encT t).cells,.box 26 [.int .i64 0,.int .i64 0,.str [],.int .i64 0,.nil,.nil],.tok 9 1 t.labels.length,.box 26 [.int .i64 t.kind,.int .i64 (raisePrio n t),.str t.name,.int .i64 t.shift,.sl (t.labels.map .str) none,.sl ((t.kids.take i.1).map fun u => encT (raiseT n u)) (some (st.length + 4))],.tok 26 6 ((t.kids.take i.1).map fun u => encT (raiseT n u)).length]) (fun i => t.kids.length - i.1) ⟨0,Nat.zero_le _⟩ rfl ?_ ?_ ?_;(focus (simp (disch:=omega) only [go_sem,↓reduceIte,Nat.reduceEqDiff];done));(focus ((simp (disch:=omega) only [raisePrio_1,raisePrio_2,raisePrio_3,List.take_zero,List.map_nil,List.length_nil]);refine StLe.app ?_;repeat' (first | exact trivial | exact O.le_refl _ _ | refine O.le_box ?_ | exact V.le_refl _ _ | exact V.le_sl _ _ _ | exact V.le_nil_tok (by rw [st_get];rfl) | refine ⟨?_, ?_⟩)));rintro ⟨i,hi⟩ hlc;dsimp only;have hnl:(t.kids.take i).length ≤ 1000000:=(by rw [List.length_take];omega))
    | (refine ⟨⟨i + 1,by omega⟩,by simp only [];omega,_,Nat.le_refl _,Nat.le_of_ble_eq_true rfl, ?_, ?_⟩ <;> (simp (disch:=omega) only [go_sem,↓reduceIte,Nat.reduceEqDiff,Nat.reduceAdd,take_at,List.map_cons,List.map_nil,List.length_append,List.length_cons,List.length_nil,List.length_map,List.length_append,trimS_app hst]))
    | (refine AW.ret ?_;show (_ ∨ _) ∧ _;refine ⟨.inr rfl, ?_⟩;show resP _ _ _ [.cell 4 26] _;simp (disch:=omega) only [go_sem,↓reduceIte,Nat.reduceEqDiff,Nat.reduceAdd];refine ⟨_,_,_,Nat.le_refl _,V.le_refl _ _,StLe.refl _, ?_⟩;(simp (disch:=omega) only [go_sem,hst.trim_append]))
  all_goals (rw [raiseT_eq,encT_mk,List.map_map,List.take_of_length_le (show t.kids.length ≤ i by omega)];rfl)
theorem copyO_plain {t:Pr} {st:List O} (h:Duo.Call Tryz.prog Tryz.gl 104 [encP t] st (fun v st' => v = .agg (.int .i64 t.kind :: .str t.chan :: .str t.var :: .sl (t.labels.map .str) none :: .ref st.length 1 :: ((encT (raiseT 0 t.typ)).cells ++ [.ref (st.length + 1) t.kids.length])) ∧ st' = st ++ [.arr 36 3 1 (t.args.map encV),.arr 29 12 t.kids.length (t.kids.map fun u => encP (copyP u))])) :
    Duo.Call Tryz.prog Tryz.gl 104 [encP t] st (fun v st' => v = encP (copyP t) ∧ st' = st):=by
  refine Duo.Call.clo fun hst => ?_
  have h1:=Duo.Call.fa st.length 36 3 1 _ (by rw [st_get0];rfl) h
  rw [fa_st0 hst (fun _ _ _ => rfl)] at h1
  have h2:=Duo.Call.fa (st.length + 1) 29 12 t.kids.length _ (by rw [st_get];rfl) h1
  rw [fa_st1 hst] at h2
  have h3:=Duo.Call.forget st.length (Nat.le_refl _) h2
  refine Duo.Call.mono h3 ?_
  rintro v st' ⟨rfl,rfl⟩
  refine ⟨?_,hst.trim_append _⟩
  rw [copyP_eq,encP_mk]
  simp [V.fa,V.fa.faL,faL_app,faL_T,V.trim,V.trim.trimL,trimL_app,trimL_T,List.map_map,Function.comp_def]
set_option maxRecDepth 100000 in
set_option maxHeartbeats 8000000 in
theorem copyO_spec:∀ (t:Pr) (h:t.sz ≤ 1000000) (hl:smLP t) (st:List O),Duo.Call Tryz.prog Tryz.gl 104 [encP t] st (fun v st' => v = .agg (.int .i64 t.kind :: .str t.chan :: .str t.var :: .sl (t.labels.map .str) none :: .ref st.length 1 :: ((encT (raiseT 0 t.typ)).cells ++ [.ref (st.length + 1) t.kids.length])) ∧ st' = st ++ [.arr 36 3 1 (t.args.map encV),.arr 29 12 t.kids.length (t.kids.map fun u => encP (copyP u))]):=Pr.ind' fun t ih => by
  intro h hl st
  refine Duo.Call.clo fun hst => ?_
  have hl2:=(smLP_iff t).1 hl
  have hzl:=Pr.szs_len t.kids
  have hzz:=Pr.sz_eq t
  refine Duo.Call.body 40 [(0,encP t)] Tryz.func104 rfl rfl ?_
  refine AW.arr0 36 3 ?_
  refine AW.arr0 29 12 ?_
  rw [List.append_assoc]
  simp only [List.cons_append,List.nil_append]
  repeat' first
    | (refine AW.regionR (id:=3) 3 ?_;simp only [List.take_succ_cons,List.take_zero,List.drop_succ_cons,List.drop_zero])
    | (refine awL_appR st.length 0 (by simp only [go_sem,↓reduceIte,Nat.reduceEqDiff]) (by rw [st_get0];rfl) elt23 (by simp only [go_sem,↓reduceIte];rfl) (by ((simp (disch:=omega) only [go_sem,List.length_map];omega))) rfl ?_)
    | refine AW.seqK fun K hK => ?_
    | (refine hK _ _ ?_;clear hK K)
    | refine AW.region ?_
    | refine AW.any (id:=9) mix 9 (by decide +kernel) ?_
    | refine awL_call rfl (by exact ent115) (by simp only [go_sem,↓reduceIte];rfl) (by exact raise_spec _ 0 (by omega) (by exact hl2.2.2.2.1) _) rfl ?_
    | refine awA_nil (by simp only [applyUps,List.nil_append,List.cons_append,S0,S2];rfl) ?_
    | refine awL_nil ?_
    | refine awL_S1 rfl rfl (by simp (disch:=omega) only [go_sem,↓reduceIte,Nat.reduceEqDiff,Nat.reduceAdd,Nat.reduceLeDiff,Nat.reduceLT,cellsP t];rfl) ?_
    | refine awA_call rfl (by exact ent115) (by simp only [go_sem,↓reduceIte];rfl) (by (exact (copyO_plain (ih _ (List.getElem_mem (by assumption)) (by have:=kidP_sz (t:=t) (by assumption);omega) (hl2.2.2.2.2 _ (List.getElem_mem (by assumption))) _)))) rfl ?_
    | refine awA_S1 rfl rfl (by simp (disch:=omega) only [go_sem,↓reduceIte,Nat.reduceEqDiff,Nat.reduceAdd,Nat.reduceLeDiff,Nat.reduceMul,Nat.reduceLT];rfl) ?_
    | (refine AW.condK _ rfl (fun hb => ?_) (fun hb => ?_) <;> (simp only [decide_eq_true_eq,decide_eq_false_iff_not] at hb) <;> skip)
    | refine AW.block ?_
    | refine bq_s ?_
    | refine AW.exit ?_
    | refine AW.skip ?_
    | refine useK (by assumption) ?_
    | (refine AW.loopS (α:={ i:Nat // i ≤ t.kids.length }) 40 (fun i => [(1,.ptr (st.length + 2) 0),(2,.ptr (st.length + 3) 0),(3,.ptr (st.length + 4) 0),(4,.int .i64 (i.1:Nat))]) (fun i => st ++ [.arr 36 3 1 (t.args.map encV),.arr 29 12 i.1 ((t.kids.take i.1).map fun u => encP (copyP u)),.box 29 (encP t).cells,.box 29 ZP,.box 29 (.int .i64 t.kind :: .str t.chan :: .str t.var :: .sl (t.labels.map .str) none :: .ref st.length 1 :: ((encT (raiseT 0 t.typ)).cells ++ [.ref (st.length + 1) i.1])),.tok 9 1 t.labels.length]) (fun i => t.kids.length - i.1) ⟨0,Nat.zero_le _⟩ rfl ?_ ?_ ?_;(focus (simp (disch:=omega) only [go_sem,↓reduceIte,Nat.reduceEqDiff];done));(focus ((simp (disch:=first | omega | assumption) only [cellsP t,List.take_zero,List.map_nil,zpE]);refine StLe.app ?_;repeat' (first | exact trivial | exact O.le_refl _ _ | refine O.le_box ?_ | exact V.le_refl _ _ | exact V.le_sl _ _ _ | exact V.le_nil_ref (by rw [st_get];rfl) | refine CLe.app ?_ | refine ⟨?_, ?_⟩)));rintro ⟨i,hi⟩ hlc;dsimp only;have hnl:(t.kids.take i).length ≤ 1000000:=(by rw [List.length_take];omega))
    | (refine ⟨⟨i + 1,by omega⟩,by simp only [];omega,_,Nat.le_refl _,Nat.le_of_ble_eq_true rfl, ?_, ?_⟩ <;> (simp (disch:=omega) only [go_sem,↓reduceIte,Nat.reduceEqDiff,Nat.reduceAdd,cellsP t,take_at,List.map_cons,List.map_nil,List.length_append,List.length_cons,List.length_nil,List.length_append,trimS_app hst]))
    | (refine AW.ret ?_;show (_ ∨ _) ∧ _;refine ⟨.inr rfl, ?_⟩;show resP _ _ _ [.cell 2 29] _;simp (disch:=omega) only [go_sem,↓reduceIte,Nat.reduceEqDiff,Nat.reduceAdd];refine ⟨st.length + 2,_,_,Nat.le_add_right _ _,V.le_refl _ _,StLe.refl _, ?_⟩;(simp (disch:=omega) only [go_sem,↓reduceIte]))
  obtain rfl:i = t.kids.length:=by omega
  rw [List.take_length]
  refine ⟨rfl, ?_⟩
  simp (disch:=omega) only [trimS_app hst,go_sem,List.take_succ_cons,List.take_zero,List.map_cons,List.map_nil]
end Tryz
end Go.Proofs
