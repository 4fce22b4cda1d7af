/-
  A part of the proof.
-/
import Derived.Test.YtdlcnihacaboiaaGreatDoorSubLib
import Derived.Test.YtdlcnihacaboiaaGreatDoorGM
import Derived.Test.YtdlcnihacaboiaaGreatDoorDS3
import Derived.Test.YtdlcnihacaboiaaGreatDoorDLate3
import Derived.Test.YtdlcnihacaboiaaGreatDoorGI
import Derived.Test.YtdlcnihacaboiaaGreatDoorGN
import Derived.Test.YtdlcnihacaboiaaGreatDoorZProgI
import Derived.Test.YtdlcnihacaboiaaGreatDoorZProgF
import Derived.Test.YtdlcnihacaboiaaGreatDoorGR
set_option linter.all false
namespace Go.Proofs
open Go Go.Duo
namespace Tryz
attribute [local irreducible] awL awA awT AW
set_option maxRecDepth 100000 in
set_option maxHeartbeats 8000000 in
theorem rapply_spec (t:Pr) (ns:List Str) (vs:List Vl) (hnv:ns.length = vs.length) (hnd:ns.Nodup) (hns:ns.length ≤ 1000000) (hvo:∀ x ∈ vs,okV x) (h:t.sz ≤ 1000) (hl:smLP t) (st:List O):Duo.Call Tryz.prog Tryz.gl 102 [encP t,.sl (ns.map .str) none,.sl (vs.map encV) none] st (fun v st' => v = .tuple [encP (putP ns vs t []),.int .i64 0] ∧ st' = st):=by
  refine Duo.Call.clo fun hst => ?_
  have hdp:=Pr.dp_le t
  refine Duo.Call.body 34 [(0,encP t),(1,.sl (ns.map .str) none),(2,.sl (vs.map encV) none)] Tryz.func102 rfl rfl ?_
  repeat' first
    | refine AW.seqK fun K hK => ?_
    | (refine hK _ _ ?_;clear hK K)
    | refine AW.region ?_
    | refine awL_call rfl (by exact ent147) (by simp only [go_sem,↓reduceIte,Nat.reduceEqDiff];rfl) (by first | exact idx_spec _ _ (by omega) _ | exact Duo.Call.argle (by repeat' (first | exact trivial | exact V.le_refl _ _ | exact V.le_nil _ | refine ⟨?_, ?_⟩)) (putO_plain trivial (putO_spec ns vs hnv hns hvo t [] (by omega) hl (by simp;omega) _))) rfl ?_
    | refine awL_nil ?_
    | ((fail_if_success (clear hjq));(rcases Nat.lt_or_ge i ns.length with hq | hq;rotate_left;focus (exfalso;omega));have hjq:True:=trivial;have hix:=idxI_nodup hnd hq)
    | refine awL_S1 rfl rfl (by simp (disch:=omega) only [go_sem,↓reduceIte,Nat.reduceEqDiff,Nat.reduceAdd];rfl) ?_
    | (refine AW.condK _ rfl (fun hb => ?_) (fun hb => ?_) <;> (simp only [Int.ofNat_inj,decide_eq_true_eq,decide_eq_false_iff_not,Int.not_lt,Decidable.not_not] at hb) <;> try (exfalso;omega))
    | refine AW.block ?_
    | refine bq_s ?_
    | refine AW.exit ?_
    | refine AW.skip ?_
    | refine useK (by assumption) ?_
    | (refine AW.loopC (α:={ i:Nat // i ≤ ns.length }) 34 (fun i => [(1,.sl (ns.map .str) none),(2,.sl (vs.map encV) none),(3,.ptr st.length 0),(6,.ptr (st.length + 1) 0),(8,.int .i64 (i.1:Nat))]) (fun i => ns.length - i.1) ⟨0,Nat.zero_le _⟩ rfl ?_ ?_;(focus (simp (disch:=omega) only [go_sem,↓reduceIte,Nat.reduceEqDiff];done));rintro ⟨i,hi⟩ hlc;dsimp only)
    | (refine ⟨⟨i + 1,by omega⟩,by simp only [];omega,_,Nat.le_refl _,Nat.le_of_ble_eq_true rfl, ?_, ?_⟩ <;> (simp (disch:=omega) only [go_sem,↓reduceIte,Nat.reduceEqDiff,Nat.reduceAdd,List.length_append,trimS_app hst]))
    | (refine AW.ret ?_;show (_ ∨ _) ∧ _;refine ⟨.inr rfl, ?_⟩;show resP _ _ _ [.cell 6 29,.tmp 7] _;simp (disch:=omega) only [go_sem,↓reduceIte,Nat.reduceEqDiff];refine ⟨_,_,_,Nat.le_refl _,V.le_refl _ _,StLe.refl _, ?_⟩;(simp (disch:=omega) only [go_sem,hst.trim_append]))
  trace_state
set_option maxRecDepth 100000 in
set_option maxHeartbeats 8000000 in
theorem vname_spec (s:Str) (st:List O):Duo.Call Tryz.prog Tryz.gl 114 [.str s] st (fun v st' => v = encV ⟨1,s,0⟩ ∧ st' = st):=by
  refine Duo.Call.clo fun hst => ?_
  refine Duo.Call.body 5 [(0,.str s)] Tryz.func114 rfl rfl ?_
  repeat' first
    | refine AW.seqK fun K hK => ?_
    | (refine hK _ _ ?_;clear hK K)
    | refine AW.region ?_
    | refine awL_nil ?_
    | refine awL_S1 rfl rfl (by simp (disch:=omega) only [go_sem,↓reduceIte,Nat.reduceEqDiff,Nat.reduceAdd,Nat.reduceLeDiff];rfl) ?_
    | (refine AW.ret ?_;show (_ ∨ _) ∧ _;refine ⟨.inr rfl, ?_⟩;show resP _ _ _ [.cell 2 36] _;simp (disch:=omega) only [go_sem,↓reduceIte,Nat.reduceEqDiff,Nat.reduceAdd];refine ⟨_,_,_,Nat.le_refl _,V.le_refl _ _,StLe.refl _, ?_⟩;(simp (disch:=omega) only [go_sem,hst.trim_append]))
  rfl
set_option maxRecDepth 100000 in
set_option maxHeartbeats 8000000 in
theorem inst_spec (p:Pg) (s:Str) (vs:List Vl) (hw:p.defs.length ≤ 1000000) (i:Nat) (hi:i < p.defs.length) (hf:findI p.defs s = i) (hpl:(p.defs[i]).params.length = vs.length) (hns:vs.length ≤ 1000000) (hvo:∀ x ∈ vs,okV x) (h:(p.defs[i]).body.sz ≤ 1000) (hl:smLP (p.defs[i]).body) (st:List O):Duo.Call Tryz.prog Tryz.gl 116 [encPg p,.str s,.sl (vs.map encV) none] st (fun v st' => v = .tuple [encP (putP ((p.defs[i]).params.map Pm.name) vs (p.defs[i]).body []),.int .i64 0] ∧ st' = st):=by
  refine Duo.Call.clo fun hst => ?_
  have hdp:=Pr.dp_le (p.defs[i]).body
  refine Duo.Call.body 56 [(0,encPg p),(1,.str s),(2,.sl (vs.map encV) none)] Tryz.func116 rfl rfl ?_
  repeat' first
    | refine AW.seqK fun K hK => ?_
    | (refine hK _ _ ?_;clear hK K)
    | refine AW.region ?_
    | refine awL_call rfl (by exact ent110) (by simp only [go_sem,↓reduceIte,Nat.reduceEqDiff];rfl) (by first | exact find_spec p _ (by omega) _ | exact Duo.Call.argle (by repeat' (first | exact trivial | exact V.le_refl _ _ | exact V.le_sl _ _ _ | exact V.le_nil _ | refine ⟨?_, ?_⟩)) (putO_plain trivial (putO_spec (((p.defs[i]).params.take k).map Pm.name) vs (by rw [List.length_map,List.length_take];omega) (by rw [List.length_map,List.length_take];omega) hvo (p.defs[i]).body [] (by omega) hl (by simp;omega) _))) rfl ?_
    | refine awL_nil ?_
    | refine awL_S1 rfl rfl (by simp (disch:=omega) only [go_sem,↓reduceIte,Nat.reduceEqDiff,Nat.reduceAdd,Nat.reduceLeDiff,Nat.reduceMul,Nat.reduceLT,List.length_map,hf,hpl];rfl) ?_
    | (refine AW.condK _ rfl (fun hb => ?_) (fun hb => ?_) <;> (simp only [not_true_eq_false,not_false_eq_true,decide_eq_true_eq,decide_eq_false_iff_not,Int.not_lt] at hb) <;> try (exfalso;omega))
    | refine AW.block ?_
    | refine bq_s ?_
    | refine AW.exit ?_
    | refine AW.skip ?_
    | refine useK (by assumption) ?_
    | (refine AW.tok 9 1 ?_;rw [List.append_assoc];simp only [List.cons_append,List.nil_append];refine AW.loopS (α:={ k:Nat // k ≤ vs.length }) 56 (fun k => [(2,.sl (vs.map encV) none),(3,.ptr st.length 0),(6,.ptr (st.length + 1) 0),(8,.int .i64 (i:Nat)),(9,.sl ((((p.defs[i]).params.take k.1).map Pm.name).map .str) (some (st.length + 2))),(10,.int .i64 (k.1:Nat))]) (fun k => st ++ [.box 48 (encPg p).cells,.box 29 ZP,.tok 9 1 (((p.defs[i]).params.take k.1).map Pm.name).length]) (fun k => vs.length - k.1) ⟨0,Nat.zero_le _⟩ rfl ?_ ?_ ?_;(focus (simp (disch:=omega) only [go_sem,↓reduceIte,Nat.reduceEqDiff,List.take_zero,List.map_nil];done));(focus ((simp (disch:=first | omega | assumption) only [List.take_zero,List.map_nil,List.length_nil,zpE]);refine StLe.app ?_;repeat' (first | exact trivial | exact O.le_refl _ _ | refine ⟨?_, ?_⟩)));rintro ⟨k,hk⟩ hlc;dsimp only;have hnl:((p.defs[i]).params.take k).length ≤ 1000000:=(by rw [List.length_take];omega))
    | (refine ⟨⟨k + 1,by omega⟩,by simp only [];omega,_,Nat.le_refl _,Nat.le_of_ble_eq_true rfl, ?_, ?_⟩ <;> (simp (disch:=omega) only [go_sem,↓reduceIte,Nat.reduceEqDiff,Nat.reduceAdd,take_at,List.map_cons,List.map_nil,List.length_append,List.length_cons,List.length_nil,List.length_map,List.length_append,trimS_app hst]))
    | (refine AW.ret ?_;show (_ ∨ _) ∧ _;refine ⟨.inr rfl, ?_⟩;show resP _ _ _ [.cell 6 29,.tmp 7] _;simp (disch:=omega) only [go_sem,↓reduceIte,Nat.reduceEqDiff];refine ⟨_,_,_,Nat.le_refl _,V.le_refl _ _,StLe.refl _, ?_⟩;(simp (disch:=omega) only [go_sem,hst.trim_append]))
  rw [List.take_of_length_le (show (p.defs[i]).params.length ≤ k by omega)]
end Tryz
end Go.Proofs

namespace Go.Proofs
open Go Go.Duo
namespace Tryz
attribute [local irreducible] awL awA awT AW
set_option maxRecDepth 100000 in
set_option maxHeartbeats 8000000 in
theorem add_step (p:Pg) (hw:p.defs.length ≤ 1000000) (n:Nat) (ih:∀ (a:List Pr) (b:List Ty) (q:Pr),okF p n ⟨a,b⟩ q → ∀ (st:List O),Duo.Call Tryz.prog Tryz.gl 80 [encPg p,.agg [.sl (a.map encP) none,.sl (b.map encT) none],encP q] st (fun v st' => v = .agg [.sl (((addF p n ⟨a,b⟩ q)).th.map encP) none,.sl (((addF p n ⟨a,b⟩ q)).ch.map encT) none] ∧ st' = st)) (c:Cf) (q:Pr) (h:okF p (n + 1) c q) (st:List O):Duo.Call Tryz.prog Tryz.gl 80 [encPg p,.agg [.sl ((c).th.map encP) none,.sl ((c).ch.map encT) none],encP q] st (fun v st' => v = .agg [.sl ((addF p (n + 1) c q).th.map encP) none,.sl ((addF p (n + 1) c q).ch.map encT) none] ∧ st' = st):=by
  refine Duo.Call.clo fun hst => ?_
  obtain ⟨⟨hth,hch,hsz,hlp⟩,h6,h7,h8⟩:=h
  have hl2:=(smLP_iff q).1 hlp
  have hzl:=Pr.szs_len q.kids
  have hzz:=Pr.sz_eq q
  refine Duo.Call.body 107 [(0,encPg p),(1,.agg [.sl ((c).th.map encP) none,.sl ((c).ch.map encT) none]),(2,encP q)] Tryz.func80 rfl rfl ?_
  repeat' first
    | (refine AW.anyL (id:=9) mix 22 21 [0,1,2,3,4,5,6,7,8,9,10,11,12,13,14,15,16,17,18,20] [19] _ (by decide +kernel) (Nat.le_of_ble_eq_true rfl) rfl rfl rfl (by decide +kernel) (by decide +kernel) (by decide +kernel) ?_;simp only [nopO,List.take_succ_cons,List.take_zero,List.set_cons_zero,List.set_cons_succ])
    | refine AW.seqK fun K hK => ?_
    | (refine hK _ _ ?_;clear hK K)
    | refine AW.region ?_
    | refine AW.anyT1 (id:=6) mix 10 29 12 (by decide +kernel) ?_
    | refine AW.anyT1 (id:=10) mix 14 26 6 (by decide +kernel) ?_
    | refine AW.any (id:=15) mix 7 (by decide +kernel) ?_
    | refine awL_call rfl (by exact ent104) (by simp only [go_sem,↓reduceIte,Nat.reduceEqDiff];rfl) (by first | exact inst_spec p _ _ hw i hi hf hpl (by omega) hao hbs hbl _ | exact Duo.Call.argle (by repeat' (first | exact trivial | exact V.le_refl _ _ | (refine V.leS ?_;simp only [List.map_append,List.map_cons,List.map_nil];done) | (refine V.le_aggL ?_) | refine ⟨?_, ?_⟩)) (ih _ _ _ hok _)) rfl ?_
    | refine awT_nil (by simp only [applyUps,List.nil_append,List.cons_append,List.append_assoc,List.length_append,List.length_cons,List.length_nil,Nat.reduceAdd,Nat.zero_add,S0];rfl) ?_
    | refine awA_nil (by simp only [applyUps,List.nil_append,List.cons_append,S0,S2];rfl) ?_
    | refine awL_nil ?_
    | ((fail_if_success (clear hj6));(rcases Decidable.em (q.kind = 6) with hk6 | hk6;rotate_left;(focus (exfalso;omega)));obtain ⟨hk0,hne,hic,hiv,hok⟩:=h6 hk6;rw [openL_eq hk0] at hok;have hj6:True:=trivial;have hkz:=kidP0_sz hk0)
    | ((fail_if_success (clear hj8));(rcases Decidable.em (q.kind = 8) with hk8 | hk8;rotate_left;(focus (exfalso;omega)));obtain ⟨i,hi,hf,hpl,hao,hbs,hbl,hok⟩:=h8 hk8;have hj8:True:=trivial)
    | ((fail_if_success (clear hjq));(rcases Nat.lt_or_ge i q.kids.length with hq | hq;rotate_left;focus (exfalso;omega));have hok:=h7 (by omega) i hq;have hjq:True:=trivial)
    | refine awL_S1 rfl rfl (by simp (disch:=omega) only [go_sem,↓reduceIte,Nat.reduceEqDiff,Nat.reduceAdd,Nat.reduceLeDiff,Nat.reduceLT];rfl) ?_
    | refine awT_call rfl (by exact ent104) (by simp only [go_sem,↓reduceIte];rfl) (by intro st2 _;first | exact copyO_plain (copyO_spec q (by omega) hlp _) | exact raise_spec _ 0 (by omega) (by exact hl2.2.2.2.1) _) rfl ?_
    | refine awT_S1 rfl rfl (by simp (disch:=omega) only [go_sem,↓reduceIte,Nat.reduceEqDiff,Nat.reduceAdd,Nat.reduceLeDiff,Nat.reduceMul,Nat.reduceLT];rfl) ?_
    | refine awA_call rfl (by exact ent104) (by simp only [go_sem,↓reduceIte,Nat.reduceEqDiff];rfl) (by first | exact rnameg_spec _ _ (by omega) (by omega) _ | exact vname_spec _ _ | exact rapply_spec q.kids[0] [q.chan,q.var] [epN c.ch.length true,epN c.ch.length false] rfl (by simpa using hne) (by simp) (by intro x hx;simp only [List.mem_cons,List.not_mem_nil,or_false] at hx;rcases hx with rfl | rfl <;> exact epN_ok (by omega) _) (by omega) (hl2.2.2.2.2 _ (List.getElem_mem hk0)) _) rfl ?_
    | refine awA_S1 rfl rfl (by simp (disch:=omega) only [go_sem,↓reduceIte,Nat.reduceEqDiff,Nat.reduceAdd,Nat.reduceLeDiff,Nat.reduceMul,Nat.reduceLT];rfl) ?_
    | (refine AW.condK _ rfl (fun hb => ?_) (fun hb => ?_) <;> (simp only [Bool.true_eq_false,decide_eq_true_eq,decide_eq_false_iff_not] at hb) <;> try (exfalso;omega))
    | refine AW.block ?_
    | refine bq_s ?_
    | refine AW.exit ?_
    | refine AW.skip ?_
    | refine useK (by assumption) ?_
    | (refine AW.loopS (α:={ i:Nat // i ≤ q.kids.length }) 107 (fun i => [(3,.ptr st.length 0),(4,.ptr (st.length + 1) 0),(5,.ptr (st.length + 2) 0),(6,.ptr (st.length + 3) 0),(10,.int .i64 (i.1:Nat)),(14,.int .i64 q.kind)]) (fun i => st ++ [.box 48 (encPg p).cells,.box 52 [.sl (((q.kids.take i.1).foldl (addF p n) c).th.map encP) none,.sl (((q.kids.take i.1).foldl (addF p n) c).ch.map encT) none],.box 29 (encP q).cells,.box 52 [.nil,.nil]]) (fun i => q.kids.length - i.1) ⟨0,Nat.zero_le _⟩ rfl ?_ ?_ ?_;(focus (simp (disch:=omega) only [go_sem,↓reduceIte,Nat.reduceEqDiff];done));(focus ((simp (disch:=first | omega | assumption) only [List.take_zero,List.foldl_nil]);refine StLe.app ?_;repeat' (first | exact trivial | exact O.le_refl _ _ | refine ⟨?_, ?_⟩)));rintro ⟨i,hi⟩ hlc;dsimp only)
    | (refine ⟨⟨i + 1,by omega⟩,by simp only [];omega,_,Nat.le_refl _,Nat.le_of_ble_eq_true rfl, ?_, ?_⟩ <;> (simp (disch:=omega) only [go_sem,↓reduceIte,Nat.reduceEqDiff,Nat.reduceAdd,foldl_at _ _ hq,List.length_append,trimS_app hst]))
    | (show Exists _;refine late_S (by simp (disch:=omega) only [go_sem,↓reduceIte,Nat.reduceEqDiff,Nat.reduceAdd];rfl) ⟨awS_S rfl rfl rfl rfl (by simp (disch:=omega) only [go_sem,↓reduceIte,Nat.reduceEqDiff,Nat.reduceAdd,Nat.reduceLT];rfl) <| trivial, ?_⟩;simp only [List.drop_succ_cons,List.drop_zero])
    | (refine AW.ret ?_;show (_ ∨ _) ∧ _;refine ⟨.inr rfl, ?_⟩;show resP _ _ _ [.cell 6 52] _;simp (disch:=omega) only [go_sem,↓reduceIte,Nat.reduceEqDiff,Nat.reduceAdd];refine ⟨_,_,_,Nat.le_refl _,V.le_refl _ _,StLe.refl _, ?_⟩;(simp (disch:=omega) only [go_sem,hst.trim_append]))
  all_goals first
    | (rw [addF_pre (by omega) (by omega),List.map_append,List.map_cons,List.map_nil];done)
    | (rw [addF_6 (by assumption) hk0];done)
    | (rw [addF_7 (by assumption),List.take_of_length_le (show q.kids.length ≤ i by omega)];done)
    | (rw [addF_8 (by assumption) hi hf];done)
    | (rw [addF_no (by omega)];done)
theorem add_spec (p:Pg) (hw:p.defs.length ≤ 1000000):∀ (n:Nat) (a:List Pr) (b:List Ty) (q:Pr),okF p n ⟨a,b⟩ q → ∀ (st:List O),Duo.Call Tryz.prog Tryz.gl 80 [encPg p,.agg [.sl (a.map encP) none,.sl (b.map encT) none],encP q] st (fun v st' => v = .agg [.sl (((addF p (n) ⟨a,b⟩ q)).th.map encP) none,.sl (((addF p (n) ⟨a,b⟩ q)).ch.map encT) none] ∧ st' = st):=by
  intro n;induction n with
  | zero => intro a b q h;exact h.elim
  | succ n ih => exact fun a b q h st => add_step p hw n ih ⟨a,b⟩ q h st
set_option maxRecDepth 100000 in
set_option maxHeartbeats 8000000 in
theorem start_spec (p:Pg) (hw:p.defs.length ≤ 1000000) (n:Nat) (h:okF p n ⟨[],[]⟩ p.main) (st:List O):Duo.Call Tryz.prog Tryz.gl 44 [encPg p] st (fun v st' => v = .agg [.sl (((addF p n ⟨[],[]⟩ p.main)).th.map encP) none,.sl (((addF p n ⟨[],[]⟩ p.main)).ch.map encT) none] ∧ st' = st):=by
  refine Duo.Call.clo fun hst => ?_
  refine Duo.Call.body 8 [(0,encPg p)] Tryz.func44 rfl rfl ?_
  repeat' first
    | refine AW.seqK fun K hK => ?_
    | (refine hK _ _ ?_;clear hK K)
    | refine AW.region ?_
    | refine awL_call rfl (by exact ent80) (by simp only [go_sem,↓reduceIte,Nat.reduceEqDiff];rfl) (by (exact Duo.Call.argle (by repeat' (first | exact trivial | exact V.le_refl _ _ | exact V.le_nil _ | (refine V.le_aggL ?_) | refine ⟨?_, ?_⟩)) (add_spec p hw n [] [] p.main h _))) rfl ?_
    | refine awL_nil ?_
    | refine awL_S1 rfl rfl (by simp (disch:=omega) only [go_sem,↓reduceIte,Nat.reduceEqDiff,Nat.reduceAdd];rfl) ?_
    | (refine AW.ret ?_;show (_ ∨ _) ∧ _;refine ⟨.inr rfl, ?_⟩;show resP _ _ _ [.cell 2 52] _;simp (disch:=omega) only [go_sem,↓reduceIte,Nat.reduceEqDiff,Nat.reduceAdd];refine ⟨_,_,_,Nat.le_refl _,V.le_refl _ _,StLe.refl _, ?_⟩;(simp (disch:=omega) only [go_sem,hst.trim_append]))
  trace_state
end Tryz
end Go.Proofs
