/-
  A part of the proof.
-/
import Derived.Test.YtdlcnihacaboiaaGreatDoorSubLib
import Derived.Test.YtdlcnihacaboiaaGreatDoorGM
import Derived.Test.YtdlcnihacaboiaaGreatDoorDS3
import Derived.Test.YtdlcnihacaboiaaGreatDoorDLate3
import Derived.Test.YtdlcnihacaboiaaGreatDoorGI
import Derived.Test.YtdlcnihacaboiaaGreatDoorGN
import Derived.Test.YtdlcnihacaboiaaGreatDoorZProgD
import Derived.Test.YtdlcnihacaboiaaGreatDoorGR
import Derived.Test.YtdlcnihacaboiaaGreatDoorZProgH
set_option linter.all false
namespace Go.Proofs
open Go Go.Duo
namespace Tryz
attribute [local irreducible] awL awA awT AW
set_option maxRecDepth 100000 in
set_option maxHeartbeats 8000000 in
theorem valueS_spec (x:Vl) (ho:okV x) (st:List O):Duo.Call Tryz.prog Tryz.gl 176 [encV x] st (fun v st' => v = .str (valueS x) ∧ st' = st):=by
  refine Duo.Call.clo fun hst => ?_
  have h1:=ho.2.2
  unfold inI at h1
  refine Duo.Call.body 22 [(0,encV x)] Tryz.func176 rfl rfl ?_
  repeat' first
    | refine AW.seqK fun K hK => ?_
    | (refine hK _ _ ?_;clear hK K)
    | refine AW.region ?_
    | refine awL_call rfl (by first | exact ent17) (by simp only [go_sem,↓reduceIte,Nat.reduceEqDiff,Nat.reduceAdd,Nat.reduceLeDiff,Nat.reduceMul,Nat.reduceSub,Nat.reduceLT];rfl) (by first | exact decimalF_spec _ h1.1 h1.2 _) rfl ?_
    | refine awL_nil ?_
    | (refine awL_gno rfl ?_ rfl ?_;focus (simp only [S0,↓reduceIte,Nat.reduceEqDiff,Bool.not_true,Bool.not_false];done))
    | (refine awL_gyes rfl ?_ ?_;focus (simp only [S0,↓reduceIte,Nat.reduceEqDiff,Bool.not_true,Bool.not_false];done))
    | refine awL_hole rfl rfl rfl rfl ?_
    | (refine awL_gcase rfl rfl (fun hg => ?_) (fun hg => ?_) <;> (rw [hg];(try simp only [Int.ofNat_inj,not_true_eq_false,not_false_eq_true,Bool.false_eq_true,Bool.true_eq_false,decide_eq_true_eq,decide_eq_false_iff_not,Bool.not_eq_true,Bool.not_eq_false,Bool.not_eq_true',Bool.not_eq_false',Int.not_lt,Int.not_le,ne_eq,Decidable.not_not,List.length_map,Bool.and_eq_true,Bool.or_eq_true,Bool.and_eq_false_imp,Int.ofNat_lt,Int.ofNat_le] at hg);try (exfalso;omega)))
    | refine awL_S1 rfl rfl (by simp (disch:=omega) only [go_sem,↓reduceIte,Nat.reduceEqDiff,Nat.reduceAdd,Nat.reduceLeDiff,Nat.reduceMul,Nat.reduceSub,Nat.reduceLT];rfl) ?_
    | (refine AW.condK _ rfl (fun hb => ?_) (fun hb => ?_) <;> (try simp only [Int.ofNat_inj,not_true_eq_false,not_false_eq_true,Bool.false_eq_true,Bool.true_eq_false,decide_eq_true_eq,decide_eq_false_iff_not,Bool.not_eq_true,Bool.not_eq_false,Bool.not_eq_true',Bool.not_eq_false',Int.not_lt,Int.not_le,ne_eq,Decidable.not_not,List.length_map,Bool.and_eq_true,Bool.or_eq_true,Bool.and_eq_false_imp,Int.ofNat_lt,Int.ofNat_le] at hb) <;> try (exfalso;omega))
    | refine AW.skip ?_
    | refine useK (by assumption) ?_
    | (refine AW.ret ?_;show (_ ∨ _) ∧ _;refine ⟨.inr rfl, ?_⟩;show resP _ _ _ [.tmp 2] _;simp (disch:=omega) only [go_sem,↓reduceIte,Nat.reduceEqDiff,Nat.reduceAdd,Nat.reduceLeDiff,Nat.reduceMul,Nat.reduceSub,Nat.reduceLT];refine ⟨_,_,_,Nat.le_refl _,V.le_refl _ _,StLe.refl _, ?_⟩;(try simp (disch:=omega) only [go_sem,↓reduceIte,Nat.reduceEqDiff,Nat.reduceAdd,Nat.reduceLeDiff,Nat.reduceMul,Nat.reduceSub,Nat.reduceLT,hst.trim,hst.trim_append]))
  all_goals (clear ho;simp_all [valueS])
set_option maxRecDepth 100000 in
set_option maxHeartbeats 8000000 in
theorem idx_spec (l:List Str) (s:Str) (hlen:l.length ≤ 9223372036854775807) (st:List O):Duo.Call Tryz.prog Tryz.gl 147 [.sl (l.map .str) none,.str s] st (fun v st' => v = .int .i64 (idxI l s) ∧ st' = st):=by
  refine Duo.Call.clo fun hst => ?_
  refine Duo.Call.body 19 [(0,.sl (l.map .str) none),(1,.str s)] Tryz.func147 rfl rfl ?_
  repeat' first
    | refine AW.seqK fun K hK => ?_
    | (refine hK _ _ ?_;clear hK K)
    | refine AW.region ?_
    | refine awL_nil ?_
    | refine awL_S1 rfl rfl (by simp (disch:=omega) only [go_sem,↓reduceIte,Nat.reduceEqDiff,Nat.reduceAdd,Nat.reduceLeDiff,Nat.reduceMul,Nat.reduceSub,Nat.reduceLT];rfl) ?_
    | (refine AW.condK _ rfl (fun hb => ?_) (fun hb => ?_) <;> (try simp only [Int.ofNat_inj,not_true_eq_false,not_false_eq_true,Bool.false_eq_true,Bool.true_eq_false,decide_eq_true_eq,decide_eq_false_iff_not,Bool.not_eq_true,Bool.not_eq_false,Bool.not_eq_true',Bool.not_eq_false',Int.not_lt,Int.not_le,ne_eq,Decidable.not_not,List.length_map,Bool.and_eq_true,Bool.or_eq_true,Bool.and_eq_false_imp,Int.ofNat_lt,Int.ofNat_le] at hb) <;> try (exfalso;omega))
    | refine AW.block ?_
    | refine bq_s ?_
    | refine bq_o rfl ?_
    | refine tq_e ?_
    | refine AW.exit ?_
    | refine AW.skip ?_
    | refine useK (by assumption) ?_
    | (refine AW.loopS (α:={ i:Nat // i ≤ l.length ∧ ∀ (j:Nat) (hj:j < l.length),j < i → ¬ l[j] = s }) 19 (fun i => [(0,.sl (l.map .str) none),(1,.str s),(5,.int .i64 (i.1:Nat))]) (fun i => st) (fun i => l.length - i.1) ⟨0,Nat.zero_le _,by intro j hj hj2;omega⟩ rfl ?_ ?_ ?_;(focus (simp (disch:=omega) only [go_sem,↓reduceIte,Nat.reduceEqDiff,Nat.reduceAdd,Nat.reduceLeDiff,Nat.reduceMul,Nat.reduceSub,Nat.reduceLT];done));(focus (simp (disch:=omega) only [go_sem,↓reduceIte,Nat.reduceEqDiff,Nat.reduceAdd,Nat.reduceLeDiff,Nat.reduceMul,Nat.reduceSub,Nat.reduceLT];done));rintro ⟨i,hi,hpre⟩ hlc;dsimp only)
    | (refine ⟨⟨i + 1,by omega,fun j hj hj2 => by rcases Nat.lt_or_eq_of_le (Nat.le_of_lt_succ hj2) with h | h;exact hpre j hj h;subst h;assumption⟩,by simp only [];omega,_,Nat.le_refl _,Nat.le_of_ble_eq_true rfl, ?_, ?_⟩ <;> (simp (disch:=omega) only [go_sem,↓reduceIte,Nat.reduceEqDiff,Nat.reduceAdd,Nat.reduceLeDiff,Nat.reduceMul,Nat.reduceSub,Nat.reduceLT,List.length_append,hlc.trim,hlc.trim_append,trimS_app hst]))
    | (refine AW.ret ?_;show (_ ∨ _) ∧ _;refine ⟨.inr rfl, ?_⟩;show resP _ _ _ [.tmp 4] _;simp (disch:=omega) only [go_sem,↓reduceIte,Nat.reduceEqDiff,Nat.reduceAdd,Nat.reduceLeDiff,Nat.reduceMul,Nat.reduceSub,Nat.reduceLT];refine ⟨_,_,_,Nat.le_refl _,V.le_refl _ _,StLe.refl _, ?_⟩;(try simp (disch:=omega) only [go_sem,↓reduceIte,Nat.reduceEqDiff,Nat.reduceAdd,Nat.reduceLeDiff,Nat.reduceMul,Nat.reduceSub,Nat.reduceLT,hst.trim,hst.trim_append]))
  · rw [idxI_some (by assumption) hpre (by assumption)]
  · rw [idxI_none (by omega) hpre]
theorem putO_plain {ns:List Str} {vs:List Vl} {t:Pr} {bd:List Str} {st:List O} {l0 l1:O} (hx:True) (h:Duo.Call Tryz.prog Tryz.gl 148 [encP t,.sl (ns.map .str) none,.sl (vs.map encV) none,.sl (bd.map .str) none] st (fun v st' => v = .agg (.int .i64 t.kind :: .str (putC ns vs bd t.kind t.chan) :: .str t.var :: .sl (t.labels.map .str) none :: .ref (st.length + 2) 1 :: ((encT (raiseT 0 t.typ)).cells ++ [.ref (st.length + 3) t.kids.length])) ∧ st' = st ++ [l0,l1,.arr 36 3 1 ((t.args.map (putA ns vs bd)).map encV),.arr 29 12 t.kids.length (t.kids.map fun u => encP (putP ns vs u (bd ++ innerL t)))])) :
    Duo.Call Tryz.prog Tryz.gl 148 [encP t,.sl (ns.map .str) none,.sl (vs.map encV) none,.sl (bd.map .str) none] st (fun v st' => v = encP (putP ns vs t bd) ∧ st' = st):=by
  refine Duo.Call.clo fun hst => ?_
  have h1:=Duo.Call.fa (st.length + 2) 36 3 1 _ (by rw [st_get];rfl) h
  rw [fa_stj hst] at h1
  have h2:=Duo.Call.fa (st.length + 3) 29 12 t.kids.length (t.kids.map fun u => encP (putP ns vs u (bd ++ innerL t))) (by rw [st_get];rfl) h1
  rw [fa_stj hst] at h2
  have h3:=Duo.Call.forget st.length (Nat.le_refl _) h2
  refine Duo.Call.mono h3 ?_
  rintro v st' ⟨rfl,rfl⟩
  refine ⟨?_,hst.trim_append _⟩
  rw [putP_eq,encP_mk]
  simp [V.fa,V.fa.faL,faL_app,faL_T,V.trim,V.trim.trimL,trimL_app,trimL_T,List.map_map,Function.comp_def]
set_option maxRecDepth 100000 in
set_option maxHeartbeats 8000000 in
theorem putO_spec (ns:List Str) (vs:List Vl) (hnv:ns.length = vs.length) (hns:ns.length ≤ 1000000) (hvo:∀ x ∈ vs,okV x):∀ (t:Pr) (bd:List Str) (h:t.sz ≤ 1000000) (hl:smLP t) (hb:bd.length + 2 * t.dp ≤ 1000000) (st:List O),Duo.Call Tryz.prog Tryz.gl 148 [encP t,.sl (ns.map .str) none,.sl (vs.map encV) none,.sl (bd.map .str) none] st (fun v st' => v = .agg (.int .i64 t.kind :: .str (putC ns vs bd t.kind t.chan) :: .str t.var :: .sl (t.labels.map .str) none :: .ref (st.length + 2) 1 :: ((encT (raiseT 0 t.typ)).cells ++ [.ref (st.length + 3) t.kids.length])) ∧ st' = st ++ [.box 29 (encP t).cells,.box 29 (.int .i64 t.kind :: .str (putC ns vs bd t.kind t.chan) :: .str t.var :: .sl (t.labels.map .str) none :: .ref (st.length + 2) 1 :: ((encT (raiseT 0 t.typ)).cells ++ [.ref (st.length + 3) t.kids.length])),.arr 36 3 1 ((t.args.map (putA ns vs bd)).map encV),.arr 29 12 t.kids.length (t.kids.map fun u => encP (putP ns vs u (bd ++ innerL t)))]):=Pr.ind' fun t ih => by
  intro bd h hl hb st
  refine Duo.Call.clo fun hst => ?_
  have hl2:=(smLP_iff t).1 hl
  have hzl:=Pr.szs_len t.kids
  have hzz:=Pr.sz_eq t
  have hil:=innerL_len t
  have hix:=idxI_lt ns t.chan
  obtain ⟨mo,hmo⟩:∃ mo,mo = bd ++ innerL t:=⟨_,rfl⟩
  refine Duo.Call.body 133 [(0,encP t),(1,.sl (ns.map .str) none),(2,.sl (vs.map encV) none),(3,.sl (bd.map .str) none)] Tryz.func148 rfl rfl ?_
  repeat' first
    | refine AW.seqK fun K hK => ?_
    | (refine hK _ _ ?_;clear hK K)
    | refine AW.region ?_
    | refine AW.any (id:=11) mix 7 (by decide +kernel) ?_
    | refine AW.anyT1 (id:=14) mix 6 9 1 (by decide +kernel) ?_
    | refine AW.anyT1 (id:=16) mix 8 9 1 (by decide +kernel) ?_
    | refine AW.any (id:=20) mix 12 (by decide +kernel) ?_
    | refine awL_call rfl (by first | exact ent104 | exact ent22 | exact ent147 | exact ent176 | exact ent148) (by simp only [go_sem,↓reduceIte,Nat.reduceEqDiff,Nat.reduceAdd,Nat.reduceLeDiff,Nat.reduceMul,Nat.reduceSub,Nat.reduceLT,List.append_assoc,List.length_append,List.length_cons,List.length_nil,List.cons_append,List.nil_append,List.length_map,halfL_len,cellsP t,foldP t];rfl) (by first | exact copyO_spec _ h hl _ | exact in3_spec _ _ (by omega) _ | exact idx_spec _ _ (by omega) _ | exact valueS_spec _ (hvo _ (List.getElem_mem _)) _ | exact (putO_plain trivial (ih _ (List.getElem_mem (by assumption)) mo (by have:=kidP_sz (t:=t) (by assumption);omega) (hl2.2.2.2.2 _ (List.getElem_mem (by assumption))) (by have:=kidP_dp (t:=t) (by assumption);rw [hmo,List.length_append];omega) _))) rfl ?_
    | refine awT_nil (by simp only [applyUps,List.nil_append,List.cons_append,List.append_assoc,List.length_append,List.length_cons,List.length_nil,Nat.add_assoc,Nat.reduceAdd,Nat.zero_add,S0,S2];rfl) ?_
    | refine awA_nil (by simp only [applyUps,List.nil_append,List.cons_append,S0,S2];rfl) ?_
    | refine awL_nil ?_
    | ((fail_if_success (clear hjq));(rcases Nat.lt_or_ge i t.args.length with hq | hq;rotate_left;focus (exfalso;omega));have hjq:True:=trivial;have hix2:=idxI_lt ns t.args[i].name)
    | ((fail_if_success (clear hjq));(rcases Nat.lt_or_ge m t.kids.length with hq | hq;rotate_left;focus (exfalso;omega));have hjq:True:=trivial;have hqk:=hq)
    | (refine awL_gno rfl ?_ rfl ?_;focus (simp only [S0,↓reduceIte,Nat.reduceEqDiff,Bool.not_true,Bool.not_false];done))
    | (refine awL_gyes rfl ?_ ?_;focus (simp only [S0,↓reduceIte,Nat.reduceEqDiff,Bool.not_true,Bool.not_false];done))
    | refine awL_hole rfl rfl rfl rfl ?_
    | (refine awL_gcase rfl rfl (fun hg => ?_) (fun hg => ?_) <;> (rw [hg];(try simp only [Int.ofNat_inj,not_true_eq_false,not_false_eq_true,Bool.false_eq_true,Bool.true_eq_false,decide_eq_true_eq,decide_eq_false_iff_not,Bool.not_eq_true,Bool.not_eq_false,Bool.not_eq_true',Bool.not_eq_false',Int.not_lt,Int.not_le,ne_eq,Decidable.not_not,List.length_map,Bool.and_eq_true,Bool.or_eq_true,Bool.and_eq_false_imp,Int.ofNat_lt,Int.ofNat_le] at hg);try (exfalso;omega)))
    | refine awL_S1 rfl rfl (by simp (disch:=omega) only [go_sem,↓reduceIte,Nat.reduceEqDiff,Nat.reduceAdd,Nat.reduceLeDiff,Nat.reduceMul,Nat.reduceSub,Nat.reduceLT,List.append_assoc,List.length_append,List.length_cons,List.length_nil,List.cons_append,List.nil_append,List.length_map,halfL_len,cellsP t,foldP t];rfl) ?_
    | refine awT_call rfl (by first | exact ent104 | exact ent22 | exact ent147 | exact ent176 | exact ent148) (by simp only [go_sem,↓reduceIte,Nat.reduceEqDiff,Nat.reduceAdd,Nat.reduceLeDiff,Nat.reduceMul,Nat.reduceSub,Nat.reduceLT,List.append_assoc,List.length_append,List.length_cons,List.length_nil,List.cons_append,List.nil_append,List.length_map,halfL_len,cellsP t,foldP t];rfl) (by intro st2 _;first | exact copyO_spec _ h hl _ | exact in3_spec _ _ (by omega) _ | exact idx_spec _ _ (by omega) _ | exact valueS_spec _ (hvo _ (List.getElem_mem _)) _ | exact (putO_plain trivial (ih _ (List.getElem_mem (by assumption)) mo (by have:=kidP_sz (t:=t) (by assumption);omega) (hl2.2.2.2.2 _ (List.getElem_mem (by assumption))) (by have:=kidP_dp (t:=t) (by assumption);rw [hmo,List.length_append];omega) _))) rfl ?_
    | refine awT_S1 rfl rfl (by simp (disch:=omega) only [go_sem,↓reduceIte,Nat.reduceEqDiff,Nat.reduceAdd,Nat.reduceLeDiff,Nat.reduceMul,Nat.reduceSub,Nat.reduceLT,List.append_assoc,List.length_append,List.length_cons,List.length_nil,List.cons_append,List.nil_append,List.length_map,halfL_len,cellsP t,foldP t];rfl) ?_
    | refine awA_call rfl (by first | exact ent104 | exact ent22 | exact ent147 | exact ent176 | exact ent148) (by simp only [go_sem,↓reduceIte,Nat.reduceEqDiff,Nat.reduceAdd,Nat.reduceLeDiff,Nat.reduceMul,Nat.reduceSub,Nat.reduceLT,List.append_assoc,List.length_append,List.length_cons,List.length_nil,List.cons_append,List.nil_append,List.length_map,halfL_len,cellsP t,foldP t];rfl) (by first | exact copyO_spec _ h hl _ | exact in3_spec _ _ (by omega) _ | exact idx_spec _ _ (by omega) _ | exact valueS_spec _ (hvo _ (List.getElem_mem _)) _ | exact (putO_plain trivial (ih _ (List.getElem_mem (by assumption)) mo (by have:=kidP_sz (t:=t) (by assumption);omega) (hl2.2.2.2.2 _ (List.getElem_mem (by assumption))) (by have:=kidP_dp (t:=t) (by assumption);rw [hmo,List.length_append];omega) _))) rfl ?_
    | refine awA_S1 rfl rfl (by simp (disch:=omega) only [go_sem,↓reduceIte,Nat.reduceEqDiff,Nat.reduceAdd,Nat.reduceLeDiff,Nat.reduceMul,Nat.reduceSub,Nat.reduceLT,List.append_assoc,List.length_append,List.length_cons,List.length_nil,List.cons_append,List.nil_append,List.length_map,halfL_len,cellsP t,foldP t];rfl) ?_
    | (refine AW.condK _ rfl (fun hb => ?_) (fun hb => ?_) <;> (try simp only [Int.ofNat_inj,not_true_eq_false,not_false_eq_true,Bool.false_eq_true,Bool.true_eq_false,decide_eq_true_eq,decide_eq_false_iff_not,Bool.not_eq_true,Bool.not_eq_false,Bool.not_eq_true',Bool.not_eq_false',Int.not_lt,Int.not_le,ne_eq,Decidable.not_not,List.length_map,Bool.and_eq_true,Bool.or_eq_true,Bool.and_eq_false_imp,Int.ofNat_lt,Int.ofNat_le] at hb) <;> try (exfalso;omega))
    | refine AW.block ?_
    | refine bq_s ?_
    | refine bq_o rfl ?_
    | refine tq_e ?_
    | refine AW.exit ?_
    | refine AW.skip ?_
    | refine useK (by assumption) ?_
    | (refine AW.loopS (α:={ i:Nat // i ≤ t.args.length }) 133 (fun i => [(1,.sl (ns.map .str) none),(2,.sl (vs.map encV) none),(3,.sl (bd.map .str) none),(4,.ptr st.length 0),(8,.ptr (st.length + 1) 0),(9,.ptr (st.length + 4) 0),(11,.int .i64 (i.1:Nat))]) (fun i => st ++ [.box 29 (encP t).cells,.box 29 ZP,.arr 36 3 1 ((halfL (putA ns vs bd) id i.1 t.args).map encV),.arr 29 12 t.kids.length (t.kids.map fun u => encP (copyP u)),.box 29 (.int .i64 t.kind :: .str (putC ns vs bd t.kind t.chan) :: .str t.var :: .sl (t.labels.map .str) none :: .ref (st.length + 2) 1 :: ((encT (raiseT 0 t.typ)).cells ++ [.ref (st.length + 3) t.kids.length]))]) (fun i => t.args.length - i.1) ⟨0,Nat.zero_le _⟩ rfl ?_ ?_ ?_;(focus (simp (disch:=omega) only [go_sem,↓reduceIte,Nat.reduceEqDiff,Nat.reduceAdd,Nat.reduceLeDiff,Nat.reduceMul,Nat.reduceSub,Nat.reduceLT,List.append_assoc,List.length_append,List.length_cons,List.length_nil,List.cons_append,List.nil_append,List.length_map,halfL_len];done));(focus ((try simp (disch:=first | omega | assumption) only [cellsP t,zpE,List.cons_append,List.nil_append,halfL_zero,List.map_id,putC_yes,putC_n1,putC_n2,putC_n3,putC_n4]);refine StLe.app ?_;repeat' (first | exact trivial | exact O.le_refl _ _ | refine O.le_box ?_ | exact V.le_refl _ _ | exact V.le_sl _ _ _ | exact V.le_nil _ | exact V.le_nil_tok (by rw [st_get];rfl) | exact V.le_nil_ref (by rw [st_get];rfl) | exact V.le_nil_ref (by rw [st_get0];rfl) | refine CLe.app ?_ | refine ⟨?_, ?_⟩)));rintro ⟨i,hi⟩ hlc;dsimp only)
    | (have hp:((halfL (putA ns vs bd) id i t.args).map encV).set i (encV vs[(idxI ns t.args[i].name).toNat]) = (halfL (putA ns vs bd) id (i + 1) t.args).map encV:=(by rw [← halfL_set (putA ns vs bd) id hq,putA_yes (by assumption) (by assumption) (by assumption) (by omega),List.map_set]);refine ⟨⟨i + 1,by omega⟩,by simp only [];omega,_,Nat.le_refl _,Nat.le_of_ble_eq_true rfl, ?_, ?_⟩ <;> (simp (disch:=omega) only [go_sem,↓reduceIte,Nat.reduceEqDiff,Nat.reduceAdd,Nat.reduceLeDiff,Nat.reduceMul,Nat.reduceSub,Nat.reduceLT,List.append_assoc,List.length_append,List.length_cons,List.length_nil,List.cons_append,List.nil_append,List.length_map,halfL_len,cellsP t,foldP t,hp,List.length_append,hlc.trim,hlc.trim_append,trimS_app hst];done))
    | (have hp:(halfL (putA ns vs bd) id (i + 1) t.args).map encV = (halfL (putA ns vs bd) id i t.args).map encV:=(by rw [halfL_keep (putA ns vs bd) id hq];first | (rw [putA_n1 (by assumption)];rfl) | (rw [putA_n2 (by assumption)];rfl) | (rw [putA_n3 (by assumption)];rfl));refine ⟨⟨i + 1,by omega⟩,by simp only [];omega,_,Nat.le_refl _,Nat.le_of_ble_eq_true rfl, ?_, ?_⟩ <;> (simp (disch:=omega) only [go_sem,↓reduceIte,Nat.reduceEqDiff,Nat.reduceAdd,Nat.reduceLeDiff,Nat.reduceMul,Nat.reduceSub,Nat.reduceLT,List.append_assoc,List.length_append,List.length_cons,List.length_nil,List.cons_append,List.nil_append,List.length_map,halfL_len,cellsP t,foldP t,hp,List.length_append,hlc.trim,hlc.trim_append,trimS_app hst]))
    | ((rcases Decidable.em (¬ t.kind = 3 ∧ ¬ t.kind = 6) with hz3 | hz3;rotate_left;(focus (exfalso;omega)));refine AW.loopS (α:={ m:Nat // m ≤ t.kids.length }) 133 (fun m => [(1,.sl (ns.map .str) none),(2,.sl (vs.map encV) none),(4,.ptr st.length 0),(8,.ptr (st.length + 1) 0),(9,.ptr (st.length + 4) 0),(13,.sl (mo.map .str) none),(14,.int .i64 (m.1:Nat))]) (fun m => st ++ [.box 29 (encP t).cells,.box 29 ZP,.arr 36 3 1 ((t.args.map (putA ns vs bd)).map encV),.arr 29 12 t.kids.length (halfL (fun u => encP (putP ns vs u mo)) (fun u => encP (copyP u)) m.1 t.kids),.box 29 (.int .i64 t.kind :: .str (putC ns vs bd t.kind t.chan) :: .str t.var :: .sl (t.labels.map .str) none :: .ref (st.length + 2) 1 :: ((encT (raiseT 0 t.typ)).cells ++ [.ref (st.length + 3) t.kids.length]))]) (fun m => t.kids.length - m.1) ⟨0,Nat.zero_le _⟩ rfl ?_ ?_ ?_;(focus (simp (disch:=omega) only [go_sem,↓reduceIte,Nat.reduceEqDiff,Nat.reduceAdd,Nat.reduceLeDiff,Nat.reduceMul,Nat.reduceSub,Nat.reduceLT,List.append_assoc,List.length_append,List.length_cons,List.length_nil,List.cons_append,List.nil_append,List.length_map,halfL_len,hmo,innerL_3,innerL_6,innerL_0,List.append_nil,List.append_assoc,List.cons_append,List.nil_append];done));(focus ((try simp (disch:=first | omega | assumption) only [cellsP t,zpE,List.cons_append,List.nil_append,halfL_zero,List.map_id,putC_yes,putC_n1,putC_n2,putC_n3,putC_n4,halfL_end]);refine StLe.app ?_;repeat' (first | exact trivial | exact O.le_refl _ _ | refine O.le_box ?_ | exact V.le_refl _ _ | exact V.le_sl _ _ _ | exact V.le_nil _ | exact V.le_nil_tok (by rw [st_get];rfl) | exact V.le_nil_ref (by rw [st_get];rfl) | exact V.le_nil_ref (by rw [st_get0];rfl) | refine CLe.app ?_ | refine ⟨?_, ?_⟩)));rintro ⟨m,hm⟩ hlc;dsimp only)
    | (have hp:(halfL (fun u => encP (putP ns vs u mo)) (fun u => encP (copyP u)) m t.kids).set m (encP (putP ns vs t.kids[m] mo)) = halfL (fun u => encP (putP ns vs u mo)) (fun u => encP (copyP u)) (m + 1) t.kids:=(halfL_set _ _ hqk);refine ⟨⟨m + 1,by omega⟩,by simp only [];omega,_,Nat.le_refl _,Nat.le_of_ble_eq_true rfl, ?_, ?_⟩ <;> (simp (disch:=omega) only [go_sem,↓reduceIte,Nat.reduceEqDiff,Nat.reduceAdd,Nat.reduceLeDiff,Nat.reduceMul,Nat.reduceSub,Nat.reduceLT,List.append_assoc,List.length_append,List.length_cons,List.length_nil,List.cons_append,List.nil_append,List.length_map,halfL_len,cellsP t,foldP t,hp,List.length_append,hlc.trim,hlc.trim_append,trimS_app hst]))
    | ((rcases Decidable.em (t.kind = 3) with hz3 | hz3;rotate_left;(focus (exfalso;omega)));refine AW.loopS (α:={ m:Nat // m ≤ t.kids.length }) 133 (fun m => [(1,.sl (ns.map .str) none),(2,.sl (vs.map encV) none),(4,.ptr st.length 0),(8,.ptr (st.length + 1) 0),(9,.ptr (st.length + 4) 0),(13,.sl (mo.map .str) none),(14,.int .i64 (m.1:Nat))]) (fun m => st ++ [.box 29 (encP t).cells,.box 29 ZP,.arr 36 3 1 ((t.args.map (putA ns vs bd)).map encV),.arr 29 12 t.kids.length (halfL (fun u => encP (putP ns vs u mo)) (fun u => encP (copyP u)) m.1 t.kids),.box 29 (.int .i64 t.kind :: .str (putC ns vs bd t.kind t.chan) :: .str t.var :: .sl (t.labels.map .str) none :: .ref (st.length + 2) 1 :: ((encT (raiseT 0 t.typ)).cells ++ [.ref (st.length + 3) t.kids.length])),.tok 9 1 (bd.length + 1),.tok 9 1 1]) (fun m => t.kids.length - m.1) ⟨0,Nat.zero_le _⟩ rfl ?_ ?_ ?_;(focus (simp (disch:=omega) only [go_sem,↓reduceIte,Nat.reduceEqDiff,Nat.reduceAdd,Nat.reduceLeDiff,Nat.reduceMul,Nat.reduceSub,Nat.reduceLT,List.append_assoc,List.length_append,List.length_cons,List.length_nil,List.cons_append,List.nil_append,List.length_map,halfL_len,hmo,innerL_3,innerL_6,innerL_0,List.append_nil,List.append_assoc,List.cons_append,List.nil_append];done));(focus ((try simp (disch:=first | omega | assumption) only [cellsP t,zpE,List.cons_append,List.nil_append,halfL_zero,List.map_id,putC_yes,putC_n1,putC_n2,putC_n3,putC_n4,halfL_end]);refine StLe.app ?_;repeat' (first | exact trivial | exact O.le_refl _ _ | refine O.le_box ?_ | exact V.le_refl _ _ | exact V.le_sl _ _ _ | exact V.le_nil _ | exact V.le_nil_tok (by rw [st_get];rfl) | exact V.le_nil_ref (by rw [st_get];rfl) | exact V.le_nil_ref (by rw [st_get0];rfl) | refine CLe.app ?_ | refine ⟨?_, ?_⟩)));rintro ⟨m,hm⟩ hlc;dsimp only)
    | (have hp:(halfL (fun u => encP (putP ns vs u mo)) (fun u => encP (copyP u)) m t.kids).set m (encP (putP ns vs t.kids[m] mo)) = halfL (fun u => encP (putP ns vs u mo)) (fun u => encP (copyP u)) (m + 1) t.kids:=(halfL_set _ _ hqk);refine ⟨⟨m + 1,by omega⟩,by simp only [];omega,_,Nat.le_refl _,Nat.le_of_ble_eq_true rfl, ?_, ?_⟩ <;> (simp (disch:=omega) only [go_sem,↓reduceIte,Nat.reduceEqDiff,Nat.reduceAdd,Nat.reduceLeDiff,Nat.reduceMul,Nat.reduceSub,Nat.reduceLT,List.append_assoc,List.length_append,List.length_cons,List.length_nil,List.cons_append,List.nil_append,List.length_map,halfL_len,cellsP t,foldP t,hp,List.length_append,hlc.trim,hlc.trim_append,trimS_app hst]))
    | ((rcases Decidable.em (t.kind = 6) with hz3 | hz3;rotate_left;(focus (exfalso;omega)));refine AW.loopS (α:={ m:Nat // m ≤ t.kids.length }) 133 (fun m => [(1,.sl (ns.map .str) none),(2,.sl (vs.map encV) none),(4,.ptr st.length 0),(8,.ptr (st.length + 1) 0),(9,.ptr (st.length + 4) 0),(13,.sl (mo.map .str) none),(14,.int .i64 (m.1:Nat))]) (fun m => st ++ [.box 29 (encP t).cells,.box 29 ZP,.arr 36 3 1 ((t.args.map (putA ns vs bd)).map encV),.arr 29 12 t.kids.length (halfL (fun u => encP (putP ns vs u mo)) (fun u => encP (copyP u)) m.1 t.kids),.box 29 (.int .i64 t.kind :: .str (putC ns vs bd t.kind t.chan) :: .str t.var :: .sl (t.labels.map .str) none :: .ref (st.length + 2) 1 :: ((encT (raiseT 0 t.typ)).cells ++ [.ref (st.length + 3) t.kids.length])),.tok 9 1 (bd.length + 2),.tok 9 1 2]) (fun m => t.kids.length - m.1) ⟨0,Nat.zero_le _⟩ rfl ?_ ?_ ?_;(focus (simp (disch:=omega) only [go_sem,↓reduceIte,Nat.reduceEqDiff,Nat.reduceAdd,Nat.reduceLeDiff,Nat.reduceMul,Nat.reduceSub,Nat.reduceLT,List.append_assoc,List.length_append,List.length_cons,List.length_nil,List.cons_append,List.nil_append,List.length_map,halfL_len,hmo,innerL_3,innerL_6,innerL_0,List.append_nil,List.append_assoc,List.cons_append,List.nil_append];done));(focus ((try simp (disch:=first | omega | assumption) only [cellsP t,zpE,List.cons_append,List.nil_append,halfL_zero,List.map_id,putC_yes,putC_n1,putC_n2,putC_n3,putC_n4,halfL_end]);refine StLe.app ?_;repeat' (first | exact trivial | exact O.le_refl _ _ | refine O.le_box ?_ | exact V.le_refl _ _ | exact V.le_sl _ _ _ | exact V.le_nil _ | exact V.le_nil_tok (by rw [st_get];rfl) | exact V.le_nil_ref (by rw [st_get];rfl) | exact V.le_nil_ref (by rw [st_get0];rfl) | refine CLe.app ?_ | refine ⟨?_, ?_⟩)));rintro ⟨m,hm⟩ hlc;dsimp only)
    | (have hp:(halfL (fun u => encP (putP ns vs u mo)) (fun u => encP (copyP u)) m t.kids).set m (encP (putP ns vs t.kids[m] mo)) = halfL (fun u => encP (putP ns vs u mo)) (fun u => encP (copyP u)) (m + 1) t.kids:=(halfL_set _ _ hqk);refine ⟨⟨m + 1,by omega⟩,by simp only [];omega,_,Nat.le_refl _,Nat.le_of_ble_eq_true rfl, ?_, ?_⟩ <;> (simp (disch:=omega) only [go_sem,↓reduceIte,Nat.reduceEqDiff,Nat.reduceAdd,Nat.reduceLeDiff,Nat.reduceMul,Nat.reduceSub,Nat.reduceLT,List.append_assoc,List.length_append,List.length_cons,List.length_nil,List.cons_append,List.nil_append,List.length_map,halfL_len,cellsP t,foldP t,hp,List.length_append,hlc.trim,hlc.trim_append,trimS_app hst]))
    | (refine AW.ret ?_;show (_ ∨ _) ∧ _;refine ⟨.inr rfl, ?_⟩;show resP _ _ _ [.cell 8 29] _;simp (disch:=omega) only [go_sem,↓reduceIte,Nat.reduceEqDiff,Nat.reduceAdd,Nat.reduceLeDiff,Nat.reduceMul,Nat.reduceSub,Nat.reduceLT,List.append_assoc,List.length_append,List.length_cons,List.length_nil,List.cons_append,List.nil_append,List.length_map,halfL_len,cellsP t,foldP t];refine ⟨st.length + 4,_,_,Nat.le_add_right _ _,V.le_refl _ _,StLe.refl _, ?_⟩;(try simp (disch:=omega) only [go_sem,↓reduceIte,Nat.reduceEqDiff,Nat.reduceAdd,Nat.reduceLeDiff,Nat.reduceMul,Nat.reduceSub,Nat.reduceLT,List.append_assoc,List.length_append,List.length_cons,List.length_nil,List.cons_append,List.nil_append,List.length_map,halfL_len,cellsP t,foldP t,hst.trim,hst.trim_append]))
  all_goals (rw [halfL_end _ _ (show t.kids.length ≤ m by omega),hmo];simp (disch:=omega) only [trimS_app hst,go_sem,cellsP t,List.take_succ_cons,List.take_zero,List.map_cons,List.map_nil])
end Tryz
end Go.Proofs
