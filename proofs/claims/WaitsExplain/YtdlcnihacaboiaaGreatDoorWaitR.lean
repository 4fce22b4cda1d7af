/-
  A part of the proof.
-/
import Derived.Test.YtdlcnihacaboiaaGreatDoorWaitS
import Derived.Test.YtdlcnihacaboiaaGreatDoorGU
import Derived.Test.YtdlcnihacaboiaaGreatDoorGL
import Derived.Test.YtdlcnihacaboiaaGreatDoorDS3
set_option linter.all false
namespace Go.Proofs
open Go Go.Duo
namespace Tryz
attribute [local irreducible] awL awA awT AW
theorem smL_smU:∀ t:Ty,smL t → smU t:=Ty.ind' fun t ih h => (smU_iff t).2 ⟨by have:=((smL_iff t).1 h).1;omega,fun u hu => ih u hu (((smL_iff t).1 h).2 u hu)⟩
theorem smLP_smA:∀ q:Pr,smLP q → smA q:=Pr.ind' fun q ih h => by
  obtain ⟨h1,h2,h3,h4,h5⟩:=(smLP_iff q).1 h
  exact (smA_iff q).2 ⟨by omega,by omega,smL_smU _ h4,fun u hu => ih u hu (h5 u hu)⟩
theorem thrG_smLP {p:Pg} {x:Pr} (h:thrG p x):smLP x:=goodP_smLP _ _ _ h.good
theorem thrG_thrP {p:Pg} {x:Pr} (h:thrG p x):thrP x where
  pre:=h.pre
  sm:=smLP_smA _ (thrG_smLP h)
  cl:=by have:=h.short;unfold short at this;omega
  sz:=by have:=h.sz;omega
  dp:=by have:=Pr.dp_le x;have:=h.sz;omega
  lp:=thrG_smLP h
  cp:=h.cp
theorem cf_thrP {p:Pg} {c:Cf} (h:cfOK p c):∀ x ∈ c.th,thrP x:=fun x hx => thrG_thrP (h.thr x hx)
theorem rlistC_spec (p:Pg) (c:Cf) (h:cfOK p c) (st:List O):Duo.Call Tryz.prog Tryz.gl2 39 [.sl (c.th.map encP) none] st (fun v st' => v = .sl ((listL c.th).map encR) none ∧ st' = st) :=
  rlist_spec c.th (by have:=h.tl;omega) (fun x hx => (h.thr x hx).hasL) (fun x hx => (cf_thrP h x hx).cl) (fun x hx => ((smLP_iff x).1 (cf_thrP h x hx).lp).1) st
theorem do_spec (p:Pg) (hw:p.defs.length ≤ 1000000) (c:Cf) (r:Rx) (hc:cfOK p c) {a b:Nat} (h:doG p c r a b) (st:List O):Duo.Call Tryz.prog Tryz.gl2 62 [encPg p,.agg [.sl (c.th.map encP) none,.sl (c.ch.map encT) none],encR r] st (fun v st' => v = .tuple [.agg [.sl ((doC p c r).th.map encP) none,.sl ((doC p c r).ch.map encT) none],encE (evC c r)] ∧ st' = st):=by
  obtain ⟨o,i,k,s⟩:=r
  have eo:=h.rx.eo
  have ei:=h.rx.ei
  simp only at eo ei
  subst eo ei
  have ha:=h.rx.ol
  have hb:=h.rx.il
  have h1:=hc.thr _ (List.getElem_mem ha)
  have h2:=hc.thr _ (List.getElem_mem hb)
  have hz2:=h2.sz
  have hk2:=(smLP_iff _).1 (thrG_smLP h2)
  have g1:c.th.getD ((a:Nat):Int).toNat .z = c.th[a]:=getD_o rfl ha
  have g2:c.th.getD ((b:Nat):Int).toNat .z = c.th[b]:=getD_o rfl hb
  have f2:=h.f2
  have e1:doC p c ⟨a,b,k,s⟩ = addF p startN (addF p startN ⟨keepL c.th ⟨a,b,k,s⟩ c.th.length,c.ch⟩ (c.th[a].kids[0]'h.kd)) (restP c.th[a] c.th[b]):=by
    unfold doC doC1;simp only [g1,g2,hdP_at h.kd]
  have e2:doC1 p c ⟨a,b,k,s⟩ = addF p startN ⟨keepL c.th ⟨a,b,k,s⟩ c.th.length,c.ch⟩ (c.th[a].kids[0]'h.kd):=by
    unfold doC1;simp only [g1,hdP_at h.kd]
  have e3:evC c ⟨a,b,k,s⟩ = evP c.th[a] ⟨a,b,k,s⟩:=by unfold evC;simp only [g1]
  rw [e2] at f2
  rw [e1,e3]
  have htl:=hc.tl
  by_cases hk:c.th[a].kind = 2
  · obtain ⟨al,bk⟩:=h.a2 hk
    have er:restP c.th[a] c.th[b] = putP [c.th[b].var] [c.th[a].args[0]] c.th[b].kids[0] []:=by unfold restP;rw [if_pos hk,hdV_at al,hdP_at bk]
    have ev:evP c.th[a] ⟨a,b,k,s⟩ = ⟨k,s,[],c.th[a].args[0]⟩:=by unfold evP;rw [if_pos hk,if_pos hk,hdV_at al]
    rw [er] at f2
    rw [er,ev]
    have hkz:=kidP_lt (List.getElem_mem bk)
    exact doOut_spec p hw c.th c.ch (by omega) a b k s ha hb h.kd _ _ h.f1 rfl hk al bk (thr_args h1 _ (List.getElem_mem al)).1 (by omega) (hk2.2.2.2.2 _ (List.getElem_mem bk)) f2 rfl st
  · obtain ⟨al,bk⟩:=h.a4 hk
    have er:restP c.th[a] c.th[b] = lastK c.th[b] c.th[a].labels[0] c.th[b].labels.length:=by unfold restP;rw [if_neg hk,hdS_at al]
    have ev:evP c.th[a] ⟨a,b,k,s⟩ = ⟨k,s,c.th[a].labels[0],Vl.zero⟩:=by unfold evP;rw [if_neg hk,if_neg hk,hdS_at al]
    rw [er] at f2
    rw [er,ev]
    exact doSel_spec p hw c.th c.ch (by omega) a b k s ha hb h.kd _ _ h.f1 rfl hk al hk2.1 bk f2 rfl st
theorem takeI (m:List Int) (k:Nat):(m.map encI).take k = (m.take k).map encI:=by rw [List.map_take]
theorem allI (m:List Int):((m.map encI).all fun e => e.cells.length == 1) = true:=by simp [encI,V.cells]
theorem runE_nil (p:Pg):runE p [] = (startC p,[]):=rfl
theorem encI_mk (n:Int):encI n = .int .i64 n:=rfl
theorem pgG_dl {p:Pg} (h:pgG p):p.defs.length ≤ 1000000:=by have:=h.dl;omega
theorem list_len {l:List Pr} (h:l.length ≤ 1000):(listL l).length ≤ 1000000:=by
  unfold listL
  rw [← partL_end]
  have h1:=range_flat_le l.length (rxAt l) l.length
  have h3:l.length * l.length ≤ 1000 * 1000:=Nat.mul_le_mul h h
  rw [partL,List.length_append]
  simp only [List.range_zero,List.filterMap_nil,List.length_nil]
  omega
set_option maxRecDepth 100000 in
set_option maxHeartbeats 8000000 in
theorem run_spec (p:Pg) (h:pgG p) (s:List Int) (hs:s.length ≤ 1000000) (hf:fewK p s s.length) (st:List O):Duo.Call Tryz.prog Tryz.gl2 25 [encPg p,.sl (s.map encI) none] st (fun v st' => v = .tuple [.agg [.sl ((runE p s).1.th.map encP) none,.sl ((runE p s).1.ch.map encT) none],.sl ((runE p s).2.map encE) none] ∧ st' = st):=by
  refine Duo.Call.clo fun hst => ?_
  have hw:=pgG_dl h
  refine Duo.Call.body 52 [(0,encPg p),(1,.sl (s.map encI) none)] Tryz.func25 rfl rfl ?_
  repeat' first
    | (refine AW.anyL (id:=10) mix 13 12 [0,1,2,3,4,5,6,7,8,10,11] [9] _ (by decide +kernel) (Nat.le_of_ble_eq_true rfl) rfl rfl rfl (by decide +kernel) (by decide +kernel) (by decide +kernel) ?_;simp only [nopO,List.take_succ_cons,List.take_zero,List.set_cons_zero,List.set_cons_succ])
    | refine AW.seqK fun K hK => ?_
    | (refine hK _ _ ?_;clear hK K)
    | refine AW.region ?_
    | refine awL_call rfl (by exact ent44) (by simp only [go_sem,↓reduceIte,Nat.reduceEqDiff];rfl) (by first | exact up (start_spec p hw startN (start_cf h).1 _) | exact rlistC_spec p _ hcf _ | exact pick_spec _ _ (list_len (by have:=hfw.1;omega)) _) rfl ?_
    | refine awA_nil (by simp only [applyUps,List.nil_append,List.cons_append,S0,S2];rfl) ?_
    | refine awL_nil ?_
    | ((fail_if_success (clear hcf));(rcases Nat.lt_or_ge i s.length with hil | hil;rotate_left;focus (exfalso;omega));have hcf:=run_cf h s i (by omega) (fun m hm => hf m (by omega));have hfw:=hf i hil)
    | ((fail_if_success (clear hdo));(have hz:0 < (listL (runE p (s.take i)).1.th).length:=(by omega));have hpk:=pick_at hz s[i];rcases hpk with ⟨m,hm1,hm2,hm3⟩;have hdo:=do_good h.hd hcf hfw (List.getElem_mem hm1);rcases hdo with ⟨a,b,hdo⟩;rw [hm2])
    | refine awL_S1 rfl rfl (by simp (disch:=omega) only [go_sem,↓reduceIte,Nat.reduceEqDiff,Nat.reduceAdd,Nat.reduceLeDiff,Nat.reduceMul,Nat.reduceLT,List.length_map,encI_mk];rfl) ?_
    | refine awA_call rfl (by exact ent44) (by simp only [go_sem,↓reduceIte,Nat.reduceEqDiff];rfl) (by exact do_spec p hw _ _ hcf hdo _) rfl ?_
    | refine awA_S1 rfl rfl (by simp (disch:=omega) only [go_sem,↓reduceIte,Nat.reduceEqDiff,Nat.reduceAdd,Nat.reduceLT,List.length_map,encE_mk,encR_cells];rfl) ?_
    | (refine AW.condK _ rfl (fun hb => ?_) (fun hb => ?_) <;> (simp only [decide_eq_true_eq,decide_eq_false_iff_not,pick_neg] at hb) <;> skip)
    | refine AW.block ?_
    | refine bq_s ?_
    | refine AW.exit ?_
    | refine AW.skip ?_
    | refine useK (by assumption) ?_
    | (refine AW.tok 105 6 ?_;rw [List.append_assoc];simp only [List.cons_append,List.nil_append];refine AW.loopS (α:={ i:Nat // i ≤ s.length }) 52 (fun i => [(1,.sl (s.map encI) none),(2,.ptr st.length 0),(4,.ptr (st.length + 1) 0),(6,.ptr (st.length + 2) 0),(7,.sl ((runE p (s.take i.1)).2.map encE) (some (st.length + 3))),(8,.int .i64 (i.1:Nat))]) (fun i => st ++ [.box 48 (encPg p).cells,.box 52 [.nil,.nil],.box 52 [.sl ((runE p (s.take i.1)).1.th.map encP) none,.sl ((runE p (s.take i.1)).1.ch.map encT) none],.tok 105 6 (runE p (s.take i.1)).2.length]) (fun i => s.length - i.1) ⟨0,Nat.zero_le _⟩ rfl ?_ ?_ ?_;(focus (simp (disch:=omega) only [go_sem,↓reduceIte,Nat.reduceEqDiff,List.take_zero,runE_nil,startC,List.map_nil];exact V.le_nil_tok (by rw [st_get];rfl)));(focus (simp (disch:=omega) only [go_sem,List.take_zero,runE_nil,startC,List.length_nil];done));rintro ⟨i,hi⟩ hlc;dsimp only;have hel:=runE_len p (s.take i);rw [List.length_take] at hel)
    | (have hp:runE p (s.take (i + 1)) = (doC p (runE p (s.take i)).1 (listL (runE p (s.take i)).1.th)[m],(runE p (s.take i)).2 ++ [evC (runE p (s.take i)).1 (listL (runE p (s.take i)).1.th)[m]]):=(by rw [runE_at p (by omega),stepC_yes (by omega),hm3]);refine ⟨⟨i + 1,by omega⟩,by simp only [];omega,_,Nat.le_refl _,Nat.le_of_ble_eq_true rfl, ?_, ?_⟩ <;> (simp (disch:=omega) only [go_sem,↓reduceIte,Nat.reduceEqDiff,Nat.reduceAdd,encE_mk,List.map_append,List.map_cons,List.map_nil,List.length_append,List.length_cons,List.length_nil,hp,List.length_append,trimS_app hst]))
    | (show Exists _;refine late_S (by simp (disch:=omega) only [go_sem,↓reduceIte,Nat.reduceEqDiff,Nat.reduceAdd];rfl) ⟨awS_S rfl rfl rfl rfl (by simp (disch:=omega) only [go_sem,↓reduceIte,Nat.reduceEqDiff,Nat.reduceAdd,Nat.reduceLT];rfl) <| trivial, ?_⟩;simp only [List.drop_succ_cons,List.drop_zero])
    | (refine AW.ret ?_;show (_ ∨ _) ∧ _;refine ⟨.inr rfl, ?_⟩;show resP _ _ _ [.cell 4 52,.tmp 5] _;simp (disch:=omega) only [go_sem,↓reduceIte,Nat.reduceEqDiff,Nat.reduceAdd];refine ⟨_,_,_,Nat.le_refl _,V.le_refl _ _,StLe.refl _, ?_⟩;(simp (disch:=omega) only [go_sem,hst.trim_append]))
  all_goals first | (rw [runE_stuck (p:=p) (s:=s) (i:=i) (by assumption)];done) | (rw [List.take_of_length_le (show s.length ≤ i by omega)];done)
set_option maxRecDepth 100000 in
set_option maxHeartbeats 8000000 in
theorem fewS_spec (p:Pg) (hp:okPg p) (s:List Int) (hs:s.length ≤ 9223372036854775807) (st:List O):Duo.Call Tryz.prog Tryz.gl2 24 [encPg p,.sl (s.map encI) none] st (fun v st' => v = .bool (fewS p s) ∧ st' = st):=by
  refine Duo.Call.clo fun hst => ?_
  refine Duo.Call.body 40 [(0,encPg p),(1,.sl (s.map encI) none)] Tryz.func24 rfl rfl ?_
  repeat' first
    | (refine AW.anyL (id:=6) mix 10 9 [0,1,2,3,4,5,6,8] [7] _ (by decide +kernel) (Nat.le_of_ble_eq_true rfl) rfl rfl rfl (by decide +kernel) (by decide +kernel) (by decide +kernel) ?_;simp only [nopO,List.take_succ_cons,List.take_zero,List.set_cons_zero,List.set_cons_succ])
    | refine AW.seqK fun K hK => ?_
    | (refine hK _ _ ?_;clear hK K)
    | refine AW.region ?_
    | refine awL_call rfl (by exact ent42) (by simp only [go_sem,↓reduceIte];rfl) (by exact up (right_spec p 60 (by omega) (by omega) hp _)) rfl ?_
    | refine awA_nil (by simp only [applyUps,List.nil_append,List.cons_append,S0,S2];rfl) ?_
    | refine awL_nil ?_
    | (refine awL_gno rfl ?_ rfl ?_;focus (simp only [S0,↓reduceIte,Nat.reduceEqDiff,Bool.not_false];done))
    | (refine awL_gyes rfl ?_ ?_;focus (simp only [S0,↓reduceIte,Nat.reduceEqDiff];done))
    | (refine awL_gcase rfl rfl (fun hg => ?_) (fun hg => ?_) <;> (rw [hg];(simp only [decide_eq_true_eq,decide_eq_false_iff_not,Bool.not_eq_true',Bool.not_eq_false',Int.not_lt] at hg);skip))
    | refine awL_S1 rfl rfl (by simp (disch:=omega) only [go_sem,↓reduceIte,Nat.reduceEqDiff,Nat.reduceAdd,Nat.reduceLeDiff,Nat.reduceLT,List.length_map];rfl) ?_
    | refine awA_call rfl (by exact ent42) (by simp only [go_sem,↓reduceIte,Nat.reduceEqDiff];rfl) (by (exact run_spec p (right_pgG (n:=60) (by omega) hp hr9) (s.take n) (by rw [List.length_take];omega) (fewK_take hfk) _)) rfl ?_
    | refine awA_S1 rfl rfl (by simp (disch:=omega) only [go_sem,↓reduceIte,Nat.reduceEqDiff,Nat.reduceAdd,Nat.reduceLT,List.length_map,takeI,allI];rfl) ?_
    | (refine AW.condK _ rfl (fun hb => ?_) (fun hb => ?_) <;> (simp only [Bool.true_eq_false,decide_eq_true_eq,decide_eq_false_iff_not,Int.not_lt,Int.ofNat_le] at hb) <;> skip)
    | refine AW.block ?_
    | refine bq_s ?_
    | refine AW.exit ?_
    | refine AW.skip ?_
    | refine useK (by assumption) ?_
    | (refine AW.loopS (α:={ n:Nat // n ≤ s.length + 1 ∧ fewK p s n }) 40 (fun n => [(1,.sl (s.map encI) none),(2,.ptr st.length 0),(5,.int .i64 (n.1:Nat))]) (fun n => st ++ [.box 48 (encPg p).cells]) (fun n => s.length + 1 - n.1) ⟨0,Nat.zero_le _,fun m hm => by omega⟩ rfl ?_ ?_ ?_;(focus (simp (disch:=omega) only [go_sem,↓reduceIte,Nat.reduceEqDiff];done));(focus (simp (disch:=omega) only [go_sem];done));have hr9:rightPg p 60 = true:=(by assumption);have hs9:s.length ≤ 20:=(by omega);rintro ⟨n,hn,hfk⟩ hlc;dsimp only)
    | (refine ⟨⟨n + 1,by omega,fewK_step hfk ⟨by omega,by omega⟩⟩,by simp only [];omega,_,Nat.le_refl _,Nat.le_of_ble_eq_true rfl, ?_, ?_⟩ <;> (simp (disch:=omega) only [go_sem,↓reduceIte,Nat.reduceEqDiff,List.length_append,trimS_app hst]))
    | (show Exists _;refine late_S (by simp (disch:=omega) only [go_sem,↓reduceIte,Nat.reduceEqDiff,Nat.reduceAdd];rfl) ⟨awS_S rfl rfl rfl rfl (by simp (disch:=omega) only [go_sem,↓reduceIte,Nat.reduceEqDiff,Nat.reduceAdd,Nat.reduceLT];rfl) <| trivial, ?_⟩;simp only [List.drop_succ_cons,List.drop_zero])
    | (refine AW.ret ?_;show (_ ∨ _) ∧ _;refine ⟨.inr rfl, ?_⟩;show resP _ _ _ [.tmp 4] _;simp (disch:=omega) only [go_sem,↓reduceIte];refine ⟨_,_,_,Nat.le_refl _,V.le_refl _ _,StLe.refl _, ?_⟩;(simp (disch:=omega) only [go_sem,hst.trim_append]))
  all_goals first | (rw [fewS_1 (by assumption)];done) | (rw [fewS_2 (by omega)];done) | (rw [fewS_3 (n:=n) (by omega) (fun hc => by have:=hc.1;have:=hc.2;omega)];done) | (rw [fewS_iff.2 ⟨hr9,hs9,fun m hm => hfk m (by omega)⟩];done)
end Tryz
end Go.Proofs
