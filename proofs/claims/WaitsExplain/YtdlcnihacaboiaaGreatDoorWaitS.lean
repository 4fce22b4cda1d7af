/-
  A part of the proof.
-/
import Derived.Test.YtdlcnihacaboiaaGreatDoorWaitC2
import Derived.Test.YtdlcnihacaboiaaGreatDoorGT
import Derived.Test.YtdlcnihacaboiaaGreatDoorGQ
import Derived.Test.YtdlcnihacaboiaaGreatDoorGL
import Derived.Test.YtdlcnihacaboiaaGreatDoorDS3
set_option linter.all false
namespace Go.Proofs
open Go Go.Duo
namespace Tryz
attribute [local irreducible] awL awA awT AW
set_option maxRecDepth 100000 in
set_option maxHeartbeats 8000000 in
theorem wlonely_spec (l:List Pr) (ch:List Ty) (hl:l.length ≤ 1000000) (h:∀ p ∈ l,thrP p) (st:List O):Duo.Call Tryz.prog Tryz.gl2 34 [.agg [.sl (l.map encP) none,.sl (ch.map encT) none]] st (fun v st' => v = .sl ((lonL l).map encN) none ∧ st' = st):=by
  refine Duo.Call.clo fun hst => ?_
  refine Duo.Call.body 22 [(0,.agg [.sl (l.map encP) none,.sl (ch.map encT) none])] Tryz.func34 rfl rfl ?_
  repeat' first
    | refine AW.seqK fun K hK => ?_
    | (refine hK _ _ ?_;clear hK K)
    | refine AW.region ?_
    | refine awL_call rfl (by exact ent28) (by simp only [go_sem,↓reduceIte,Nat.reduceEqDiff];rfl) (by exact wfor_spec l ch hl h _ (by assumption) _) rfl ?_
    | refine awL_nil ?_
    | refine awL_S1 rfl rfl (by simp (disch:=omega) only [go_sem,↓reduceIte,Nat.reduceEqDiff,Nat.reduceAdd,Nat.reduceLeDiff,Nat.reduceMul,Nat.reduceLT,List.length_map];rfl) ?_
    | (refine AW.condK _ rfl (fun hb => ?_) (fun hb => ?_) <;> (simp only [decide_eq_true_eq,decide_eq_false_iff_not] at hb) <;> skip)
    | refine AW.block ?_
    | refine bq_s ?_
    | refine AW.exit ?_
    | refine AW.skip ?_
    | refine useK (by assumption) ?_
    | (refine AW.tok 3 1 ?_;rw [List.append_assoc];simp only [List.cons_append,List.nil_append];refine AW.loopS (α:={ i:Nat // i ≤ l.length }) 22 (fun i => [(1,.ptr st.length 0),(3,.sl ((lonK l i.1).map encN) (some (st.length + 1))),(7,.int .i64 l.length),(8,.int .i64 (i.1:Nat))]) (fun i => st ++ [.box 59 [.sl (l.map encP) none,.sl (ch.map encT) none],.tok 3 1 (lonK l i.1).length]) (fun i => l.length - i.1) ⟨0,Nat.zero_le _⟩ rfl ?_ ?_ ?_;(focus (simp (disch:=omega) only [go_sem,↓reduceIte,Nat.reduceEqDiff,lonK_0,List.map_nil];done));(focus (simp (disch:=omega) only [go_sem,lonK_0,List.length_nil];done));rintro ⟨i,hi⟩ hlc;dsimp only;have hkl:=lonK_len (l:=l) (k:=i))
    | (have hp:=lonK_yes (l:=l) (k:=i) (by omega);refine ⟨⟨i + 1,by omega⟩,by simp only [];omega,_,Nat.le_refl _,Nat.le_of_ble_eq_true rfl, ?_, ?_⟩ <;> (simp (disch:=omega) only [go_sem,↓reduceIte,Nat.reduceEqDiff,Nat.reduceAdd,encN_mk,List.map_append,List.map_cons,List.map_nil,List.length_append,List.length_cons,List.length_nil,hp,List.length_append,trimS_app hst];done))
    | (have hp:=lonK_no (l:=l) (k:=i) (by omega);refine ⟨⟨i + 1,by omega⟩,by simp only [];omega,_,Nat.le_refl _,Nat.le_of_ble_eq_true rfl, ?_, ?_⟩ <;> (simp (disch:=omega) only [go_sem,↓reduceIte,Nat.reduceEqDiff,Nat.reduceAdd,List.map_cons,List.map_nil,List.length_append,List.length_cons,List.length_nil,hp,List.length_append,trimS_app hst]))
    | (refine AW.ret ?_;show (_ ∨ _) ∧ _;refine ⟨.inr rfl, ?_⟩;show resP _ _ _ [.tmp 2] _;simp (disch:=omega) only [go_sem,↓reduceIte];refine ⟨_,_,_,Nat.le_refl _,V.le_refl _ _,StLe.refl _, ?_⟩;(simp (disch:=omega) only [go_sem,hst.trim_append]))
  all_goals (((obtain rfl:i = l.length:=(by omega));rfl))
set_option maxRecDepth 100000 in
set_option maxHeartbeats 8000000 in
theorem meet_spec (a b:Pr) (hs:a.chan.length ≤ 2147483647) (st:List O):Duo.Call Tryz.prog Tryz.gl2 72 [encP a,encP b] st (fun v st' => v = .bool (meetL a b) ∧ st' = st):=by
  refine Duo.Call.clo fun hst => ?_
  refine Duo.Call.body 20 [(0,encP a),(1,encP b)] Tryz.func72 rfl rfl ?_
  repeat' first
    | refine AW.seqK fun K hK => ?_
    | (refine hK _ _ ?_;clear hK K)
    | refine AW.region ?_
    | refine awL_call rfl (by exact ent68) (by simp only [go_sem,↓reduceIte];rfl) (by exact rdual_spec a.chan (by omega) _) rfl ?_
    | refine awL_nil ?_
    | (refine awL_gno rfl ?_ rfl ?_;focus (simp only [S0,↓reduceIte,Nat.reduceEqDiff,Bool.not_true];done))
    | (refine awL_gyes rfl ?_ ?_;focus (simp only [S0,↓reduceIte,Nat.reduceEqDiff];done))
    | (refine awL_gcase rfl rfl (fun hg => ?_) (fun hg => ?_) <;> (rw [hg];(skip);skip))
    | refine awL_S1 rfl rfl (by simp (disch:=omega) only [go_sem,↓reduceIte,Nat.reduceEqDiff,Nat.reduceAdd,Nat.reduceLeDiff,Nat.reduceLT,cellsP a,cellsP b,dualV_eq];rfl) ?_
    | (refine AW.ret ?_;show (_ ∨ _) ∧ _;refine ⟨.inr rfl, ?_⟩;show resP _ _ _ [.tmp 4] _;simp (disch:=omega) only [go_sem,↓reduceIte];refine ⟨_,_,_,Nat.le_refl _,V.le_refl _ _,StLe.refl _, ?_⟩;(simp (disch:=omega) only [go_sem,hst.trim_append]))
  all_goals ((simp_all [meetL_eq];done))
set_option maxRecDepth 100000 in
set_option maxHeartbeats 8000000 in
theorem fit_spec (a b:Pr) (hL:hasL a) (hbl:b.labels.length ≤ 1000000) (st:List O):Duo.Call Tryz.prog Tryz.gl2 73 [encP a,encP b] st (fun v st' => v = .bool (fitL a b) ∧ st' = st):=by
  refine Duo.Call.clo fun hst => ?_
  have hL2:a.kind = 4 → 0 < a.labels.length:=fun h => List.length_pos_iff.2 (hL h)
  refine Duo.Call.body 32 [(0,encP a),(1,encP b)] Tryz.func73 rfl rfl ?_
  repeat' first
    | refine AW.seqK fun K hK => ?_
    | (refine hK _ _ ?_;clear hK K)
    | refine AW.region ?_
    | refine AW.any (id:=1) mix 24 (by decide +kernel) ?_
    | refine awL_call rfl (by exact ent22) (by simp only [go_sem,↓reduceIte,Nat.reduceEqDiff];rfl) (by exact inW_spec _ _ (by omega) _) rfl ?_
    | refine awA_nil (by simp only [applyUps,S0];rfl) ?_
    | refine awL_nil ?_
    | (refine awL_gno rfl ?_ rfl ?_;focus (simp only [S0,↓reduceIte,Nat.reduceEqDiff,Bool.not_true,Bool.not_false];done))
    | (refine awL_gyes rfl ?_ ?_;focus (simp only [S0,↓reduceIte,Nat.reduceEqDiff];done))
    | refine awL_hole rfl rfl rfl rfl ?_
    | refine awL_S1 rfl rfl (by simp (disch:=omega) only [go_sem,↓reduceIte,Nat.reduceEqDiff,cellsP a,cellsP b];rfl) ?_
    | (refine awA_gno rfl ?_ rfl ?_;focus (simp only [S0,↓reduceIte,Nat.reduceEqDiff,Bool.not_true,Bool.not_false];done))
    | (refine awA_gyes rfl ?_ ?_;focus (simp only [S0,↓reduceIte,Nat.reduceEqDiff];done))
    | refine awA_hole rfl rfl rfl rfl ?_
    | (refine awA_gcase rfl rfl (fun hg => ?_) (fun hg => ?_) <;> (rw [hg];(simp only [decide_eq_true_eq,decide_eq_false_iff_not] at hg);try (exfalso;omega)))
    | refine awA_S1 rfl rfl (by simp (disch:=omega) only [go_sem,↓reduceIte,Nat.reduceEqDiff,Nat.reduceAdd,Nat.reduceLeDiff,Nat.reduceLT,List.length_map];rfl) ?_
    | (refine AW.ret ?_;show (_ ∨ _) ∧ _;refine ⟨.inr rfl, ?_⟩;show resP _ _ _ [.tmp 4] _;simp (disch:=omega) only [go_sem,↓reduceIte];refine ⟨_,_,_,Nat.le_refl _,V.le_refl _ _,StLe.refl _, ?_⟩;(simp (disch:=omega) only [go_sem,hst.trim_append]))
  all_goals first | (simp_all [fitL];done) | (unfold fitL;rw [hdS_at (hL2 (by assumption))];clear hL;simp_all;done)
set_option maxRecDepth 100000 in
set_option maxHeartbeats 8000000 in
theorem rlist_spec (l:List Pr) (hn:l.length ≤ 1000000) (hL:∀ x ∈ l,hasL x) (hC:∀ x ∈ l,x.chan.length ≤ 2147483647) (hB:∀ x ∈ l,x.labels.length ≤ 1000000) (st:List O):Duo.Call Tryz.prog Tryz.gl2 39 [.sl (l.map encP) none] st (fun v st' => v = .sl ((listL l).map encR) none ∧ st' = st):=by
  refine Duo.Call.clo fun hst => ?_
  refine Duo.Call.body 65 [(0,.sl (l.map encP) none)] Tryz.func39 rfl rfl ?_
  repeat' first
    | refine AW.seqK fun K hK => ?_
    | (refine hK _ _ ?_;clear hK K)
    | refine AW.region ?_
    | refine AW.any (id:=8) mix 23 (by decide +kernel) ?_
    | refine awL_call rfl (by exact ent72) (by simp only [go_sem,↓reduceIte,Nat.reduceEqDiff];rfl) (by first | exact fit_spec _ _ (hL _ (List.getElem_mem _)) (hB _ (List.getElem_mem _)) _ | exact rendpoint_spec _ (Nat.le_trans (hC _ (List.getElem_mem _)) (by decide)) _) rfl ?_
    | refine awA_nil (by simp only [applyUps,S0];rfl) ?_
    | refine awL_nil ?_
    | (refine awL_gno rfl ?_ rfl ?_;focus (simp only [S0,↓reduceIte,Nat.reduceEqDiff,Bool.not_true];done))
    | (refine awL_gyes rfl ?_ ?_;focus (simp only [S0,↓reduceIte,Nat.reduceEqDiff];done))
    | refine awL_S1 rfl rfl (by simp (disch:=omega) only [go_sem,↓reduceIte,Nat.reduceEqDiff,Nat.reduceAdd,Nat.reduceLeDiff,Nat.reduceMul,Nat.reduceSub,Nat.reduceLT,List.length_map,epV_eq];rfl) ?_
    | refine awA_call rfl (by exact ent72) (by simp only [go_sem,↓reduceIte,Nat.reduceEqDiff];rfl) (by exact meet_spec _ _ (hC _ (List.getElem_mem _)) _) rfl ?_
    | (refine awA_gno rfl ?_ rfl ?_;focus (simp only [S0,↓reduceIte,Nat.reduceEqDiff,Bool.not_true];done))
    | (refine awA_gyes rfl ?_ ?_;focus (simp only [S0,↓reduceIte,Nat.reduceEqDiff];done))
    | (refine awA_gcase rfl rfl (fun hg => ?_) (fun hg => ?_) <;> (rw [hg];(try simp only [Int.ofNat_inj,decide_eq_true_eq,decide_eq_false_iff_not,Decidable.not_not] at hg);skip))
    | refine awA_S1 rfl rfl (by simp (disch:=omega) only [go_sem,↓reduceIte,Nat.reduceEqDiff,List.length_map];rfl) ?_
    | (refine AW.condK _ rfl (fun hb => ?_) (fun hb => ?_) <;> (try simp only [Bool.false_eq_true,decide_eq_true_eq,decide_eq_false_iff_not] at hb) <;> skip)
    | refine AW.block ?_
    | refine bq_s ?_
    | refine AW.exit ?_
    | refine AW.skip ?_
    | refine useK (by assumption) ?_
    | (refine AW.tok 77 4 ?_;refine AW.loopS (α:={ i:Nat // i ≤ l.length }) 65 (fun i => [(0,.sl (l.map encP) none),(3,.sl ((partL l.length (rxAt l) i.1 0).map encR) (some st.length)),(4,.int .i64 (i.1:Nat))]) (fun i => st ++ [.tok 77 4 (partL l.length (rxAt l) i.1 0).length]) (fun i => l.length - i.1) ⟨0,Nat.zero_le _⟩ rfl ?_ ?_ ?_;(focus (simp (disch:=omega) only [go_sem,↓reduceIte,Nat.reduceEqDiff,partL_zero,List.map_nil];done));(focus (simp (disch:=omega) only [go_sem,partL_zero,List.length_nil];done));rintro ⟨i,hi⟩ hlc;dsimp only)
    | (have hkn:k = l.length:=(by omega);subst hkn;refine ⟨⟨i + 1,by omega⟩,by simp only [];omega,_,Nat.le_refl _,Nat.le_of_ble_eq_true rfl, ?_, ?_⟩ <;> (simp (disch:=omega) only [go_sem,↓reduceIte,Nat.reduceEqDiff,partL_turn,List.map_cons,List.map_nil,List.length_append,List.length_cons,List.length_nil,List.length_append,trimS_app hst]))
    | (refine AW.loopS (α:={ k:Nat // k ≤ l.length }) 65 (fun k => [(0,.sl (l.map encP) none),(3,.sl ((partL l.length (rxAt l) i k.1).map encR) (some st.length)),(4,.int .i64 (i:Nat)),(5,.int .i64 (k.1:Nat))]) (fun k => st ++ [.tok 77 4 (partL l.length (rxAt l) i k.1).length]) (fun k => l.length - k.1) ⟨0,Nat.zero_le _⟩ rfl ?_ ?_ ?_;(focus (simp (disch:=omega) only [go_sem,↓reduceIte,Nat.reduceEqDiff];done));(focus (simp (disch:=omega) only [go_sem];done));rintro ⟨k,hk⟩ hlc;dsimp only;have hb2:=partL_len (n:=l.length) (f:=rxAt l) (i:=i) (k:=k) (by omega) hi hk)
    | (have hp:=partL_some (n:=l.length) (rxAt_some (i:=i) (k:=k) (by omega) (by omega) (by omega) (by assumption) (by assumption));have he9:encR ⟨(i:Int),(k:Int),epK l[i].chan,epP l[i].chan⟩ = .agg [.int .i64 i,.int .i64 k,.int .i64 (epK l[i].chan),.bool (epP l[i].chan)]:=rfl;refine ⟨⟨k + 1,by omega⟩,by simp only [];omega,_,Nat.le_refl _,Nat.le_of_ble_eq_true rfl, ?_, ?_⟩ <;> (simp (disch:=omega) only [go_sem,↓reduceIte,Nat.reduceEqDiff,List.map_append,List.map_cons,List.map_nil,List.length_append,List.length_cons,List.length_nil,hp,he9,List.length_append,trimS_app hst];done))
    | (have hp:=partL_none (n:=l.length) (rxAt_none (i:=i) (k:=k) (by omega) (by omega) (.inr (.inr (by assumption))));refine ⟨⟨k + 1,by omega⟩,by simp only [];omega,_,Nat.le_refl _,Nat.le_of_ble_eq_true rfl, ?_, ?_⟩ <;> (simp (disch:=omega) only [go_sem,↓reduceIte,Nat.reduceEqDiff,List.map_cons,List.map_nil,List.length_append,List.length_cons,List.length_nil,hp,List.length_append,trimS_app hst];done))
    | (have hp:=partL_none (n:=l.length) (rxAt_none (i:=i) (k:=k) (by omega) (by omega) (.inr (.inl (by assumption))));refine ⟨⟨k + 1,by omega⟩,by simp only [];omega,_,Nat.le_refl _,Nat.le_of_ble_eq_true rfl, ?_, ?_⟩ <;> (simp (disch:=omega) only [go_sem,↓reduceIte,Nat.reduceEqDiff,List.map_cons,List.map_nil,List.length_append,List.length_cons,List.length_nil,hp,List.length_append,trimS_app hst];done))
    | (have hp:=partL_none (n:=l.length) (rxAt_none (i:=i) (k:=k) (by omega) (by omega) (.inl (by omega)));refine ⟨⟨k + 1,by omega⟩,by simp only [];omega,_,Nat.le_refl _,Nat.le_of_ble_eq_true rfl, ?_, ?_⟩ <;> (simp (disch:=omega) only [go_sem,↓reduceIte,Nat.reduceEqDiff,List.map_cons,List.map_nil,List.length_append,List.length_cons,List.length_nil,hp,List.length_append,trimS_app hst]))
    | (refine AW.ret ?_;show (_ ∨ _) ∧ _;refine ⟨.inr rfl, ?_⟩;show resP _ _ _ [.tmp 2] _;simp (disch:=omega) only [go_sem,↓reduceIte];refine ⟨_,_,_,Nat.le_refl _,V.le_refl _ _,StLe.refl _, ?_⟩;(simp (disch:=omega) only [go_sem,hst.trim_append]))
  all_goals (have hin:i = l.length:=(by omega);subst hin;rw [partL_end];rfl)
set_option maxRecDepth 100000 in
set_option maxHeartbeats 8000000 in
theorem pick_spec (len:Nat) (n:Int) (hlen:len ≤ 1000000) (st:List O):Duo.Call Tryz.prog Tryz.gl2 61 [.int .i64 len,.int .i64 n] st (fun v st' => v = .int .i64 (pickI len n) ∧ st' = st):=by
  refine Duo.Call.clo fun hst => ?_
  refine Duo.Call.body 17 [(0,.int .i64 len),(1,.int .i64 n)] Tryz.func61 rfl rfl ?_
  repeat' first
    | refine AW.seqK fun K hK => ?_
    | (refine hK _ _ ?_;clear hK K)
    | refine AW.region ?_
    | refine awL_nil ?_
    | ((fail_if_success (clear hlo));(have hz:0 < len:=(by omega));have hlo:=tmod_lo n (show (0:Int) < len by omega);have hhi:=tmod_hi n (show (0:Int) < len by omega);have hle:=tmod_add n len;have hlq:=tmod_emod n len)
    | refine awL_S1 rfl rfl (by simp (disch:=omega) only [go_sem,↓reduceIte,Nat.reduceEqDiff];rfl) ?_
    | (refine AW.condK _ rfl (fun hb => ?_) (fun hb => ?_) <;> (simp only [decide_eq_true_eq,decide_eq_false_iff_not,Int.not_lt] at hb) <;> skip)
    | refine AW.skip ?_
    | (refine AW.ret ?_;show (_ ∨ _) ∧ _;refine ⟨.inr rfl, ?_⟩;show resP _ _ _ [.tmp 4] _;simp (disch:=omega) only [go_sem,↓reduceIte];refine ⟨_,_,_,Nat.le_refl _,V.le_refl _ _,StLe.refl _, ?_⟩;(simp (disch:=omega) only [go_sem,hst.trim]))
  all_goals first | ((obtain rfl:len = 0:=(by omega));rfl) | (rw [pickI,if_neg (by omega),← hle,Int.emod_eq_of_lt (by omega) (by omega)];done) | (rw [pickI,if_neg (by omega),← hlq,Int.emod_eq_of_lt (by omega) (by omega)];done)
def encE (e:Ev):V:=.agg [.int .i64 e.ch,.bool e.plus,.str e.label,.int .i64 e.val.kind,.str e.val.name,.int .i64 e.val.n]
theorem encE_mk (e:Ev):encE e = .agg [.int .i64 e.ch,.bool e.plus,.str e.label,.int .i64 e.val.kind,.str e.val.name,.int .i64 e.val.n]:=rfl
theorem addK_spec (p:Pg) (hw:p.defs.length ≤ 1000000) {n:Nat} {c c1:Cf} {q:Pr} (h:okF p n c q) (e:addF p n c q = c1) (st:List O):Duo.Call Tryz.prog Tryz.gl2 80 [encPg p,.agg [.sl (c.th.map encP) none,.sl (c.ch.map encT) none],encP q] st (fun v st' => v = .agg [.sl (c1.th.map encP) none,.sl (c1.ch.map encT) none] ∧ st' = st):=by
  subst e;exact up (add_spec p hw n c.th c.ch q h st)
theorem dropP12 (p:Pr):(encP p).cells.drop 12 = []:=by obtain ⟨k,c,v,l,a,t,ks⟩:=p;rw [encP_mk];obtain ⟨k,p,n,s,l,ks⟩:=t;rw [encT_mk];rfl
set_option maxRecDepth 100000 in
set_option maxHeartbeats 8000000 in
theorem doOut_spec (p:Pg) (hw:p.defs.length ≤ 1000000) (l:List Pr) (ch:List Ty) (hl:l.length ≤ 1000000) (a b:Nat) (c:Int) (s:Bool) (ha:a < l.length) (hb9:b < l.length) (kd:0 < l[a].kids.length) (c1 c2:Cf) (f1:okF p startN ⟨keepL l (⟨(a:Int),(b:Int),c,s⟩:Rx) l.length,ch⟩ l[a].kids[0]) (e1:addF p startN ⟨keepL l (⟨(a:Int),(b:Int),c,s⟩:Rx) l.length,ch⟩ l[a].kids[0] = c1) (h2:l[a].kind = 2) (al:0 < l[a].args.length) (bk:0 < l[b].kids.length) (hv:okV l[a].args[0]) (hz:l[b].kids[0].sz ≤ 1000) (hsm:smLP l[b].kids[0]) (f2:okF p startN c1 (putP [l[b].var] [l[a].args[0]] l[b].kids[0] [])) (e2:addF p startN c1 (putP [l[b].var] [l[a].args[0]] l[b].kids[0] []) = c2) (st:List O):Duo.Call Tryz.prog Tryz.gl2 62 [encPg p,.agg [.sl (l.map encP) none,.sl (ch.map encT) none],encR (⟨(a:Int),(b:Int),c,s⟩:Rx)] st (fun v st' => v = .tuple [.agg [.sl (c2.th.map encP) none,.sl (c2.ch.map encT) none],encE ⟨c,s,[],l[a].args[0]⟩] ∧ st' = st):=by
  refine Duo.Call.clo fun hst => ?_
  refine Duo.Call.body 123 [(0,encPg p),(1,.agg [.sl (l.map encP) none,.sl (ch.map encT) none]),(2,encR (⟨(a:Int),(b:Int),c,s⟩:Rx))] Tryz.func62 rfl rfl ?_
  repeat' first
    | (refine AW.anyL (id:=7) mix 17 16 [0,1,2,3,4,5,6,7,8,9,10,11,12,13,14] [15] _ (by decide +kernel) (Nat.le_of_ble_eq_true rfl) rfl rfl rfl (by decide +kernel) (by decide +kernel) (by decide +kernel) ?_;simp only [nopO,List.take_succ_cons,List.take_zero,List.set_cons_zero,List.set_cons_succ])
    | (refine AW.anyL (id:=21) mix 6 5 [0,1,2,3] [4] _ (by decide +kernel) (Nat.le_of_ble_eq_true rfl) rfl rfl rfl (by decide +kernel) (by decide +kernel) (by decide +kernel) ?_;simp only [nopO,List.take_succ_cons,List.take_zero,List.set_cons_zero,List.set_cons_succ])
    | refine AW.seqK fun K hK => ?_
    | (refine hK _ _ ?_;clear hK K)
    | refine AW.region ?_
    | refine AW.any (id:=19) mix 8 (by decide +kernel) ?_
    | refine AW.any (id:=20) mix 6 (by decide +kernel) ?_
    | refine awL_call rfl (by exact ent102) (by simp only [go_sem,↓reduceIte,Nat.reduceEqDiff];rfl) (by (exact Duo.Call.argle (by repeat' (first | exact trivial | exact V.le_refl _ _ | exact V.le_sl _ _ _ | (refine V.le_aggL ?_) | refine ⟨?_, ?_⟩)) (addK_spec p hw f1 e1 _))) rfl ?_
    | refine awA_nil (by simp only [applyUps,List.nil_append,List.cons_append,S0,S2];rfl) ?_
    | refine awL_nil ?_
    | (have hie:i = l.length:=(by omega);subst hie)
    | (refine awL_gno rfl ?_ rfl ?_;focus (simp only [S0,↓reduceIte,Nat.reduceEqDiff,Bool.not_true];done))
    | (refine awL_gyes rfl ?_ ?_;focus (simp only [S0,↓reduceIte,Nat.reduceEqDiff];done))
    | (refine awL_gcase rfl rfl (fun hg => ?_) (fun hg => ?_) <;> (rw [hg];(simp only [Int.ofNat_inj,decide_eq_true_eq,decide_eq_false_iff_not,Decidable.not_not] at hg);skip))
    | refine awL_S1 rfl rfl (by simp (disch:=omega) only [go_sem,↓reduceIte,Nat.reduceEqDiff,Nat.reduceAdd,Nat.reduceLeDiff,Nat.reduceLT,encR_cells,encV_cells,List.length_map];rfl) ?_
    | refine awA_call rfl (by exact ent102) (by simp only [go_sem,↓reduceIte,Nat.reduceEqDiff];rfl) (by first | exact up (rapply_spec l[b].kids[0] [l[b].var] [l[a].args[0]] rfl (by simp) (by simp) (fun x hx => by rw [List.mem_singleton] at hx;rw [hx];exact hv) hz hsm _) | exact addK_spec p hw f2 e2 _) rfl ?_
    | refine awA_S1 rfl rfl (by simp (disch:=omega) only [go_sem,↓reduceIte,Nat.reduceEqDiff,Nat.reduceAdd,Nat.reduceLeDiff,Nat.reduceMul,Nat.reduceLT,encV_cells,List.length_map];rfl) ?_
    | (refine AW.condK _ rfl (fun hb => ?_) (fun hb => ?_) <;> (simp only [Int.ofNat_inj,Bool.false_eq_true,decide_eq_true_eq,decide_eq_false_iff_not,Decidable.not_not] at hb) <;> try (exfalso;omega))
    | refine AW.block ?_
    | refine bq_s ?_
    | refine AW.exit ?_
    | refine AW.skip ?_
    | refine useK (by assumption) ?_
    | (refine AW.tok 29 12 ?_;rw [List.append_assoc];simp only [List.cons_append,List.nil_append];refine AW.loopS (α:={ i:Nat // i ≤ l.length }) 123 (fun i => [(3,.ptr st.length 0),(4,.ptr (st.length + 1) 0),(5,.ptr (st.length + 2) 0),(6,.ptr (st.length + 3) 0),(7,.ptr (st.length + 4) 0),(8,.ptr (st.length + 5) 0),(9,.ptr (st.length + 6) 0),(10,.ptr (st.length + 7) 0),(11,.ptr (st.length + 8) 0),(13,.ptr (st.length + 11) 0),(14,.int .i64 (i.1:Nat))]) (fun i => st ++ [.box 48 (encPg p).cells,.box 52 [.sl (l.map encP) none,.sl (ch.map encT) none],.box 77 [.int .i64 a,.int .i64 b,.int .i64 c,.bool s],.box 52 [.nil,.nil],.box 105 [.int .i64 0,.bool false,.str [],.int .i64 0,.str [],.int .i64 0],.box 29 (encP l[a]).cells,.box 29 (encP l[b]).cells,.box 105 [.int .i64 c,.bool s,.str [],.int .i64 (l[a].args[0]).kind,.str (l[a].args[0]).name,.int .i64 (l[a].args[0]).n],.box 29 (encP (putP [l[b].var] [l[a].args[0]] l[b].kids[0] [])).cells,.tok 9 1 1,.tok 36 3 1,.box 52 [.sl ((keepL l (⟨(a:Int),(b:Int),c,s⟩:Rx) i.1).map encP) (some (st.length + 12)),.sl (ch.map encT) none],.tok 29 12 (keepL l (⟨(a:Int),(b:Int),c,s⟩:Rx) i.1).length]) (fun i => l.length - i.1) ⟨0,Nat.zero_le _⟩ rfl ?_ ?_ ?_;(focus (simp (disch:=omega) only [go_sem,↓reduceIte,Nat.reduceEqDiff];done));(focus ((simp (disch:=first | omega | assumption) only [keepL_0,List.map_nil,List.length_nil]);refine StLe.app ?_;repeat' (first | exact trivial | exact O.le_refl _ _ | refine O.le_box ?_ | exact V.le_refl _ _ | exact V.le_nil_tok (by rw [st_get];rfl) | refine ⟨?_, ?_⟩)));rintro ⟨i,hi⟩ hlc;dsimp only;have hkl:=keepL_len (l:=l) (r:=(⟨(a:Int),(b:Int),c,s⟩:Rx)) (k:=i))
    | (have hp:=keepL_yes (l:=l) (r:=(⟨(a:Int),(b:Int),c,s⟩:Rx)) (k:=i) (by assumption) (show ¬ (i:Int) = (a:Int) by omega) (show ¬ (i:Int) = (b:Int) by omega);refine ⟨⟨i + 1,by omega⟩,by simp only [];omega,_,Nat.le_refl _,Nat.le_of_ble_eq_true rfl, ?_, ?_⟩ <;> (simp (disch:=omega) only [go_sem,↓reduceIte,Nat.reduceEqDiff,Nat.reduceAdd,List.map_append,List.map_cons,List.map_nil,List.length_append,List.length_cons,List.length_nil,hp,List.length_append,trimS_app hst];done))
    | (have hp:=keepL_no (l:=l) (r:=(⟨(a:Int),(b:Int),c,s⟩:Rx)) (k:=i) (.inl (show (i:Int) = (a:Int) by omega));refine ⟨⟨i + 1,by omega⟩,by simp only [];omega,_,Nat.le_refl _,Nat.le_of_ble_eq_true rfl, ?_, ?_⟩ <;> (simp (disch:=omega) only [go_sem,↓reduceIte,Nat.reduceEqDiff,Nat.reduceAdd,List.map_cons,List.map_nil,List.length_append,List.length_cons,List.length_nil,hp,List.length_append,trimS_app hst];done))
    | (have hp:=keepL_no (l:=l) (r:=(⟨(a:Int),(b:Int),c,s⟩:Rx)) (k:=i) (.inr (show (i:Int) = (b:Int) by omega));refine ⟨⟨i + 1,by omega⟩,by simp only [];omega,_,Nat.le_refl _,Nat.le_of_ble_eq_true rfl, ?_, ?_⟩ <;> (simp (disch:=omega) only [go_sem,↓reduceIte,Nat.reduceEqDiff,Nat.reduceAdd,List.map_cons,List.map_nil,List.length_append,List.length_cons,List.length_nil,hp,List.length_append,trimS_app hst]))
    | (show Exists _;refine late_S (by simp (disch:=omega) only [go_sem,↓reduceIte,Nat.reduceEqDiff,Nat.reduceAdd];rfl) ⟨awS_S rfl rfl rfl rfl (by simp (disch:=omega) only [go_sem,↓reduceIte,Nat.reduceEqDiff,Nat.reduceAdd,Nat.reduceLT];rfl) <| trivial, ?_⟩;simp only [List.drop_succ_cons,List.drop_zero])
    | (refine AW.ret ?_;show (_ ∨ _) ∧ _;refine ⟨.inr rfl, ?_⟩;show resP _ _ _ [.cell 6 52,.cell 7 105] _;simp (disch:=omega) only [go_sem,↓reduceIte,Nat.reduceEqDiff,Nat.reduceAdd,encE_mk];refine ⟨_,_,_,Nat.le_refl _,V.le_refl _ _,StLe.refl _, ?_⟩;(simp (disch:=omega) only [go_sem,hst.trim_append]))
  all_goals trace_state
set_option maxRecDepth 100000 in
set_option maxHeartbeats 8000000 in
theorem doSel_spec (p:Pg) (hw:p.defs.length ≤ 1000000) (l:List Pr) (ch:List Ty) (hl:l.length ≤ 1000000) (a b:Nat) (c:Int) (s:Bool) (ha:a < l.length) (hb9:b < l.length) (kd:0 < l[a].kids.length) (c1 c2:Cf) (f1:okF p startN ⟨keepL l (⟨(a:Int),(b:Int),c,s⟩:Rx) l.length,ch⟩ l[a].kids[0]) (e1:addF p startN ⟨keepL l (⟨(a:Int),(b:Int),c,s⟩:Rx) l.length,ch⟩ l[a].kids[0] = c1) (h2:¬ l[a].kind = 2) (al:0 < l[a].labels.length) (hbl:l[b].labels.length ≤ 1000000) (bk:l[b].labels.length ≤ l[b].kids.length) (f2:okF p startN c1 (lastK l[b] l[a].labels[0] l[b].labels.length)) (e2:addF p startN c1 (lastK l[b] l[a].labels[0] l[b].labels.length) = c2) (st:List O):Duo.Call Tryz.prog Tryz.gl2 62 [encPg p,.agg [.sl (l.map encP) none,.sl (ch.map encT) none],encR (⟨(a:Int),(b:Int),c,s⟩:Rx)] st (fun v st' => v = .tuple [.agg [.sl (c2.th.map encP) none,.sl (c2.ch.map encT) none],encE ⟨c,s,l[a].labels[0],Vl.zero⟩] ∧ st' = st):=by
  refine Duo.Call.clo fun hst => ?_
  refine Duo.Call.body 123 [(0,encPg p),(1,.agg [.sl (l.map encP) none,.sl (ch.map encT) none]),(2,encR (⟨(a:Int),(b:Int),c,s⟩:Rx))] Tryz.func62 rfl rfl ?_
  repeat' first
    | (refine AW.anyL (id:=21) mix 6 5 [0,1,2,3] [4] _ (by decide +kernel) (Nat.le_of_ble_eq_true rfl) rfl rfl rfl (by decide +kernel) (by decide +kernel) (by decide +kernel) ?_;simp only [nopO,List.take_succ_cons,List.take_zero,List.set_cons_zero,List.set_cons_succ])
    | refine AW.seqK fun K hK => ?_
    | (refine hK _ _ ?_;clear hK K)
    | refine AW.region ?_
    | refine AW.any (id:=12) mix 7 (by decide +kernel) ?_
    | refine AW.any (id:=19) mix 8 (by decide +kernel) ?_
    | refine AW.any (id:=20) mix 6 (by decide +kernel) ?_
    | refine awL_call rfl (by exact ent102) (by simp only [go_sem,↓reduceIte,Nat.reduceEqDiff];rfl) (by (exact Duo.Call.argle (by repeat' (first | exact trivial | exact V.le_refl _ _ | exact V.le_sl _ _ _ | (refine V.le_aggL ?_) | refine ⟨?_, ?_⟩)) (addK_spec p hw f1 e1 _))) rfl ?_
    | refine awA_nil (by simp only [applyUps,List.nil_append,List.cons_append,S0,S2];rfl) ?_
    | refine awL_nil ?_
    | (have hie:i = l.length:=(by omega);subst hie)
    | (have hie:i = l[b].labels.length:=(by omega);subst hie)
    | (refine awL_gno rfl ?_ rfl ?_;focus (simp only [S0,↓reduceIte,Nat.reduceEqDiff,Bool.not_true];done))
    | (refine awL_gyes rfl ?_ ?_;focus (simp only [S0,↓reduceIte,Nat.reduceEqDiff];done))
    | (refine awL_gcase rfl rfl (fun hg => ?_) (fun hg => ?_) <;> (rw [hg];(simp only [Int.ofNat_inj,decide_eq_true_eq,decide_eq_false_iff_not,Decidable.not_not] at hg);skip))
    | refine awL_S1 rfl rfl (by simp (disch:=omega) only [go_sem,↓reduceIte,Nat.reduceEqDiff,Nat.reduceAdd,Nat.reduceLeDiff,Nat.reduceLT,encR_cells,List.length_map];rfl) ?_
    | refine awA_call rfl (by exact ent102) (by simp only [go_sem,↓reduceIte,Nat.reduceEqDiff];rfl) (by exact addK_spec p hw f2 e2 _) rfl ?_
    | refine awA_S1 rfl rfl (by simp (disch:=omega) only [go_sem,↓reduceIte,Nat.reduceEqDiff,Nat.reduceAdd,Nat.reduceLeDiff,Nat.reduceMul,Nat.reduceLT,List.length_map];rfl) ?_
    | (refine AW.condK _ rfl (fun hb => ?_) (fun hb => ?_) <;> (simp only [Int.ofNat_inj,Bool.false_eq_true,decide_eq_true_eq,decide_eq_false_iff_not,Decidable.not_not] at hb) <;> try (exfalso;omega))
    | refine AW.block ?_
    | refine bq_s ?_
    | refine AW.exit ?_
    | refine AW.skip ?_
    | refine useK (by assumption) ?_
    | (refine AW.loopS (α:={ i:Nat // i ≤ l[b].labels.length }) 123 (fun i => [(3,.ptr st.length 0),(4,.ptr (st.length + 1) 0),(5,.ptr (st.length + 2) 0),(6,.ptr (st.length + 3) 0),(7,.ptr (st.length + 4) 0),(8,.ptr (st.length + 5) 0),(9,.ptr (st.length + 6) 0),(10,.ptr (st.length + 7) 0),(11,.ptr (st.length + 8) 0),(12,.int .i64 (i.1:Nat))]) (fun i => st ++ [.box 48 (encPg p).cells,.box 52 [.sl (l.map encP) none,.sl (ch.map encT) none],.box 77 [.int .i64 a,.int .i64 b,.int .i64 c,.bool s],.box 52 [.nil,.nil],.box 105 [.int .i64 0,.bool false,.str [],.int .i64 0,.str [],.int .i64 0],.box 29 (encP l[a]).cells,.box 29 (encP l[b]).cells,.box 105 [.int .i64 c,.bool s,.str l[a].labels[0],.int .i64 0,.str [],.int .i64 0],.box 29 (encP (lastK l[b] l[a].labels[0] i.1)).cells]) (fun i => l[b].labels.length - i.1) ⟨0,Nat.zero_le _⟩ rfl ?_ ?_ ?_;(focus (simp (disch:=omega) only [go_sem,↓reduceIte,Nat.reduceEqDiff];done));(focus ((simp (disch:=first | omega | assumption) only [lastK]);refine StLe.app ?_;repeat' (first | exact trivial | exact O.le_refl _ _ | refine O.le_box ?_ | exact V.le_refl _ _ | exact V.le_nil _ | refine ⟨?_, ?_⟩)));rintro ⟨i,hi⟩ hlc;dsimp only)
    | (have hp:=lastK_yes (q:=l[b]) (e:=l[a].labels[0]) (k:=i) (by omega) (by omega) (by assumption);refine ⟨⟨i + 1,by omega⟩,by simp only [];omega,_,Nat.le_refl _,Nat.le_of_ble_eq_true rfl, ?_, ?_⟩ <;> (simp (disch:=omega) only [go_sem,↓reduceIte,Nat.reduceEqDiff,Nat.reduceAdd,dropP12,List.append_nil,hp,List.length_append,trimS_app hst];done))
    | (have hp:=lastK_no (q:=l[b]) (e:=l[a].labels[0]) (k:=i) (by omega) (by assumption);refine ⟨⟨i + 1,by omega⟩,by simp only [];omega,_,Nat.le_refl _,Nat.le_of_ble_eq_true rfl, ?_, ?_⟩ <;> (simp (disch:=omega) only [go_sem,↓reduceIte,Nat.reduceEqDiff,Nat.reduceAdd,hp,List.length_append,trimS_app hst]))
    | (refine AW.tok 29 12 ?_;rw [List.append_assoc];simp only [List.cons_append,List.nil_append];refine AW.loopS (α:={ i:Nat // i ≤ l.length }) 123 (fun i => [(3,.ptr st.length 0),(4,.ptr (st.length + 1) 0),(5,.ptr (st.length + 2) 0),(6,.ptr (st.length + 3) 0),(7,.ptr (st.length + 4) 0),(8,.ptr (st.length + 5) 0),(9,.ptr (st.length + 6) 0),(10,.ptr (st.length + 7) 0),(11,.ptr (st.length + 8) 0),(13,.ptr (st.length + 9) 0),(14,.int .i64 (i.1:Nat))]) (fun i => st ++ [.box 48 (encPg p).cells,.box 52 [.sl (l.map encP) none,.sl (ch.map encT) none],.box 77 [.int .i64 a,.int .i64 b,.int .i64 c,.bool s],.box 52 [.nil,.nil],.box 105 [.int .i64 0,.bool false,.str [],.int .i64 0,.str [],.int .i64 0],.box 29 (encP l[a]).cells,.box 29 (encP l[b]).cells,.box 105 [.int .i64 c,.bool s,.str l[a].labels[0],.int .i64 0,.str [],.int .i64 0],.box 29 (encP (lastK l[b] l[a].labels[0] l[b].labels.length)).cells,.box 52 [.sl ((keepL l (⟨(a:Int),(b:Int),c,s⟩:Rx) i.1).map encP) (some (st.length + 10)),.sl (ch.map encT) none],.tok 29 12 (keepL l (⟨(a:Int),(b:Int),c,s⟩:Rx) i.1).length]) (fun i => l.length - i.1) ⟨0,Nat.zero_le _⟩ rfl ?_ ?_ ?_;(focus (simp (disch:=omega) only [go_sem,↓reduceIte,Nat.reduceEqDiff];done));(focus ((simp (disch:=first | omega | assumption) only [keepL_0,List.map_nil,List.length_nil]);refine StLe.app ?_;repeat' (first | exact trivial | exact O.le_refl _ _ | refine O.le_box ?_ | exact V.le_refl _ _ | exact V.le_nil_tok (by rw [st_get];rfl) | refine ⟨?_, ?_⟩)));rintro ⟨i,hi⟩ hlc;dsimp only;have hkl:=keepL_len (l:=l) (r:=(⟨(a:Int),(b:Int),c,s⟩:Rx)) (k:=i))
    | (have hp:=keepL_yes (l:=l) (r:=(⟨(a:Int),(b:Int),c,s⟩:Rx)) (k:=i) (by assumption) (show ¬ (i:Int) = (a:Int) by omega) (show ¬ (i:Int) = (b:Int) by omega);refine ⟨⟨i + 1,by omega⟩,by simp only [];omega,_,Nat.le_refl _,Nat.le_of_ble_eq_true rfl, ?_, ?_⟩ <;> (simp (disch:=omega) only [go_sem,↓reduceIte,Nat.reduceEqDiff,Nat.reduceAdd,List.map_append,List.map_cons,List.map_nil,List.length_append,List.length_cons,List.length_nil,hp,List.length_append,trimS_app hst];done))
    | (have hp:=keepL_no (l:=l) (r:=(⟨(a:Int),(b:Int),c,s⟩:Rx)) (k:=i) (.inl (show (i:Int) = (a:Int) by omega));refine ⟨⟨i + 1,by omega⟩,by simp only [];omega,_,Nat.le_refl _,Nat.le_of_ble_eq_true rfl, ?_, ?_⟩ <;> (simp (disch:=omega) only [go_sem,↓reduceIte,Nat.reduceEqDiff,Nat.reduceAdd,List.map_cons,List.map_nil,List.length_append,List.length_cons,List.length_nil,hp,List.length_append,trimS_app hst];done))
    | (have hp:=keepL_no (l:=l) (r:=(⟨(a:Int),(b:Int),c,s⟩:Rx)) (k:=i) (.inr (show (i:Int) = (b:Int) by omega));refine ⟨⟨i + 1,by omega⟩,by simp only [];omega,_,Nat.le_refl _,Nat.le_of_ble_eq_true rfl, ?_, ?_⟩ <;> (simp (disch:=omega) only [go_sem,↓reduceIte,Nat.reduceEqDiff,Nat.reduceAdd,List.map_cons,List.map_nil,List.length_append,List.length_cons,List.length_nil,hp,List.length_append,trimS_app hst]))
    | (show Exists _;refine late_S (by simp (disch:=omega) only [go_sem,↓reduceIte,Nat.reduceEqDiff,Nat.reduceAdd];rfl) ⟨awS_S rfl rfl rfl rfl (by simp (disch:=omega) only [go_sem,↓reduceIte,Nat.reduceEqDiff,Nat.reduceAdd];rfl) <| trivial, ?_⟩;simp only [List.drop_succ_cons,List.drop_zero])
    | (refine AW.ret ?_;show (_ ∨ _) ∧ _;refine ⟨.inr rfl, ?_⟩;show resP _ _ _ [.cell 6 52,.cell 7 105] _;simp (disch:=omega) only [go_sem,↓reduceIte,Nat.reduceEqDiff,Nat.reduceAdd,encE_mk];refine ⟨_,_,_,Nat.le_refl _,V.le_refl _ _,StLe.refl _, ?_⟩;(simp (disch:=omega) only [go_sem,hst.trim_append]))
  all_goals rfl
end Tryz
end Go.Proofs
