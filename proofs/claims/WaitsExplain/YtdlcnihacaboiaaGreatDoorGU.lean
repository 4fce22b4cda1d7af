/-
  A part of the proof.
-/
import Derived.Test.YtdlcnihacaboiaaGreatDoorSubLib
import Derived.Test.YtdlcnihacaboiaaGreatDoorGM
import Derived.Test.YtdlcnihacaboiaaGreatDoorDS3
import Derived.Test.YtdlcnihacaboiaaGreatDoorDLate3
import Derived.Test.YtdlcnihacaboiaaGreatDoorGI
import Derived.Test.YtdlcnihacaboiaaGreatDoorGN
import Derived.Test.YtdlcnihacaboiaaGreatDoorZProgF
set_option linter.all false
namespace Go.Proofs
open Go Go.Duo
namespace Tryz
attribute [local irreducible] awL awA awT AW
set_option maxRecDepth 100000 in
set_option maxHeartbeats 8000000 in
theorem nodeC_spec (w:Pg) (hw:w.defs.length ≤ 1000000):∀ (t:Pr) (sc:List Str) (g:Bool) (ho:okP t) (hz:t.sz ≤ 1000000) (hn:sc.length + 2 * t.dp ≤ 1000000) (st:List O),Duo.Call Tryz.prog Tryz.gl 111 [encPg w,encP t,.sl (sc.map .str) none,.bool g] st (fun v st' => v = .int .i64 (nodeC w t sc g) ∧ st' = st):=Pr.ind' fun t ih => by
  intro sc g ho hz hn st
  refine Duo.Call.clo fun hst => ?_
  have h4:=ho.args
  have hzl:=Pr.szs_len t.kids
  have hzz:=Pr.sz_eq t
  have hfl:=findI_lt w.defs t.chan
  have hil:=innerL_len t
  have hdp:=Pr.dp_eq t
  obtain ⟨inn,hin⟩:∃ inn,inn = sc ++ innerL t:=⟨_,rfl⟩
  have hinl:inn.length = sc.length + (innerL t).length:=by rw [hin,List.length_append]
  refine Duo.Call.body 141 [(0,encPg w),(1,encP t),(2,.sl (sc.map .str) none),(3,.bool g)] Tryz.func111 rfl rfl ?_
  repeat' first
    | refine AW.seqK fun K hK => ?_
    | (refine hK _ _ ?_;clear hK K)
    | refine AW.region ?_
    | refine AW.any (id:=22) mix 10 (by decide +kernel) ?_
    | refine AW.any (id:=29) mix 18 (by decide +kernel) ?_
    | refine awL_call rfl (by exact ent22) (by simp only [go_sem,↓reduceIte,Nat.reduceEqDiff];rfl) (by first | exact in3_spec _ _ (by omega) _ | exact find_spec w _ hw _ | exact ih _ (List.getElem_mem _) inn _ (ho.kid (List.getElem_mem _)) (by have:=kidP_sz (t:=t) (by assumption);omega) (by have:=kidP_dp (t:=t) (by assumption);omega) _) rfl ?_
    | refine awA_nil (by simp only [applyUps];rfl) ?_
    | refine awL_nil ?_
    | (refine awL_gno rfl ?_ rfl ?_;focus (simp only [S0,↓reduceIte,Nat.reduceEqDiff,Bool.not_true];done))
    | (refine awL_gyes rfl ?_ ?_;focus (simp only [S0,↓reduceIte,Nat.reduceEqDiff];done))
    | (refine awL_gcase rfl rfl (fun hg => ?_) (fun hg => ?_) <;> (rw [hg];(simp only [decide_eq_true_eq,decide_eq_false_iff_not,Int.not_le] at hg);skip))
    | refine awL_S1 rfl rfl (by simp (disch:=omega) only [go_sem,↓reduceIte,Nat.reduceEqDiff,Nat.reduceAdd,Nat.reduceLeDiff,Nat.reduceMul,Nat.reduceLT];rfl) ?_
    | (refine awA_gno rfl ?_ rfl ?_;focus (simp only [S0,↓reduceIte,Nat.reduceEqDiff,Bool.not_true,Bool.not_false];done))
    | (refine awA_gyes rfl ?_ ?_;focus (simp only [S0,↓reduceIte,Nat.reduceEqDiff];done))
    | refine awA_hole rfl rfl rfl rfl ?_
    | (refine awA_gcase rfl rfl (fun hg => ?_) (fun hg => ?_) <;> (rw [hg];(try simp only [decide_eq_true_eq,decide_eq_false_iff_not,Int.not_le] at hg);try (exfalso;omega)))
    | refine awA_S1 rfl rfl (by simp (disch:=omega) only [go_sem,↓reduceIte,Nat.reduceEqDiff,Nat.reduceAdd,Nat.reduceLeDiff,Nat.reduceLT];rfl) ?_
    | (refine AW.condK _ rfl (fun hb => ?_) (fun hb => ?_) <;> (simp only [Int.ofNat_inj,Bool.false_eq_true,decide_eq_true_eq,decide_eq_false_iff_not,Bool.not_eq_true',Bool.not_eq_false',Int.not_lt,Decidable.not_not] at hb) <;> try (exfalso;omega))
    | refine AW.block ?_
    | refine bq_s ?_
    | refine AW.exit ?_
    | refine AW.skip ?_
    | refine useK (by assumption) ?_
    | (refine AW.loopS (α:={ i:Nat // i ≤ t.args.length ∧ t.args.any (argE sc) = (t.args.drop i).any (argE sc) }) 141 (fun i => [(2,.sl (sc.map .str) none),(3,.bool g),(4,.ptr st.length 0),(5,.ptr (st.length + 1) 0),(9,.int .i64 (i.1:Nat))]) (fun i => st ++ [.box 48 (encPg w).cells,.box 29 (encP t).cells]) (fun i => t.args.length - i.1) ⟨0,Nat.zero_le _,rfl⟩ rfl ?_ ?_ ?_;(focus (simp (disch:=omega) only [go_sem,↓reduceIte,Nat.reduceEqDiff];done));(focus (simp (disch:=omega) only [go_sem];done));rintro ⟨i,hi,hpre⟩ hlc;dsimp only)
    | (refine ⟨⟨i + 1,by omega,gany_no hpre (by assumption) (by unfold argE;simp_all)⟩,by simp only [];omega,_,Nat.le_refl _,Nat.le_of_ble_eq_true rfl, ?_, ?_⟩ <;> (simp (disch:=omega) only [go_sem,↓reduceIte,Nat.reduceEqDiff,Nat.reduceAdd,List.length_append,trimS_app hst]))
    | (refine AW.loopC (α:={ j:Nat // sc.length ≤ j ∧ j ≤ inn.length ∧ ∀ (k:Nat) (hk:k < inn.length),sc.length ≤ k → k < j → inn[k] ∉ sc }) 141 (fun j => [(2,.sl (sc.map .str) none),(3,.bool g),(4,.ptr st.length 0),(5,.ptr (st.length + 1) 0),(10,.sl (inn.map .str) none),(11,.int .i64 (j.1:Nat))]) (fun j => inn.length - j.1) ⟨sc.length,Nat.le_refl _,by omega,by intro k hk hk2 hk3;omega⟩ rfl ?_ ?_;(focus (simp (disch:=omega) only [go_sem,↓reduceIte,Nat.reduceEqDiff,hin,innerL_3,innerL_6,innerL_0,List.append_nil];done));rintro ⟨j,hj0,hj,hpre2⟩ hlc;dsimp only)
    | (refine ⟨⟨j + 1,by omega,by omega,fun k hk hk2 hk3 => by rcases Nat.lt_or_eq_of_le (Nat.le_of_lt_succ hk3) with h | h;exact hpre2 k hk hk2 h;subst h;assumption⟩,by simp only [];omega,_,Nat.le_refl _,Nat.le_of_ble_eq_true rfl, ?_, ?_⟩ <;> (simp (disch:=omega) only [go_sem,↓reduceIte,Nat.reduceEqDiff,Nat.reduceAdd,List.length_append,trimS_app hst]))
    | (refine AW.loopC (α:={ m:Nat // m ≤ t.kids.length ∧ ∀ (j:Nat) (hj:j < t.kids.length),j < m → nodeC w t.kids[j] inn (g || preK t.kind) = 0 }) 141 (fun m => [(3,.bool g),(4,.ptr st.length 0),(5,.ptr (st.length + 1) 0),(10,.sl (inn.map .str) none),(13,.int .i64 (m.1:Nat))]) (fun m => t.kids.length - m.1) ⟨0,Nat.zero_le _,by intro j hj hj2;omega⟩ rfl ?_ ?_;(focus (simp (disch:=omega) only [go_sem,↓reduceIte,Nat.reduceEqDiff];done));rintro ⟨m,hm,hpre3⟩ hlc;dsimp only)
    | (refine ⟨⟨m + 1,by omega,fun j hj hj2 => by rcases Nat.lt_or_eq_of_le (Nat.le_of_lt_succ hj2) with h | h;exact hpre3 j hj h;subst h;first | (rw [gpre_t];rotate_left;(focus assumption);assumption) | (rw [gpre_lo];rotate_left;(focus assumption);(focus assumption);assumption) | (rw [gpre_mid];rotate_left;(focus assumption);(focus assumption);assumption)⟩,by simp only [];omega,_,Nat.le_refl _,Nat.le_of_ble_eq_true rfl, ?_, ?_⟩ <;> (simp (disch:=omega) only [go_sem,↓reduceIte,Nat.reduceEqDiff,Nat.reduceAdd, *,List.length_append,trimS_app hst]))
    | (refine AW.ret ?_;show (_ ∨ _) ∧ _;refine ⟨.inr rfl, ?_⟩;show resP _ _ _ [.tmp 8] _;simp (disch:=omega) only [go_sem,↓reduceIte];refine ⟨_,_,_,Nat.le_refl _,V.le_refl _ _,StLe.refl _, ?_⟩;(simp (disch:=omega) only [go_sem,hst.trim_append]))
  all_goals (clear ih h4 ho)
  all_goals first
    | (exfalso;refine tfB (g:=g) ?_ ?_ <;> assumption)
    | (refine congrArg _ (nodeC_k1 ?_ ?_ ?_).symm <;> (assumption))
    | (refine congrArg _ (nodeC_k2 ?_ (gany_yes hpre ?_ ?_)).symm <;> (first | assumption | (unfold okC preK;simp;intros;first | assumption | omega) | (unfold argE;simp_all;done)))
    | (refine congrArg _ (nodeC_k3 ?_ (gany_end hpre ?_) (inn_yes hin hj0 ?_ ?_)).symm <;> (first | assumption | omega | (unfold okC preK;simp;intros;first | assumption | omega)))
    | (refine congrArg _ (nodeC_kid ?_ (gany_end hpre ?_) (inn_no hin ?_ hpre2) hin ?_ ?_ ?_ hpre3 ?_).symm <;> (first | assumption | omega | (unfold okC preK;simp;intros;first | assumption | omega) | (intro h8;rw [callE_pos];rotate_left;(focus omega);(focus omega);simp_all;done) | (rw [gpre_t];assumption) | (rw [gpre_lo] <;> assumption) | (rw [gpre_mid] <;> assumption)))
    | (refine congrArg _ (nodeC_end ?_ (gany_end hpre ?_) (inn_no hin ?_ hpre2) hin ?_ ?_ hpre3).symm <;> (first | omega | (unfold okC preK;simp;intros;first | assumption | omega) | (intro h8;rw [callE_pos];rotate_left;(focus omega);(focus omega);simp_all;done)))
    | (refine congrArg _ (nodeC_k4 ?_ (gany_end hpre ?_) (inn_no hin ?_ hpre2) |>.trans ?_).symm <;> (first | omega | (unfold okC preK;simp;intros;omega) | (rw [callE_neg];rotate_left;(focus omega);simp_all;done) | (rw [callE_pos];rotate_left;(focus omega);(focus omega);simp_all;done)))
end Tryz
end Go.Proofs

namespace Go.Proofs
open Go Go.Duo
namespace Tryz
attribute [local irreducible] awL awA awT AW
set_option maxRecDepth 100000 in
set_option maxHeartbeats 8000000 in
theorem check_spec (p:Pg) (hp:okPg p) (hs:smPg p) (st:List O):Duo.Call Tryz.prog Tryz.gl 78 [encPg p] st (fun v st' => v = .tuple [.int .i64 (checkL p).1,.int .i64 (checkL p).2] ∧ st' = st):=by
  refine Duo.Call.clo fun hst => ?_
  have hl:=hs.len
  have hm:=hs.main
  have hfl:=findI_lt p.defs
  have hmd:=Pr.dp_le p.main
  refine Duo.Call.body 114 [(0,encPg p)] Tryz.func78 rfl rfl ?_
  repeat' first
    | refine AW.seqK fun K hK => ?_
    | (refine hK _ _ ?_;clear hK K)
    | refine AW.region ?_
    | refine AW.any (id:=16) mix 12 (by decide +kernel) ?_
    | refine AW.any (id:=26) mix 8 (by decide +kernel) ?_
    | refine AW.any (id:=29) mix 8 (by decide +kernel) ?_
    | refine awL_call rfl (by exact ent109) (by simp only [go_sem,↓reduceIte,Nat.reduceEqDiff];rfl) (by first | exact progE_spec p hp hs _ | exact find_spec p _ (by omega) _ | exact Duo.Call.argle (by repeat' (first | exact trivial | exact V.le_refl _ _ | exact V.le_sl _ _ _ | refine ⟨?_, ?_⟩)) (nodeC_spec p (by omega) (p.defs[i2]).body (((p.defs[i2]).params.take k2).map Pm.name) false hu.2.1 (by omega) (by rw [List.length_map];omega) _)) rfl ?_
    | refine awA_nil (by simp only [applyUps];rfl) ?_
    | refine awL_nil ?_
    | ((fail_if_success (clear hjq));(rcases Nat.lt_or_ge i p.defs.length with hq | hq;rotate_left;focus (exfalso;omega));have hjq:True:=trivial;have hd:=hs.defs _ (List.getElem_mem hq);have hw:=hs.wz (List.getElem_mem hq);have hu:=hp.defs _ (List.getElem_mem hq))
    | ((fail_if_success (clear hjq));(rcases Nat.lt_or_ge i2 p.defs.length with hq | hq;rotate_left;focus (exfalso;omega));have hjq:True:=trivial;have hd:=hs.defs _ (List.getElem_mem hq);have hw:=hs.wz (List.getElem_mem hq);have hu:=hp.defs _ (List.getElem_mem hq);have hbd:=Pr.dp_le (p.defs[i2]).body)
    | ((fail_if_success (clear hjq2));(rcases Nat.lt_or_ge k (p.defs[i]).params.length with hq | hq;rotate_left;focus (exfalso;omega));have hjq2:True:=trivial;have hq2:=hq)
    | ((fail_if_success (clear hjq4));(rcases Nat.lt_or_ge k2 (p.defs[i2]).params.length with hq | hq;rotate_left;focus (exfalso;omega));have hjq4:True:=trivial;have hq4:=hq)
    | refine awL_S1 rfl rfl (by simp (disch:=omega) only [go_sem,↓reduceIte,Nat.reduceEqDiff,Nat.reduceAdd,Nat.reduceLeDiff,Nat.reduceMul,Nat.reduceLT,List.length_map];rfl) ?_
    | refine awA_call rfl (by exact ent109) (by simp only [go_sem,↓reduceIte,Nat.reduceEqDiff];rfl) (by (exact Duo.Call.argle (by repeat' (first | exact trivial | exact V.le_refl _ _ | exact V.le_nil _ | refine ⟨?_, ?_⟩)) (nodeC_spec p (by omega) p.main [] true hp.main (by omega) (by simp;omega) _))) rfl ?_
    | refine awA_S1 rfl rfl (by simp (disch:=omega) only [go_sem,↓reduceIte,Nat.reduceEqDiff,Nat.reduceAdd,Nat.reduceLeDiff,Nat.reduceLT,List.length_map];rfl) ?_
    | (refine AW.condK _ rfl (fun hb => ?_) (fun hb => ?_) <;> (simp only [decide_eq_true_eq,decide_eq_false_iff_not,Int.not_lt,Decidable.not_not] at hb) <;> skip)
    | refine AW.block ?_
    | refine bq_s ?_
    | refine AW.exit ?_
    | refine AW.skip ?_
    | refine useK (by assumption) ?_
    | (refine AW.loopS (α:={ i:Nat // i ≤ p.defs.length ∧ ∀ j,j < i → dupD p j = false }) 114 (fun i => [(1,.ptr st.length 0),(5,.int .i64 (i.1:Nat))]) (fun i => st ++ [.box 48 (encPg p).cells]) (fun i => p.defs.length - i.1) ⟨0,Nat.zero_le _,by intro j hj;omega⟩ rfl ?_ ?_ ?_;(focus (simp (disch:=omega) only [go_sem,↓reduceIte,Nat.reduceEqDiff];done));(focus (simp (disch:=omega) only [go_sem];done));rintro ⟨i,hi,hpre⟩ hlc;dsimp only)
    | (refine ⟨⟨i + 1,by omega,fun j hj => by rcases Nat.lt_or_eq_of_le (Nat.le_of_lt_succ hj) with h | h;exact hpre j h;subst h;exact dup_no (by assumption) (by omega) (fun b hb a ha => hpre3 b hb (by omega) a ha)⟩,by simp only [];omega,_,Nat.le_refl _,Nat.le_of_ble_eq_true rfl, ?_, ?_⟩ <;> (simp (disch:=omega) only [go_sem,↓reduceIte,Nat.reduceEqDiff,List.length_append,trimS_app hst]))
    | (refine AW.loopS (α:={ k:Nat // k ≤ (p.defs[i]).params.length ∧ ∀ (b:Nat) (hb:b < (p.defs[i]).params.length),b < k → ∀ (a:Nat) (ha:a < b),¬ ((p.defs[i]).params[a]'(by omega)).name = (p.defs[i]).params[b].name }) 114 (fun k => [(1,.ptr st.length 0),(5,.int .i64 (i:Nat)),(6,.ptr (st.length + 1) 0),(7,.int .i64 (k.1:Nat))]) (fun k => st ++ [.box 48 (encPg p).cells,.box 134 (encDf (p.defs[i])).cells]) (fun k => (p.defs[i]).params.length - k.1) ⟨0,Nat.zero_le _,by intro b hb hb2;omega⟩ rfl ?_ ?_ ?_;(focus (simp (disch:=omega) only [go_sem,↓reduceIte,Nat.reduceEqDiff];done));(focus (simp (disch:=omega) only [go_sem];done));rintro ⟨k,hk,hpre3⟩ hlc;dsimp only)
    | (refine ⟨⟨k + 1,by omega,fun b hb hb2 => by rcases Nat.lt_or_eq_of_le (Nat.le_of_lt_succ hb2) with h | h;exact hpre3 b hb h;subst h;exact fun a ha => hpre4 a (by omega)⟩,by simp only [];omega,_,Nat.le_refl _,Nat.le_of_ble_eq_true rfl, ?_, ?_⟩ <;> (simp (disch:=omega) only [go_sem,↓reduceIte,Nat.reduceEqDiff,Nat.reduceAdd,List.length_append,trimS_app hst]))
    | (refine AW.loopS (α:={ j:Nat // ∃ hj:j ≤ k,∀ (a:Nat) (ha:a < j),¬ ((p.defs[i]).params[a]'(by omega)).name = (p.defs[i]).params[k].name }) 114 (fun j => [(1,.ptr st.length 0),(5,.int .i64 (i:Nat)),(6,.ptr (st.length + 1) 0),(7,.int .i64 (k:Nat)),(8,.int .i64 (j.1:Nat))]) (fun j => st ++ [.box 48 (encPg p).cells,.box 134 (encDf (p.defs[i])).cells]) (fun j => k - j.1) ⟨0,Nat.zero_le _,by intro a ha;omega⟩ rfl ?_ ?_ ?_;(focus (simp (disch:=omega) only [go_sem,↓reduceIte,Nat.reduceEqDiff];done));(focus (simp (disch:=omega) only [go_sem];done));rintro ⟨j,hj,hpre4⟩ hlc;dsimp only)
    | (refine ⟨⟨j + 1,by omega,fun a ha => by rcases Nat.lt_or_eq_of_le (Nat.le_of_lt_succ ha) with h | h;exact hpre4 a h;subst h;assumption⟩,by simp only [];omega,_,Nat.le_refl _,Nat.le_of_ble_eq_true rfl, ?_, ?_⟩ <;> (simp (disch:=omega) only [go_sem,↓reduceIte,Nat.reduceEqDiff,Nat.reduceAdd,List.length_append,trimS_app hst]))
    | (refine AW.loopS (α:={ i:Nat // i ≤ p.defs.length ∧ ∀ j,j < i → bodyE p j = 0 }) 114 (fun i => [(1,.ptr st.length 0),(9,.int .i64 (i.1:Nat))]) (fun i => st ++ [.box 48 (encPg p).cells]) (fun i => p.defs.length - i.1) ⟨0,Nat.zero_le _,by intro j hj;omega⟩ rfl ?_ ?_ ?_;(focus (simp (disch:=omega) only [go_sem,↓reduceIte,Nat.reduceEqDiff];done));(focus (simp (disch:=omega) only [go_sem];done));rintro ⟨i2,hi2,hpre2⟩ hlc;dsimp only)
    | (refine ⟨⟨i2 + 1,by omega,fun j hj => by rcases Nat.lt_or_eq_of_le (Nat.le_of_lt_succ hj) with h | h;exact hpre2 j h;subst h;rw [bodyE_take (by assumption) (show (p.defs[j]).params.length ≤ k2 by omega)];assumption⟩,by simp only [];omega,_,Nat.le_refl _,Nat.le_of_ble_eq_true rfl, ?_, ?_⟩ <;> (simp (disch:=omega) only [go_sem,↓reduceIte,Nat.reduceEqDiff,List.length_append,trimS_app hst]))
    | (refine AW.tok 9 1 ?_;rw [List.append_assoc];simp only [List.cons_append,List.nil_append];refine AW.loopS (α:={ k:Nat // k ≤ (p.defs[i2]).params.length }) 114 (fun k => [(1,.ptr st.length 0),(9,.int .i64 (i2:Nat)),(10,.sl ((((p.defs[i2]).params.take k.1).map Pm.name).map .str) (some (st.length + 1))),(11,.int .i64 (k.1:Nat))]) (fun k => st ++ [.box 48 (encPg p).cells,.tok 9 1 (((p.defs[i2]).params.take k.1).map Pm.name).length]) (fun k => (p.defs[i2]).params.length - k.1) ⟨0,Nat.zero_le _⟩ rfl ?_ ?_ ?_;(focus (simp (disch:=omega) only [go_sem,↓reduceIte,Nat.reduceEqDiff,List.take_zero,List.map_nil];done));(focus ((simp (disch:=first | omega | assumption) only [List.take_zero,List.map_nil,List.length_nil]);refine StLe.app ?_;repeat' (first | exact trivial | exact O.le_refl _ _ | refine ⟨?_, ?_⟩)));rintro ⟨k2,hk2⟩ hlc;dsimp only;have hnl:((p.defs[i2]).params.take k2).length ≤ 20:=(by rw [List.length_take];omega))
    | (refine ⟨⟨k2 + 1,by omega⟩,by simp only [];omega,_,Nat.le_refl _,Nat.le_of_ble_eq_true rfl, ?_, ?_⟩ <;> (simp (disch:=omega) only [go_sem,↓reduceIte,Nat.reduceEqDiff,Nat.reduceAdd,take_at,List.map_cons,List.map_nil,List.length_append,List.length_cons,List.length_nil,List.length_map,List.length_append,trimS_app hst]))
    | (refine AW.ret ?_;show (_ ∨ _) ∧ _;refine ⟨.inr rfl, ?_⟩;show resP _ _ _ [.tmp 2,.tmp 3] _;simp (disch:=omega) only [go_sem,↓reduceIte,Nat.reduceEqDiff];refine ⟨_,_,_,Nat.le_refl _,V.le_refl _ _,StLe.refl _, ?_⟩;(simp (disch:=omega) only [go_sem,hst.trim_append]))
  all_goals first
    | (rw [check_1 (by assumption)];done)
    | (rw [check_2 (by assumption) (by assumption) hpre (dup_1 (by assumption) (by assumption))];done)
    | (rw [check_2 (by assumption) (by assumption) hpre (dup_2 (by assumption) (by assumption) (by assumption) (by assumption))];done)
    | (rw [check_3 (by assumption) (show p.defs.length ≤ i by omega) hpre (by assumption) hpre2 (by rw [bodyE_take (by assumption) (show (p.defs[i2]).params.length ≤ k2 by omega)];assumption),bodyE_take (by assumption) (show (p.defs[i2]).params.length ≤ k2 by omega)];done)
    | (rw [check_4 (by assumption) (show p.defs.length ≤ i by omega) hpre (show p.defs.length ≤ i2 by omega) hpre2];done)
set_option maxRecDepth 100000 in
set_option maxHeartbeats 8000000 in
theorem right_spec (p:Pg) (m:Int) (h0:0 ≤ m) (h1:m ≤ 1000) (hp:okPg p) (st:List O):Duo.Call Tryz.prog Tryz.gl 42 [encPg p,.int .i64 m] st (fun v st' => v = .bool (rightPg p m) ∧ st' = st):=by
  refine Duo.Call.clo fun hst => ?_
  refine Duo.Call.body 18 [(0,encPg p),(1,.int .i64 m)] Tryz.func42 rfl rfl ?_
  repeat' first
    | refine AW.seqK fun K hK => ?_
    | (refine hK _ _ ?_;clear hK K)
    | refine AW.region ?_
    | refine awL_call rfl (by exact ent77) (by simp only [go_sem,↓reduceIte,Nat.reduceEqDiff];rfl) (by first | exact little_spec p m h0 (by omega) hp _ | exact check_spec p hp (little_sm h0 h1 (by assumption)) _) rfl ?_
    | refine awL_nil ?_
    | refine awL_S1 rfl rfl (by simp (disch:=omega) only [go_sem,↓reduceIte,Nat.reduceEqDiff,Nat.reduceAdd,Nat.reduceLT];rfl) ?_
    | (refine AW.condK _ rfl (fun hb => ?_) (fun hb => ?_) <;> (simp only [Bool.not_eq_true',Bool.not_eq_false'] at hb) <;> skip)
    | refine AW.skip ?_
    | (refine AW.ret ?_;show (_ ∨ _) ∧ _;refine ⟨.inr rfl, ?_⟩;show resP _ _ _ [.tmp 4] _;simp (disch:=omega) only [go_sem,↓reduceIte];refine ⟨_,_,_,Nat.le_refl _,V.le_refl _ _,StLe.refl _, ?_⟩;(simp (disch:=omega) only [go_sem,hst.trim_append]))
  all_goals simp_all [rightPg]
end Tryz
end Go.Proofs
