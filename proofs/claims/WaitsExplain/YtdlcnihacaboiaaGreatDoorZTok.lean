/-
  A part of the proof.
-/
import Derived.Test.YtdlcnihacaboiaaGreatDoorSubLib
import Derived.Test.YtdlcnihacaboiaaGreatDoorGM
import Derived.Test.YtdlcnihacaboiaaGreatDoorGI
import Derived.Test.YtdlcnihacaboiaaGreatDoorZProgA
set_option linter.all false
namespace Go.Proofs
open Go Go.Duo
namespace Tryz
attribute [local irreducible] awL awA AW
set_option maxRecDepth 100000 in
set_option maxHeartbeats 8000000 in
theorem number_spec (s:Str) (hs:s.length ≤ 9223372036854775807) (st:List O):Duo.Call Tryz.prog Tryz.gl 214 [.str s] st (fun v st' => v = .bool (isNum s) ∧ st' = st):=by
  refine Duo.Call.clo fun hst => ?_
  have hd1:=len_drop1 s
  refine Duo.Call.body 36 [(0,.str s)] Tryz.func214 rfl rfl ?_
  repeat' first
    | refine AW.seqK fun K hK => ?_
    | (refine hK _ _ ?_;clear hK K)
    | refine AW.region ?_
    | refine AW.any (id:=10) mix 4 (by decide +kernel) ?_
    | refine awL_call rfl (by exact ent248) (by simp only [go_sem,↓reduceIte,Nat.reduceEqDiff];rfl) (by exact inb_spec _ _ (by decide) _) rfl ?_
    | refine awA_nil (by simp only [applyUps,S0];rfl) ?_
    | refine awL_nil ?_
    | (refine awL_gno rfl ?_ rfl ?_;focus (simp only [S0,↓reduceIte,Nat.reduceEqDiff,Bool.not_true,Bool.not_false];done))
    | (refine awL_gyes rfl ?_ ?_;focus (simp only [S0,↓reduceIte,Nat.reduceEqDiff];done))
    | (refine awL_gcase rfl rfl (fun hg => ?_) (fun hg => ?_) <;> (rw [hg];(simp only [decide_eq_true_eq,decide_eq_false_iff_not] at hg);try (exfalso;omega)))
    | refine awL_S1 rfl rfl (by simp (disch:=omega) only [go_sem,↓reduceIte,Nat.reduceEqDiff,Int.toNat_one,List.take_length];rfl) ?_
    | refine awA_call rfl (by exact ent248) (by simp only [go_sem];rfl) (by exact digits_spec _) rfl ?_
    | refine awA_S1 rfl rfl (by simp (disch:=omega) only [go_sem,↓reduceIte,Nat.reduceEqDiff];rfl) ?_
    | (refine AW.condK _ rfl (fun hb => ?_) (fun hb => ?_) <;> (simp only [Bool.false_eq_true,Bool.true_eq_false,decide_eq_true_eq,decide_eq_false_iff_not,Bool.not_eq_true',Bool.not_eq_false',inB_dig] at hb) <;> skip)
    | refine AW.block ?_
    | refine bq_s ?_
    | refine AW.exit ?_
    | refine AW.skip ?_
    | refine useK (by assumption) ?_
    | (refine AW.loopS (α:={ i:Nat // i ≤ (s.drop 1).length ∧ isNum s = ((s.drop 1).drop i).all dig }) 36 (fun i => [(0,.str (s.drop 1)),(3,.int .i64 (i.1:Nat))]) (fun i => st) (fun i => (s.drop 1).length - i.1) ⟨0,Nat.zero_le _,by rw [num_minus1 (by omega) (by assumption) (by simpa using hb)];rfl⟩ rfl ?_ ?_ ?_;(focus (simp (disch:=omega) only [go_sem,↓reduceIte,Nat.reduceEqDiff];done));(focus (simp (disch:=omega) only [go_sem];done));rintro ⟨i,hi,hpre⟩ hlc;dsimp only)
    | (refine ⟨⟨i + 1,by omega,all_yes hpre (by assumption) (by assumption)⟩,by simp only [];omega,_,Nat.le_refl _,Nat.le_of_ble_eq_true rfl, ?_, ?_⟩ <;> (simp (disch:=omega) only [go_sem,↓reduceIte,Nat.reduceEqDiff,hlc.trim]))
    | (refine AW.loopS (α:={ i:Nat // i ≤ (s).length ∧ isNum s = ((s).drop i).all dig }) 36 (fun i => [(0,.str (s)),(3,.int .i64 (i.1:Nat))]) (fun i => st) (fun i => (s).length - i.1) ⟨0,Nat.zero_le _,by rw [num_plain (by omega) (by simp_all) (by simp_all)];rfl⟩ rfl ?_ ?_ ?_;(focus (simp (disch:=omega) only [go_sem,↓reduceIte,Nat.reduceEqDiff];done));(focus (simp (disch:=omega) only [go_sem];done));rintro ⟨i,hi,hpre⟩ hlc;dsimp only)
    | (refine AW.ret ?_;show (_ ∨ _) ∧ _;refine ⟨.inr rfl, ?_⟩;show resP _ _ _ [.tmp 2] _;simp (disch:=omega) only [go_sem,↓reduceIte];refine ⟨_,_,_,Nat.le_refl _,V.le_refl _ _,StLe.refl _, ?_⟩;(simp (disch:=omega) only [go_sem,hst.trim]))
  · rw [num_zero (by assumption)]
  · rw [num_minus (by omega) (by assumption) (by omega)]
  · rw [num_minus0 (by omega) (by assumption) (by simpa using hb)]
  · rw [all_no hpre (by assumption) (by assumption)]
  · rw [all_end' hpre (by omega)]
  · rw [num_0 (by omega) (by assumption) (by assumption)]
  · rw [all_no hpre (by assumption) (by assumption)]
  · rw [all_end' hpre (by omega)]
  · rw [num_nil (by omega)]
set_option maxRecDepth 100000 in
set_option maxHeartbeats 8000000 in
theorem kind_spec (s:Str) (hs:s.length ≤ 9223372036854775807) (st:List O):Duo.Call Tryz.prog Tryz.gl 179 [.str s] st (fun v st' => v = .int .i64 (kindL s) ∧ st' = st):=by
  refine Duo.Call.clo fun hst => ?_
  refine Duo.Call.body 15 [(0,.str s)] Tryz.func179 rfl rfl ?_
  repeat' first
    | refine AW.seqK fun K hK => ?_
    | (refine hK _ _ ?_;clear hK K)
    | refine AW.region ?_
    | refine awL_call rfl (by exact ent213) (by simp only [go_sem,↓reduceIte];rfl) (by first | exact inb_spec _ _ (by first | omega | decide) _ | exact word_spec s hs _ | exact number_spec s hs _) rfl ?_
    | refine awL_nil ?_
    | (refine awL_gno rfl ?_ rfl ?_;focus (simp only [S0,↓reduceIte,Nat.reduceEqDiff,Bool.not_true];done))
    | (refine awL_gyes rfl ?_ ?_;focus (simp only [S0,↓reduceIte,Nat.reduceEqDiff];done))
    | (refine awL_gcase rfl rfl (fun hg => ?_) (fun hg => ?_) <;> (rw [hg];(simp only [decide_eq_true_eq,decide_eq_false_iff_not] at hg);skip))
    | refine awL_S1 rfl rfl (by simp (disch:=omega) only [go_sem,↓reduceIte,Nat.reduceEqDiff];rfl) ?_
    | (refine AW.condK _ rfl (fun hb => ?_) (fun hb => ?_) <;> (try simp only [Bool.false_eq_true,inB_sign] at hb) <;> skip)
    | refine AW.skip ?_
    | (refine AW.ret ?_;show (_ ∨ _) ∧ _;refine ⟨.inr rfl, ?_⟩;show resP _ _ _ [.tmp 2] _;simp (disch:=omega) only [go_sem,↓reduceIte];refine ⟨_,_,_,Nat.le_refl _,V.le_refl _ _,StLe.refl _, ?_⟩;(simp (disch:=omega) only [go_sem,hst.trim]))
  · rw [kindL_word (by assumption)]
  · rw [kindL_num (by assumption) (by assumption)]
  · rw [kindL_one (by assumption) (by assumption) (by omega),if_pos (by assumption)]
  · rw [kindL_one (by assumption) (by assumption) (by omega),if_neg (by simp_all)]
  · rw [kindL_none (by assumption) (by assumption) (by omega)]
set_option maxRecDepth 100000 in
set_option maxHeartbeats 8000000 in
theorem longest_spec (s:Str) (a:Nat) (ha:a < s.length) (hs:s.length ≤ 281474976710656) (st:List O):Duo.Call Tryz.prog Tryz.gl 178 [.str s,.int .i64 (a:Nat)] st (fun v st' => v = .int .i64 (a + tokN (s.drop a):Nat) ∧ st' = st):=by
  refine Duo.Call.clo fun hst => ?_
  refine Duo.Call.body 29 [(0,.str s),(1,.int .i64 (a:Nat))] Tryz.func178 rfl rfl ?_
  repeat' first
    | refine AW.seqK fun K hK => ?_
    | (refine hK _ _ ?_;clear hK K)
    | refine AW.region ?_
    | refine awL_call rfl (by exact ent179) (by simp only [go_sem,↓reduceIte];rfl) (by (exact kind_spec _ (by simp only [List.length_drop,List.length_take];omega) _)) rfl ?_
    | refine awL_nil ?_
    | refine awL_S1 rfl rfl (by simp (disch:=omega) only [go_sem,↓reduceIte,Nat.reduceEqDiff,Nat.reduceAdd];rfl) ?_
    | (refine AW.condK _ rfl (fun hb => ?_) (fun hb => ?_) <;> (simp only [decide_eq_true_eq,decide_eq_false_iff_not,Int.not_lt,Int.ofNat_le] at hb) <;> skip)
    | refine AW.block ?_
    | refine bq_s ?_
    | refine AW.exit ?_
    | refine AW.skip ?_
    | refine useK (by assumption) ?_
    | (refine AW.loopS (α:={ k:Nat // a + k ≤ s.length ∧ (k ≤ 1 ∨ preOK (s.drop a) k = true) }) 29 (fun k => [(0,.str s),(1,.int .i64 (a:Nat)),(5,.int .i64 (a + endL (s.drop a) k.1:Nat)),(6,.int .i64 (a + k.1 + 1:Nat))]) (fun k => st) (fun k => s.length - (a + k.1)) ⟨0,by omega,.inl (by omega)⟩ rfl ?_ ?_ ?_;(focus (simp (disch:=omega) only [go_sem,↓reduceIte,Nat.reduceEqDiff,endL_0,Nat.add_zero];done));(focus (simp (disch:=omega) only [go_sem];done));rintro ⟨k,hk,hpre⟩ hlc;dsimp only)
    | (have hp:=endL_yes (endL_kind hb (by omega));refine ⟨⟨k + 1,by omega,.inr (endL_kind hb (by omega))⟩,by simp only [];omega,_,Nat.le_refl _,Nat.le_of_ble_eq_true rfl, ?_, ?_⟩ <;> (simp (disch:=omega) only [go_sem,↓reduceIte,Nat.reduceEqDiff,Nat.reduceAdd,hp,hlc.trim];done))
    | (rename_i hk1;have hp:=endL_skip hk1 (by omega) (by omega);refine ⟨⟨k + 1,by omega,.inl (by omega)⟩,by simp only [];omega,_,Nat.le_refl _,Nat.le_of_ble_eq_true rfl, ?_, ?_⟩ <;> (simp (disch:=omega) only [go_sem,↓reduceIte,Nat.reduceEqDiff,Nat.reduceAdd,hp,hlc.trim]))
    | (refine AW.ret ?_;show (_ ∨ _) ∧ _;refine ⟨.inr rfl, ?_⟩;show resP _ _ _ [.tmp 4] _;simp (disch:=omega) only [go_sem,↓reduceIte];refine ⟨_,_,_,Nat.le_refl _,V.le_refl _ _,StLe.refl _, ?_⟩;(simp (disch:=omega) only [go_sem,hst.trim]))
  · rw [endL_out (by omega) hpre (endL_kno (by assumption) (by omega))]
  · rw [endL_fin ha hk (by omega) hpre]
set_option maxRecDepth 100000 in
set_option maxHeartbeats 8000000 in
theorem tokval_spec (s:Str) (h0:0 < s.length) (hnum:isNum s = true) (hs:s.length ≤ 281474976710656) (st:List O):Duo.Call Tryz.prog Tryz.gl 180 [.str s] st (fun v st' => v = .tuple [.int .i64 (valN s),.bool (valB s)] ∧ st' = st):=by
  refine Duo.Call.clo fun hst => ?_
  refine Duo.Call.body 55 [(0,.str s)] Tryz.func180 rfl rfl ?_
  repeat' first
    | refine AW.seqK fun K hK => ?_
    | (refine hK _ _ ?_;clear hK K)
    | refine AW.region ?_
    | refine awL_nil ?_
    | ((fail_if_success (clear hdg));(rcases Nat.lt_or_ge i s.length with hq | hq;rotate_left;focus (exfalso;omega));have hdg:=num_dig hnum hq (.inl h1))
    | ((fail_if_success (clear hdg));(rcases Nat.lt_or_ge j s.length with hq | hq;rotate_left;focus (exfalso;omega));have hdg:=num_dig hnum hq (.inr hm))
    | refine awL_S1 rfl rfl (by simp (disch:=omega) only [go_sem,↓reduceIte,Nat.reduceEqDiff,tdiv_m10];rfl) ?_
    | (refine AW.condK _ rfl (fun hb => ?_) (fun hb => ?_) <;> (simp only [decide_eq_true_eq,decide_eq_false_iff_not,Int.not_lt] at hb) <;> skip)
    | refine AW.block ?_
    | refine bq_s ?_
    | refine AW.exit ?_
    | refine AW.skip ?_
    | refine useK (by assumption) ?_
    | (have hm:s[0] = 45:=(by assumption);refine AW.loopS (α:={ i:Nat // 1 ≤ i ∧ i ≤ s.length ∧ fd s 1 i ≤ 9223372036854775808 }) 55 (fun i => [(0,.str s),(4,.int .i64 (-((fd s 1 i.1:Nat):Int))),(5,.int .i64 (i.1:Nat))]) (fun i => st) (fun i => s.length - i.1) ⟨1,by omega,by omega,Nat.le_trans (Nat.le_of_eq (fd_self s 1)) (Nat.zero_le _)⟩ rfl ?_ ?_ ?_;(focus (simp (disch:=omega) only [go_sem,↓reduceIte,Nat.reduceEqDiff,fd_self,Int.neg_zero];done));(focus (simp (disch:=omega) only [go_sem];done));rintro ⟨i,h1,hi,hle⟩ hlc;dsimp only)
    | (have hp:(-((fd s 1 (i + 1):Nat):Int)) = 10 * -((fd s 1 i:Nat):Int) - ((s[i].toNat:Nat) - 48):=(by rw [fd_step h1 hq];omega);refine ⟨⟨i + 1,by omega,by omega,by rw [fd_step h1 hq];omega⟩,by simp only [];omega,_,Nat.le_refl _,Nat.le_of_ble_eq_true rfl, ?_, ?_⟩ <;> (simp (disch:=omega) only [go_sem,↓reduceIte,Nat.reduceEqDiff,hp,hlc.trim]))
    | (have hm:¬ s[0] = 45:=(by assumption);refine AW.loopS (α:={ i:Nat // i ≤ s.length ∧ fd s 0 i ≤ 9223372036854775807 }) 55 (fun i => [(0,.str s),(7,.int .i64 (fd s 0 i.1:Nat)),(8,.int .i64 (i.1:Nat))]) (fun i => st) (fun i => s.length - i.1) ⟨0,by omega,Nat.le_trans (Nat.le_of_eq (fd_self s 0)) (Nat.zero_le _)⟩ rfl ?_ ?_ ?_;(focus (simp (disch:=omega) only [go_sem,↓reduceIte,Nat.reduceEqDiff,fd_self];done));(focus (simp (disch:=omega) only [go_sem];done));rintro ⟨j,hj,hle⟩ hlc;dsimp only)
    | (have hp:((fd s 0 (j + 1):Nat):Int) = 10 * ((fd s 0 j:Nat):Int) + ((s[j].toNat:Nat) - 48):=(by rw [fd_step (Nat.zero_le _) hq];omega);refine ⟨⟨j + 1,by omega,by rw [fd_step (Nat.zero_le _) hq];omega⟩,by simp only [];omega,_,Nat.le_refl _,Nat.le_of_ble_eq_true rfl, ?_, ?_⟩ <;> (simp (disch:=omega) only [go_sem,↓reduceIte,Nat.reduceEqDiff,hp,hlc.trim]))
    | (refine AW.ret ?_;show (_ ∨ _) ∧ _;refine ⟨.inr rfl, ?_⟩;show resP _ _ _ [.tmp 2,.tmp 3] _;simp (disch:=omega) only [go_sem,↓reduceIte,Nat.reduceEqDiff];refine ⟨_,_,_,Nat.le_refl _,V.le_refl _ _,StLe.refl _, ?_⟩;(simp (disch:=omega) only [go_sem,hst.trim]))
  · have h1:=fd_step h1 hq;have h2:=fd_le (s:=s) (a:=1) (i:=i + 1) (by omega);rw [valN,valB,val_neg hnum h0 hm,if_neg (by omega)];rfl
  · rw [valN,valB,val_neg hnum h0 hm,← fd_end (i:=i) (by omega),if_pos hle];rfl
  · have h1:=fd_step (Nat.zero_le _) hq;have h2:=fd_le (s:=s) (a:=0) (i:=j + 1) (by omega);rw [List.drop_zero] at h2;rw [valN,valB,val_pos hnum h0 hm,if_neg (by omega)];rfl
  · have h2:=fd_end (s:=s) (a:=0) (i:=j) (by omega);rw [List.drop_zero] at h2;rw [valN,valB,val_pos hnum h0 hm,← h2,if_pos hle];rfl
set_option maxRecDepth 100000 in
set_option maxHeartbeats 8000000 in
theorem rtokens_spec (s:Str) (hs:s.length ≤ 9223372036854775807) (st:List O):Duo.Call Tryz.prog Tryz.gl 125 [.str s] st (fun v st' => v = encT3 (lexT s) ∧ st' = st):=by
  refine Duo.Call.clo fun hst => ?_
  refine Duo.Call.body 78 [(0,.str s)] Tryz.func125 rfl rfl ?_
  repeat' first
    | refine AW.seqK fun K hK => ?_
    | (refine hK _ _ ?_;clear hK K)
    | refine AW.region ?_
    | refine AW.any (id:=14) mix 12 (by decide +kernel) ?_
    | refine awL_call rfl (by exact ent177) (by simp only [go_sem,↓reduceIte,Nat.reduceEqDiff];rfl) (by first | exact inb_spec _ _ (by first | omega | decide) _ | exact longest_spec s _ (by assumption) (by omega) _ | exact tokval_spec _ (num_pos (kind2_num (by assumption))) (kind2_num (by assumption)) (by simp only [List.length_drop,List.length_take];omega) _) rfl ?_
    | refine awA_nil (by simp only [applyUps,List.nil_append,List.cons_append,S0,S2];rfl) ?_
    | refine awL_nil ?_
    | ((fail_if_success (clear hjq));(rcases Nat.lt_or_ge a s.length with hq | hq;rotate_left;focus (exfalso;omega));have hT:=tokN_at hq;have hjq:True:=trivial)
    | (refine awL_gno rfl ?_ rfl ?_;focus (simp only [S0,↓reduceIte,Nat.reduceEqDiff,Bool.not_true];done))
    | (refine awL_gyes rfl ?_ ?_;focus (simp only [S0,↓reduceIte,Nat.reduceEqDiff];done))
    | (refine awL_gcase rfl rfl (fun hg => ?_) (fun hg => ?_) <;> (rw [hg];(simp only [decide_eq_true_eq,decide_eq_false_iff_not] at hg);skip))
    | refine awL_S1 rfl rfl (by simp (disch:=omega) only [go_sem,↓reduceIte,Nat.reduceEqDiff,Nat.reduceAdd,Nat.reduceLeDiff,Nat.reduceMul,Nat.reduceLT];rfl) ?_
    | refine awA_call rfl (by exact ent177) (by simp only [go_sem,↓reduceIte];rfl) (by (exact kind_spec _ (by simp only [List.length_drop,List.length_take];omega) _)) rfl ?_
    | refine awA_S1 rfl rfl (by simp (disch:=omega) only [go_sem,↓reduceIte,Nat.reduceEqDiff,Nat.reduceAdd,Nat.reduceLeDiff];rfl) ?_
    | (refine AW.condK _ rfl (fun hb => ?_) (fun hb => ?_) <;> (simp only [Int.ofNat_inj,Bool.false_eq_true,decide_eq_true_eq,decide_eq_false_iff_not,Bool.not_eq_true',Bool.not_eq_false',Int.not_lt,Decidable.not_not,inB_blank] at hb) <;> skip)
    | refine AW.block ?_
    | refine bq_s ?_
    | refine AW.exit ?_
    | refine AW.skip ?_
    | refine useK (by assumption) ?_
    | (refine AW.tok 221 4 ?_;refine AW.loopS (α:={ q:Nat × List Tok // q.1 ≤ s.length ∧ lexA s false 0 = (lexA s false q.1).map (q.2 ++ ·) ∧ q.2.length ≤ q.1 }) 78 (fun q => [(0,.str s),(5,.sl (q.1.2.map encK) (some st.length)),(6,.int .i64 (q.1.1:Nat))]) (fun q => st ++ [.tok 221 4 (q.1.2.map encK).length]) (fun q => s.length - q.1.1) ⟨⟨0,[]⟩,Nat.zero_le _,map_nil _,Nat.zero_le _⟩ rfl ?_ ?_ ?_;(focus (simp (disch:=omega) only [go_sem,↓reduceIte,Nat.reduceEqDiff,List.map_nil];done));(focus (simp (disch:=omega) only [go_sem,List.map_nil,List.length_nil];done));rintro ⟨⟨a,l⟩,ha,hpre,hll⟩ hlc;dsimp only at ha hpre hll ⊢)
    | (guard_hyp hb:blankB s[a] = true;refine ⟨⟨⟨a + 1,l⟩,by omega,map_same hpre (lexA_blank hq hb).symm,by dsimp only;omega⟩,by simp only [];omega,_,Nat.le_refl _,Nat.le_of_ble_eq_true rfl, ?_, ?_⟩ <;> (simp (disch:=omega) only [go_sem,↓reduceIte,Nat.reduceEqDiff,List.map_cons,List.map_nil,List.length_append,List.length_cons,List.length_nil,List.length_append,trimS_app hst];done))
    | ((rcases Nat.lt_or_ge p s.length with hz | hz;(focus (exfalso;omega)));have hz2:=note_end1 ww hz;refine ⟨⟨⟨p,l⟩,w2,map_same hpre hz2,by dsimp only;omega⟩,by simp only [];omega,_,Nat.le_refl _,Nat.le_of_ble_eq_true rfl, ?_, ?_⟩ <;> (simp (disch:=omega) only [go_sem,↓reduceIte,Nat.reduceEqDiff,List.map_cons,List.map_nil,List.length_append,List.length_cons,List.length_nil,List.length_append,trimS_app hst];done))
    | (have hz2:=note_end2 ww hb;have hz3:¬ a = p:=(by rintro rfl;simp_all);refine ⟨⟨⟨p,l⟩,w2,map_same hpre hz2,by dsimp only;omega⟩,by simp only [];omega,_,Nat.le_refl _,Nat.le_of_ble_eq_true rfl, ?_, ?_⟩ <;> (simp (disch:=omega) only [go_sem,↓reduceIte,Nat.reduceEqDiff,List.map_cons,List.map_nil,List.length_append,List.length_cons,List.length_nil,List.length_append,trimS_app hst];done))
    | (guard_hyp hb:¬ kindL (List.drop a (List.take (a + tokN (List.drop a s)) s)) = 2;refine ⟨⟨⟨a + tokN (s.drop a),l ++ [rT s a 0]⟩,hT,map_snoc hpre (rT_word hq (by assumption) (by assumption) (by omega) hb),by dsimp only;rw [List.length_append,List.length_singleton];omega⟩,by simp only [];omega,_,Nat.le_refl _,Nat.le_of_ble_eq_true rfl, ?_, ?_⟩ <;> (simp (disch:=omega) only [go_sem,↓reduceIte,Nat.reduceEqDiff,encK,rT,List.map_cons,List.map_nil,List.length_append,List.length_cons,List.length_nil,List.length_append,trimS_app hst];done))
    | (guard_hyp hb:valB (List.drop a (List.take (a + tokN (List.drop a s)) s)) = true;refine ⟨⟨⟨a + tokN (s.drop a),l ++ [rT s a (valN (txA s a))]⟩,hT,map_snoc hpre (rT_num hq (by assumption) (by assumption) (by omega) (by assumption) hb),by dsimp only;rw [List.length_append,List.length_singleton];omega⟩,by simp only [];omega,_,Nat.le_refl _,Nat.le_of_ble_eq_true rfl, ?_, ?_⟩ <;> (simp (disch:=omega) only [go_sem,↓reduceIte,Nat.reduceEqDiff,encK,rT,txA,List.map_cons,List.map_nil,List.length_append,List.length_cons,List.length_nil,List.length_append,trimS_app hst]))
    | (refine AW.loopS (α:={ p:Nat // a ≤ p ∧ p ≤ s.length ∧ lexA s true p = lexA s false a }) 78 (fun p => [(0,.str s),(5,.sl (l.map encK) (some st.length)),(6,.int .i64 (p.1:Nat))]) (fun p => st ++ [.tok 221 4 (l.map encK).length]) (fun p => s.length - p.1) ⟨a,Nat.le_refl _,ha,(lexA_hash hq (by assumption)).symm⟩ rfl ?_ ?_ ?_;(focus (simp (disch:=omega) only [go_sem,↓reduceIte,Nat.reduceEqDiff];done));(focus (simp (disch:=omega) only [go_sem];done));rintro ⟨p,w1,w2,ww⟩ hlc2;dsimp only)
    | (refine ⟨⟨p + 1,by omega,by omega,by rw [← ww];exact (lexA_note (by assumption) (by assumption)).symm⟩,by simp only [];omega,_,Nat.le_refl _,Nat.le_of_ble_eq_true rfl, ?_, ?_⟩ <;> (simp (disch:=omega) only [go_sem,↓reduceIte,Nat.reduceEqDiff,List.length_append,trimS_app hst]))
    | (refine AW.ret ?_;show (_ ∨ _) ∧ _;refine ⟨.inr rfl, ?_⟩;show resP _ _ _ [.tmp 2,.tmp 3,.tmp 4] _;simp (disch:=omega) only [go_sem,↓reduceIte,Nat.reduceEqDiff];refine ⟨_,_,_,Nat.le_refl _,nil_tupL _ _,StLe.refl _, ?_⟩;simp (disch:=omega) only [hst.trim,hst.trim_append,go_sem])
    | (refine AW.ret ?_;show (_ ∨ _) ∧ _;refine ⟨.inr rfl, ?_⟩;show resP _ _ _ [.tmp 2,.tmp 3,.tmp 4] _;simp (disch:=omega) only [go_sem,↓reduceIte,Nat.reduceEqDiff];refine ⟨_,_,_,Nat.le_refl _,V.le_refl _ _,StLe.refl _, ?_⟩;(simp (disch:=omega) only [go_sem,hst.trim_append]))
  · rw [lexT_big (by omega)];rfl
  · rw [lexT_err (by omega) hpre (lexA_bad hq (by assumption) (by assumption) (by omega))];rfl
  · rw [lexT_err (by omega) hpre (rT_big hq (by assumption) (by assumption) (by omega) (by assumption) (by assumption))];rfl
  · rw [lexT_fin (by omega) hpre (by omega)];rfl
end Tryz
end Go.Proofs
