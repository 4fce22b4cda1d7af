/-
  A part of the proof.
-/
import Derived.Test.YtdlcnihacaboiaaGreatDoorSubLib
import Derived.Test.YtdlcnihacaboiaaGreatDoorGM
import Derived.Test.YtdlcnihacaboiaaGreatDoorDS3
import Derived.Test.YtdlcnihacaboiaaGreatDoorDLate3
import Derived.Test.YtdlcnihacaboiaaGreatDoorGI
import Derived.Test.YtdlcnihacaboiaaGreatDoorGN
set_option linter.all false
namespace Go.Proofs
open Go Go.Duo
namespace Tryz
attribute [local irreducible] awL awA awT AW
set_option maxRecDepth 100000 in
set_option maxHeartbeats 8000000 in
theorem inb_spec (c:UInt8) (s:Str) (hs:s.length ≤ 9223372036854775807) (st:List O):Duo.Call Tryz.prog Tryz.gl 177 [.int .u8 c.toNat,.str s] st (fun v st' => v = .bool (inB c s) ∧ st' = st):=by
  refine Duo.Call.clo fun hst => ?_
  refine Duo.Call.body 17 [(0,.int .u8 c.toNat),(1,.str s)] Tryz.func177 rfl rfl ?_
  repeat' first
    | refine AW.seqK fun K hK => ?_
    | (refine hK _ _ ?_;clear hK K)
    | refine AW.region ?_
    | refine awL_nil ?_
    | refine awL_S1 rfl rfl (by simp (disch:=omega) only [go_sem,↓reduceIte,Nat.reduceEqDiff];rfl) ?_
    | (refine AW.condK _ rfl (fun hb => ?_) (fun hb => ?_) <;> (simp only [decide_eq_true_eq,decide_eq_false_iff_not] at hb) <;> skip)
    | refine AW.block ?_
    | refine bq_s ?_
    | refine AW.exit ?_
    | refine AW.skip ?_
    | refine useK (by assumption) ?_
    | (refine AW.loopS (α:={ i:Nat // i ≤ s.length ∧ c ∉ s.take i }) 17 (fun i => [(0,.int .u8 c.toNat),(1,.str s),(5,.int .i64 (i.1:Nat))]) (fun i => st) (fun i => s.length - i.1) ⟨0,Nat.zero_le _,by simp⟩ rfl ?_ ?_ ?_;(focus (simp (disch:=omega) only [go_sem,↓reduceIte,Nat.reduceEqDiff];done));(focus (simp (disch:=omega) only [go_sem];done));rintro ⟨i,hi,hpre⟩ hlc;dsimp only)
    | (refine ⟨⟨i + 1,by omega,notin_at hpre (by omega) (by assumption)⟩,by simp only [];omega,_,Nat.le_refl _,Nat.le_of_ble_eq_true rfl, ?_, ?_⟩ <;> (simp (disch:=omega) only [go_sem,↓reduceIte,Nat.reduceEqDiff,hlc.trim]))
    | (refine AW.ret ?_;show (_ ∨ _) ∧ _;refine ⟨.inr rfl, ?_⟩;show resP _ _ _ [.tmp 4] _;simp (disch:=omega) only [go_sem,↓reduceIte];refine ⟨_,_,_,Nat.le_refl _,V.le_refl _ _,StLe.refl _, ?_⟩;(simp (disch:=omega) only [go_sem,hst.trim]))
  · rw [inB_yes (by omega) (by assumption)]
  · rw [inB_no (by rw [← List.take_of_length_le (show s.length ≤ i by omega)];exact hpre)]
set_option maxRecDepth 100000 in
set_option maxHeartbeats 8000000 in
theorem letters_spec  (st:List O):Duo.Call Tryz.prog Tryz.gl 247 [] st (fun v st' => v = .str LETS ∧ st' = st):=by
  refine Duo.Call.clo fun hst => ?_
  refine Duo.Call.body 1 [] Tryz.func247 rfl rfl ?_
  repeat' first
    | refine AW.seqK fun K hK => ?_
    | (refine hK _ _ ?_;clear hK K)
    | refine AW.region ?_
    | refine awL_nil ?_
    | refine awL_S1 rfl rfl (by simp (disch:=omega) only [go_sem];rfl) ?_
    | (refine AW.ret ?_;show (_ ∨ _) ∧ _;refine ⟨.inr rfl, ?_⟩;show resP _ _ _ [.tmp 0] _;simp (disch:=omega) only [go_sem,↓reduceIte];refine ⟨_,_,_,Nat.le_refl _,V.le_refl _ _,StLe.refl _, ?_⟩;(simp (disch:=omega) only [go_sem,hst.trim]))
  rfl
set_option maxRecDepth 100000 in
set_option maxHeartbeats 8000000 in
theorem digits_spec  (st:List O):Duo.Call Tryz.prog Tryz.gl 248 [] st (fun v st' => v = .str DIGS ∧ st' = st):=by
  refine Duo.Call.clo fun hst => ?_
  refine Duo.Call.body 1 [] Tryz.func248 rfl rfl ?_
  repeat' first
    | refine AW.seqK fun K hK => ?_
    | (refine hK _ _ ?_;clear hK K)
    | refine AW.region ?_
    | refine awL_nil ?_
    | refine awL_S1 rfl rfl (by simp (disch:=omega) only [go_sem];rfl) ?_
    | (refine AW.ret ?_;show (_ ∨ _) ∧ _;refine ⟨.inr rfl, ?_⟩;show resP _ _ _ [.tmp 0] _;simp (disch:=omega) only [go_sem,↓reduceIte];refine ⟨_,_,_,Nat.le_refl _,V.le_refl _ _,StLe.refl _, ?_⟩;(simp (disch:=omega) only [go_sem,hst.trim]))
  rfl
set_option maxRecDepth 100000 in
set_option maxHeartbeats 8000000 in
theorem word_spec (s:Str) (hs:s.length ≤ 9223372036854775807) (st:List O):Duo.Call Tryz.prog Tryz.gl 213 [.str s] st (fun v st' => v = .bool (isWord s) ∧ st' = st):=by
  refine Duo.Call.clo fun hst => ?_
  refine Duo.Call.body 34 [(0,.str s)] Tryz.func213 rfl rfl ?_
  repeat' first
    | refine AW.seqK fun K hK => ?_
    | (refine hK _ _ ?_;clear hK K)
    | refine AW.region ?_
    | refine AW.any (id:=1) mix 7 (by decide +kernel) ?_
    | refine AW.any (id:=6) mix 11 (by decide +kernel) ?_
    | refine awL_call rfl (by exact ent247) (by simp only [go_sem,↓reduceIte,Nat.reduceEqDiff];rfl) (by exact inb_spec _ _ (by decide) _) rfl ?_
    | refine awA_nil (by simp only [applyUps,S0];rfl) ?_
    | refine awL_nil ?_
    | (refine awL_gno rfl ?_ rfl ?_;focus (simp only [S0,↓reduceIte,Nat.reduceEqDiff,Bool.not_true,Bool.not_false];done))
    | (refine awL_gyes rfl ?_ ?_;focus (simp only [S0,↓reduceIte,Nat.reduceEqDiff];done))
    | refine awL_S1 rfl rfl (by simp (disch:=omega) only [go_sem,↓reduceIte,Nat.reduceEqDiff];rfl) ?_
    | refine awA_call rfl (by exact ent247) (by simp only [go_sem,↓reduceIte,Nat.reduceEqDiff];rfl) (by first | exact inb_spec _ _ (by first | omega | decide) _ | exact letters_spec _ | exact digits_spec _) rfl ?_
    | (refine awA_gno rfl ?_ rfl ?_;focus (simp only [S0,↓reduceIte,Nat.reduceEqDiff,Bool.not_true,Bool.not_false];done))
    | (refine awA_gyes rfl ?_ ?_;focus (simp only [S0,↓reduceIte,Nat.reduceEqDiff];done))
    | (refine awA_gcase rfl rfl (fun hg => ?_) (fun hg => ?_) <;> (rw [hg];(simp only [decide_eq_true_eq,decide_eq_false_iff_not,Bool.not_eq_true',Bool.not_eq_false',inB_let] at hg);skip))
    | refine awA_S1 rfl rfl (by simp (disch:=omega) only [go_sem,↓reduceIte,Nat.reduceEqDiff];rfl) ?_
    | (refine AW.condK _ rfl (fun hb => ?_) (fun hb => ?_) <;> (simp only [Bool.false_eq_true,Bool.true_eq_false,decide_eq_true_eq,decide_eq_false_iff_not,Bool.not_eq_true',Bool.not_eq_false',inB_let,inB_dig] at hb) <;> skip)
    | refine AW.block ?_
    | refine bq_s ?_
    | refine AW.exit ?_
    | refine AW.skip ?_
    | refine useK (by assumption) ?_
    | (refine AW.loopS (α:={ i:Nat // 1 ≤ i ∧ i ≤ s.length ∧ isWord s = (s.drop i).all wordB }) 34 (fun i => [(0,.str s),(3,.int .i64 (i.1:Nat))]) (fun i => st) (fun i => s.length - i.1) ⟨1,Nat.le_refl _,by omega,word_cons (by omega) (by simp_all)⟩ rfl ?_ ?_ ?_;(focus (simp (disch:=omega) only [go_sem,↓reduceIte,Nat.reduceEqDiff];done));(focus (simp (disch:=omega) only [go_sem];done));rintro ⟨i,h1,hi,hpre⟩ hlc;dsimp only)
    | (refine ⟨⟨i + 1,by omega,by omega,all_yes hpre (by assumption) (by simp_all [wordB])⟩,by simp only [];omega,_,Nat.le_refl _,Nat.le_of_ble_eq_true rfl, ?_, ?_⟩ <;> (simp (disch:=omega) only [go_sem,↓reduceIte,Nat.reduceEqDiff,hlc.trim]))
    | (refine AW.ret ?_;show (_ ∨ _) ∧ _;refine ⟨.inr rfl, ?_⟩;show resP _ _ _ [.tmp 2] _;simp (disch:=omega) only [go_sem,↓reduceIte];refine ⟨_,_,_,Nat.le_refl _,V.le_refl _ _,StLe.refl _, ?_⟩;(simp (disch:=omega) only [go_sem,hst.trim]))
  · rw [word_nil (by omega)]
  · rw [word_no (by omega) (by assumption)]
  · rw [all_no hpre (by assumption) (by simp_all [wordB])]
  · rw [all_end' hpre (by omega)]
set_option maxRecDepth 100000 in
set_option maxHeartbeats 8000000 in
theorem refkw_spec (s:Str) (st:List O):Duo.Call Tryz.prog Tryz.gl 219 [.str s] st (fun v st' => v = .bool (decide (s ∈ KW)) ∧ st' = st):=by
  refine Duo.Call.clo fun hst => ?_
  have hk:=kwL
  refine Duo.Call.body 18 [(0,.str s)] Tryz.func219 rfl rfl ?_
  repeat' first
    | refine AW.seqK fun K hK => ?_
    | (refine hK _ _ ?_;clear hK K)
    | refine AW.region ?_
    | refine awL_nil ?_
    | refine awL_S1 rfl rfl (by simp (disch:=omega) only [go_sem,↓reduceIte,Nat.reduceEqDiff,Nat.reduceLeDiff,Nat.reduceMul];rfl) ?_
    | (refine AW.condK _ rfl (fun hb => ?_) (fun hb => ?_) <;> (simp only [decide_eq_true_eq,decide_eq_false_iff_not] at hb) <;> skip)
    | refine AW.block ?_
    | refine bq_s ?_
    | refine AW.exit ?_
    | refine AW.skip ?_
    | refine useK (by assumption) ?_
    | (refine AW.loopS (α:={ i:Nat // i ≤ 10 ∧ s ∉ KW.take i }) 18 (fun i => [(0,.str s),(3,.sl (KW.map .str) none),(4,.int .i64 (i.1:Nat))]) (fun i => st ++ [.tok 9 1 10]) (fun i => 10 - i.1) ⟨0,Nat.zero_le _,by simp⟩ rfl ?_ ?_ ?_;(focus (simp (disch:=omega) only [go_sem,↓reduceIte,Nat.reduceEqDiff,KW,List.map_cons,List.map_nil];done));(focus (simp (disch:=omega) only [go_sem];done));rintro ⟨i,hi,hpre⟩ hlc;dsimp only)
    | (refine ⟨⟨i + 1,by omega,notin_at hpre (by rw [kwL];omega) (by assumption)⟩,by simp only [];omega,_,Nat.le_refl _,Nat.le_of_ble_eq_true rfl, ?_, ?_⟩ <;> (simp (disch:=omega) only [go_sem,↓reduceIte,Nat.reduceEqDiff,List.length_append,trimS_app hst]))
    | (refine AW.ret ?_;show (_ ∨ _) ∧ _;refine ⟨.inr rfl, ?_⟩;show resP _ _ _ [.tmp 2] _;simp (disch:=omega) only [go_sem,↓reduceIte];refine ⟨_,_,_,Nat.le_refl _,V.le_refl _ _,StLe.refl _, ?_⟩;(simp (disch:=omega) only [go_sem,hst.trim_append]))
  · rw [decide_eq_true (by rw [← (by assumption:KW[i] = s)];exact List.getElem_mem _)]
  · rw [decide_eq_false (by rw [← List.take_of_length_le (show KW.length ≤ i by omega)];exact hpre)]
set_option maxRecDepth 100000 in
set_option maxHeartbeats 8000000 in
theorem refname_spec (s:Str) (hs:s.length ≤ 9223372036854775807) (st:List O):Duo.Call Tryz.prog Tryz.gl 185 [.str s] st (fun v st' => v = .bool (nameB s) ∧ st' = st):=by
  refine Duo.Call.clo fun hst => ?_
  refine Duo.Call.body 10 [(0,.str s)] Tryz.func185 rfl rfl ?_
  repeat' first
    | refine AW.seqK fun K hK => ?_
    | (refine hK _ _ ?_;clear hK K)
    | refine AW.region ?_
    | refine awL_call rfl (by exact ent213) (by simp only [go_sem,↓reduceIte];rfl) (by first | exact word_spec s hs _ | exact refkw_spec s _) rfl ?_
    | refine awL_nil ?_
    | (refine awL_gno rfl ?_ rfl ?_;focus (simp only [S0,↓reduceIte,Nat.reduceEqDiff,Bool.not_true];done))
    | (refine awL_gyes rfl ?_ ?_;focus (simp only [S0,↓reduceIte,Nat.reduceEqDiff];done))
    | (refine awL_gcase rfl rfl (fun hg => ?_) (fun hg => ?_) <;> (rw [hg];(skip);skip))
    | refine awL_S1 rfl rfl (by simp (disch:=omega) only [go_sem,↓reduceIte,Nat.reduceEqDiff];rfl) ?_
    | (refine AW.ret ?_;show (_ ∨ _) ∧ _;refine ⟨.inr rfl, ?_⟩;show resP _ _ _ [.tmp 2] _;simp (disch:=omega) only [go_sem,↓reduceIte];refine ⟨_,_,_,Nat.le_refl _,V.le_refl _ _,StLe.refl _, ?_⟩;(simp (disch:=omega) only [go_sem,hst.trim]))
  all_goals simp_all [nameB]
end Tryz
end Go.Proofs
