/-
  A part of the proof.
-/
import Derived.Test.YtdlcnihacaboiaaGreatDoorGX
import Derived.Test.YtdlcnihacaboiaaGreatDoorGL
import Derived.Test.YtdlcnihacaboiaaGreatDoorDS3
import Derived.Test.YtdlcnihacaboiaaGreatDoorGG
import Derived.Test.YtdlcnihacaboiaaGreatDoorGM
import Derived.Test.YtdlcnihacaboiaaGreatDoorGV
set_option linter.all false
namespace Go.Proofs
open Go Go.Duo
namespace Tryz
attribute [local irreducible] awL awA awT AW
set_option maxRecDepth 100000 in
set_option maxHeartbeats 8000000 in
theorem rname_spec (k:Int) (p:Bool) (h0:0 ≤ k) (h1:k ≤ 9223372036854775807) (st:List O):Duo.Call Tryz.prog Tryz.gl2 67 [.int .i64 k,.bool p] st (fun v st' => v = .str (nameL k p) ∧ st' = st):=by
  refine Duo.Call.clo fun hst => ?_
  have hl:=Lib.itoa_length_le k (by omega) h1
  refine Duo.Call.body 12 [(0,.int .i64 k),(1,.bool p)] Tryz.func67 rfl rfl ?_
  repeat' first
    | refine AW.seqK fun K hK => ?_
    | (refine hK _ _ ?_;clear hK K)
    | refine AW.region ?_
    | refine awL_call rfl (by exact ent17) (by simp only [go_sem,↓reduceIte];rfl) (by exact up (decimal_spec _ (by omega) (by omega) _)) rfl ?_
    | refine awL_nil ?_
    | refine awL_S1 rfl rfl (by simp (disch:=omega) only [go_sem,↓reduceIte,Nat.reduceEqDiff,Nat.reduceLeDiff];rfl) ?_
    | (refine AW.condK _ rfl (fun hb => ?_) (fun hb => ?_) <;> (skip) <;> skip)
    | refine AW.skip ?_
    | (refine AW.ret ?_;show (_ ∨ _) ∧ _;refine ⟨.inr rfl, ?_⟩;show resP _ _ _ [.tmp 4] _;simp (disch:=omega) only [go_sem,↓reduceIte];refine ⟨_,_,_,Nat.le_refl _,V.le_refl _ _,StLe.refl _, ?_⟩;(simp (disch:=omega) only [go_sem,hst.trim]))
  all_goals (unfold nameL;simp_all)
set_option maxRecDepth 100000 in
set_option maxHeartbeats 8000000 in
theorem pname_spec (k:Int) (p:Bool) (h0:-9223372036854775808 ≤ k) (h1:k ≤ 9223372036854775807) (st:List O):Duo.Call Tryz.prog Tryz.gl2 76 [.int .i64 k,.bool p] st (fun v st' => v = .str (nameL k p) ∧ st' = st):=by
  refine Duo.Call.clo fun hst => ?_
  have hl:=Lib.itoa_length_le k (by omega) h1
  refine Duo.Call.body 12 [(0,.int .i64 k),(1,.bool p)] Tryz.func76 rfl rfl ?_
  repeat' first
    | refine AW.seqK fun K hK => ?_
    | (refine hK _ _ ?_;clear hK K)
    | refine AW.region ?_
    | refine awL_call rfl (by exact ent108) (by simp only [go_sem,↓reduceIte];rfl) (by exact itoa_spec _ (by omega) (by omega) _) rfl ?_
    | refine awL_nil ?_
    | refine awL_S1 rfl rfl (by simp (disch:=omega) only [go_sem,↓reduceIte,Nat.reduceEqDiff,Nat.reduceLeDiff];rfl) ?_
    | (refine AW.condK _ rfl (fun hb => ?_) (fun hb => ?_) <;> (skip) <;> skip)
    | refine AW.skip ?_
    | (refine AW.ret ?_;show (_ ∨ _) ∧ _;refine ⟨.inr rfl, ?_⟩;show resP _ _ _ [.tmp 4] _;simp (disch:=omega) only [go_sem,↓reduceIte];refine ⟨_,_,_,Nat.le_refl _,V.le_refl _ _,StLe.refl _, ?_⟩;(simp (disch:=omega) only [go_sem,hst.trim]))
  all_goals (unfold nameL;simp_all)
theorem u8dec (x:UInt8):decide ((x.toNat:Int) = 43) = decide (x = 43):=by
  refine decide_eq_decide.2 ⟨fun h => UInt8.toNat.inj (by simpa using (show x.toNat = 43 by omega)),fun h => by rw [h];rfl⟩
theorem fold0:((foldD 0 ([]:Str):Nat):Int) = 0:=rfl
set_option maxRecDepth 100000 in
set_option maxHeartbeats 8000000 in
theorem rendpoint_spec (s:Str) (hs:s.length ≤ 9223372036854775807) (st:List O):Duo.Call Tryz.prog Tryz.gl2 74 [.str s] st (fun v st' => v = epV s ∧ st' = st):=by
  refine Duo.Call.clo fun hst => ?_
  refine Duo.Call.body 61 [(0,.str s)] Tryz.func74 rfl rfl ?_
  repeat' first
    | refine AW.seqK fun K hK => ?_
    | (refine hK _ _ ?_;clear hK K)
    | refine AW.region ?_
    | refine AW.any (id:=12) mix 8 (by decide +kernel) ?_
    | refine awL_call rfl (by exact ent67) (by simp only [go_sem,↓reduceIte];rfl) (by exact rname_spec _ _ (by omega) (by omega) _) rfl ?_
    | refine awA_nil (by simp only [applyUps];rfl) ?_
    | refine awL_nil ?_
    | (refine awL_gno rfl ?_ rfl ?_;focus (simp only [S0,↓reduceIte,Nat.reduceEqDiff,Bool.not_true,Bool.not_false];done))
    | (refine awL_gyes rfl ?_ ?_;focus (simp only [S0,↓reduceIte,Nat.reduceEqDiff];done))
    | refine awL_hole rfl rfl rfl rfl ?_
    | (refine awL_gcase rfl rfl (fun hg => ?_) (fun hg => ?_) <;> (rw [hg];(simp only [decide_eq_true_eq,decide_eq_false_iff_not,Int.not_lt,Decidable.not_not] at hg);skip))
    | refine awL_S1 rfl rfl (by simp (disch:=omega) only [go_sem,↓reduceIte,Nat.reduceEqDiff];rfl) ?_
    | refine awA_S1 rfl rfl (by simp (disch:=omega) only [go_sem,↓reduceIte,Nat.reduceEqDiff];rfl) ?_
    | (refine AW.condK _ rfl (fun hb => ?_) (fun hb => ?_) <;> (simp only [Bool.false_eq_true,Bool.true_eq_false,decide_eq_true_eq,decide_eq_false_iff_not,Int.not_lt,Decidable.not_not] at hb) <;> skip)
    | refine AW.block ?_
    | refine bq_s ?_
    | refine AW.exit ?_
    | refine AW.skip ?_
    | refine useK (by assumption) ?_
    | (refine AW.loopS (α:={ i:Nat // i ≤ s.length - 1 ∧ ∀ c ∈ s.take i,dig c = true }) 61 (fun i => [(0,.str s),(5,.int .i64 (foldD 0 (s.take i.1):Nat)),(6,.int .i64 (i.1:Nat))]) (fun i => st) (fun i => s.length - i.1) ⟨0,Nat.zero_le _,by simp⟩ rfl ?_ ?_ ?_;(focus (simp (disch:=omega) only [go_sem,↓reduceIte,Nat.reduceEqDiff,fold0,List.take_zero];done));(focus (simp (disch:=omega) only [go_sem];done));rintro ⟨i,hi,hpre⟩ hlc;dsimp only;have hbd:=foldD_bound hpre (by rw [List.length_take];omega))
    | (have hlt:i < s.length:=(by omega);have huk:=foldD_take hlt;have hp:((foldD 0 (s.take (i + 1)):Nat):Int) = 10 * (foldD 0 (s.take i):Nat) + (s[i].toNat:Int) - 48:=(by omega);refine ⟨⟨i + 1,by omega,dig_take (by omega) hpre (by omega) (by omega)⟩,by simp only [];omega,_,Nat.le_refl _,Nat.le_of_ble_eq_true rfl, ?_, ?_⟩ <;> (simp (disch:=omega) only [go_sem,↓reduceIte,Nat.reduceEqDiff,hp,hlc.trim]))
    | (refine AW.ret ?_;show (_ ∨ _) ∧ _;refine ⟨.inr rfl, ?_⟩;show resP _ _ _ [.tmp 2,.tmp 3,.tmp 4] _;simp (disch:=omega) only [go_sem,↓reduceIte,Nat.reduceEqDiff];refine ⟨_,_,_,Nat.le_refl _,V.le_refl _ _,StLe.refl _, ?_⟩;(simp (disch:=omega) only [go_sem,hst.trim]))
  all_goals (rw [← epV_eq];first | (rw [ref_short (by omega)];done) | (rw [ref_nodig (i:=i) (by omega) (by omega) (by omega)];done) | ((obtain rfl:i = s.length - 1:=(by omega));first | (rw [ref_noname (.inl (by omega))];done) | (rw [ref_noname (.inr ⟨by assumption,by assumption⟩)];done) | (rw [ref_name (n:=foldD 0 (List.take (s.length - 1) s)) (by omega) (by omega) (.inr (by assumption)),u8dec];done) | (rw [ref_name (n:=foldD 0 (List.take (s.length - 1) s)) (by omega) (by omega) (.inl (by assumption)),u8dec];done)))
theorem ifcE_par (s:Str):ifcE Tryz.prog 150 .neq (parE s) = some (.bool (!parOK s)):=by
  have h:isIfc Tryz.prog 150 = true:=by kernel_rfl
  unfold ifcE parE parOK
  cases Lib.parseIntB 32 s <;> simp [h]
theorem snoc_ne (a:Str) (c:UInt8):(a ++ [c] = []) = False:=by simp
theorem cast1 (n:Nat):((n + 1:Nat):Int) - 1 = (n:Int):=by omega
set_option maxRecDepth 100000 in
set_option maxHeartbeats 8000000 in
theorem pendn_spec  (st:List O):Duo.Call Tryz.prog Tryz.gl2 75 [.str ([]:Str)] st (fun v st' => v = epV [] ∧ st' = st):=by
  refine Duo.Call.clo fun hst => ?_
  refine Duo.Call.body 41 [(0,.str ([]:Str))] Tryz.func75 rfl rfl ?_
  repeat' first
    | refine AW.seqK fun K hK => ?_
    | (refine hK _ _ ?_;clear hK K)
    | refine AW.region ?_
    | refine awL_nil ?_
    | refine awL_S1 rfl rfl (by simp (disch:=omega) only [go_sem,↓reduceIte,Nat.reduceEqDiff];rfl) ?_
    | (refine AW.condK _ rfl (fun hb => ?_) (fun hb => ?_) <;> (simp only [Bool.true_eq_false] at hb) <;> skip)
    | (refine AW.ret ?_;show (_ ∨ _) ∧ _;refine ⟨.inr rfl, ?_⟩;show resP _ _ _ [.tmp 2,.tmp 3,.tmp 4] _;simp (disch:=omega) only [go_sem,↓reduceIte,Nat.reduceEqDiff];refine ⟨_,_,_,Nat.le_refl _,V.le_refl _ _,StLe.refl _, ?_⟩;(simp (disch:=omega) only [go_sem,hst.trim]))
  all_goals (rw [← epV_eq];unfold epV;rw [epL_nil])
set_option maxRecDepth 100000 in
set_option maxHeartbeats 8000000 in
theorem pends_spec (a:Str) (c:UInt8) (hal:a.length ≤ 2147483647) (st:List O):Duo.Call Tryz.prog Tryz.gl2 75 [.str (a ++ [c])] st (fun v st' => v = epV (a ++ [c]) ∧ st' = st):=by
  refine Duo.Call.clo fun hst => ?_
  refine Duo.Call.body 41 [(0,.str (a ++ [c]))] Tryz.func75 rfl rfl ?_
  repeat' first
    | refine AW.seqK fun K hK => ?_
    | (refine hK _ _ ?_;clear hK K)
    | refine AW.region ?_
    | refine AW.any (id:=7) mix 6 (by decide +kernel) ?_
    | refine awL_call rfl (by exact ent107) (by simp only [go_sem,↓reduceIte,Nat.reduceEqDiff];rfl) (by first | exact parse_spec a (by omega) _ | exact pname_spec (parN a) _ (by have:=parN_ge (s:=a) (by assumption);omega) (by have:=parseIntB_ok (par_ok (s:=a) (by assumption));omega) _) rfl ?_
    | refine awA_nil (by simp only [applyUps];rfl) ?_
    | refine awL_nil ?_
    | (refine awL_gno rfl ?_ rfl ?_;focus (simp only [S0,↓reduceIte,Nat.reduceEqDiff,Bool.not_false];done))
    | (refine awL_gyes rfl ?_ ?_;focus (simp only [S0,↓reduceIte,Nat.reduceEqDiff];done))
    | (refine awL_gcase rfl rfl (fun hg => ?_) (fun hg => ?_) <;> (rw [hg];(simp only [decide_eq_true_eq,decide_eq_false_iff_not,Bool.not_eq_true',Bool.not_eq_false',Decidable.not_not] at hg);skip))
    | refine awL_S1 rfl rfl (by simp (disch:=omega) only [go_sem,↓reduceIte,Nat.reduceEqDiff,Nat.reduceAdd,Nat.reduceLT,ifcE_par,snoc_drop,snoc_take,snoc_take1,parV_eq,List.length_append,List.length_cons,List.length_nil,snoc_ne,cast1,decide_false];rfl) ?_
    | refine awA_S1 rfl rfl (by simp (disch:=omega) only [go_sem,↓reduceIte,Nat.reduceEqDiff,snoc_drop,snoc_take1,List.length_append,List.length_cons,List.length_nil];rfl) ?_
    | (refine AW.condK _ rfl (fun hb => ?_) (fun hb => ?_) <;> (simp only [Bool.false_eq_true,Bool.true_eq_false,decide_eq_true_eq,decide_eq_false_iff_not,Int.not_lt] at hb) <;> skip)
    | refine AW.skip ?_
    | (refine AW.ret ?_;show (_ ∨ _) ∧ _;refine ⟨.inr rfl, ?_⟩;show resP _ _ _ [.tmp 2,.tmp 3,.tmp 4] _;simp (disch:=omega) only [go_sem,↓reduceIte,Nat.reduceEqDiff];refine ⟨_,_,_,Nat.le_refl _,V.le_refl _ _,StLe.refl _, ?_⟩;(simp (disch:=omega) only [go_sem,hst.trim]))
  all_goals rw [← epV_eq]
  · rw [epL_prog_none fun k hk _ => absurd (par_of_ok hk).1 (by simp_all)]
  · rw [epL_prog_none fun k hk h => absurd ((par_of_ok hk).2 ▸ h) (by assumption)]
  · rw [epL_prog_none fun k hk h => (par_of_ok hk).2 ▸ (by assumption)]
  · rw [epL_prog_some (par_ok (by assumption)) (by assumption) (by omega)]
theorem pendpoint_spec (s:Str) (hsz:s.length ≤ 2147483647) (st:List O):Duo.Call Tryz.prog Tryz.gl2 75 [.str s] st (fun v st' => v = epV s ∧ st' = st):=by
  by_cases hs:s = []
  · subst hs;exact pendn_spec st
  · obtain ⟨a,c,rfl⟩:=snoc s hs
    exact pends_spec a c (by rw [List.length_append] at hsz;omega) st
set_option maxRecDepth 100000 in
set_option maxHeartbeats 8000000 in
theorem rdual_spec (s:Str) (hs:s.length ≤ 2147483647) (st:List O):Duo.Call Tryz.prog Tryz.gl2 68 [.str s] st (fun v st' => v = dualV s ∧ st' = st):=by
  refine Duo.Call.clo fun hst => ?_
  have hek:=epK_lt s
  refine Duo.Call.body 19 [(0,.str s)] Tryz.func68 rfl rfl ?_
  repeat' first
    | refine AW.seqK fun K hK => ?_
    | (refine hK _ _ ?_;clear hK K)
    | refine AW.region ?_
    | refine awL_call rfl (by exact ent74) (by simp only [go_sem,↓reduceIte,Nat.reduceEqDiff];rfl) (by first | exact rendpoint_spec s (by omega) _ | exact rname_spec _ _ (by omega) (by omega) _) rfl ?_
    | refine awL_nil ?_
    | refine awL_S1 rfl rfl (by simp (disch:=omega) only [go_sem,↓reduceIte,Nat.reduceEqDiff,Nat.reduceAdd,Nat.reduceLT,epV_eq];rfl) ?_
    | (refine AW.condK _ rfl (fun hb => ?_) (fun hb => ?_) <;> (simp only [Bool.not_eq_true',Bool.not_eq_false'] at hb) <;> skip)
    | refine AW.skip ?_
    | (refine AW.ret ?_;show (_ ∨ _) ∧ _;refine ⟨.inr rfl, ?_⟩;show resP _ _ _ [.tmp 2,.tmp 3] _;simp (disch:=omega) only [go_sem,↓reduceIte,Nat.reduceEqDiff];refine ⟨_,_,_,Nat.le_refl _,V.le_refl _ _,StLe.refl _, ?_⟩;(simp (disch:=omega) only [go_sem,hst.trim]))
  all_goals simp_all [dualN]
set_option maxRecDepth 100000 in
set_option maxHeartbeats 8000000 in
theorem pdual_spec (s:Str) (hs:s.length ≤ 2147483647) (st:List O):Duo.Call Tryz.prog Tryz.gl2 63 [.str s] st (fun v st' => v = dualV s ∧ st' = st):=by
  refine Duo.Call.clo fun hst => ?_
  have hek:=epK_lt s
  refine Duo.Call.body 19 [(0,.str s)] Tryz.func63 rfl rfl ?_
  repeat' first
    | refine AW.seqK fun K hK => ?_
    | (refine hK _ _ ?_;clear hK K)
    | refine AW.region ?_
    | refine awL_call rfl (by exact ent75) (by simp only [go_sem,↓reduceIte,Nat.reduceEqDiff];rfl) (by first | exact pendpoint_spec s (by omega) _ | exact pname_spec _ _ (by omega) (by omega) _) rfl ?_
    | refine awL_nil ?_
    | refine awL_S1 rfl rfl (by simp (disch:=omega) only [go_sem,↓reduceIte,Nat.reduceEqDiff,Nat.reduceAdd,Nat.reduceLT,epV_eq];rfl) ?_
    | (refine AW.condK _ rfl (fun hb => ?_) (fun hb => ?_) <;> (simp only [Bool.not_eq_true',Bool.not_eq_false'] at hb) <;> skip)
    | refine AW.skip ?_
    | (refine AW.ret ?_;show (_ ∨ _) ∧ _;refine ⟨.inr rfl, ?_⟩;show resP _ _ _ [.tmp 2,.tmp 3] _;simp (disch:=omega) only [go_sem,↓reduceIte,Nat.reduceEqDiff];refine ⟨_,_,_,Nat.le_refl _,V.le_refl _ _,StLe.refl _, ?_⟩;(simp (disch:=omega) only [go_sem,hst.trim]))
  all_goals simp_all [dualN]
end Tryz
end Go.Proofs
