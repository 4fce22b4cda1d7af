/-
  A part of the proof.
-/
import Derived.Test.YtdlcnihacaboiaaGreatDoorSubLib
import Derived.Test.YtdlcnihacaboiaaGreatDoorGL
import Derived.Test.YtdlcnihacaboiaaGreatDoorDS3
import Derived.Test.YtdlcnihacaboiaaGreatDoorDLate3
import Derived.Test.YtdlcnihacaboiaaGreatDoorGM
import Derived.Test.YtdlcnihacaboiaaGreatDoorSubB
import Derived.Test.YtdlcnihacaboiaaGreatDoorSubAwake
import Derived.Test.YtdlcnihacaboiaaGreatDoorGN
set_option linter.all false
namespace Go.Proofs
open Go Go.Duo
namespace Tryz
attribute [local irreducible] awL awA awT AW
set_option maxRecDepth 100000 in
set_option maxHeartbeats 8000000 in
theorem free_spec (p:Pr) (hz:p.sz ≤ 300) (hd:p.dp ≤ 150) (ha:smA p) (st:List O):Duo.Call Tryz.prog Tryz.gl 16 [encP p] st (fun v st' => v = .sl ((freeS p).map .str) none ∧ st' = st):=by
  refine Duo.Call.clo fun hst => ?_
  have hul:=uses_len p [] ha
  refine Duo.Call.body 29 [(0,encP p)] Tryz.func16 rfl rfl ?_
  repeat' first
    | refine AW.seqK fun K hK => ?_
    | (refine hK _ _ ?_;clear hK K)
    | refine AW.region ?_
    | refine awL_call rfl (by exact ent57) (by simp only [go_sem,↓reduceIte,Nat.reduceEqDiff];rfl) (by first | exact Duo.Call.argle (by repeat' (first | exact trivial | exact V.le_refl _ _ | exact V.le_nil _ | refine ⟨?_, ?_⟩)) (uses_spec p [] hz ha (by simp only [List.length_nil];omega) _) | exact in3t_spec _ _ _ (by omega) _) rfl ?_
    | refine awL_nil ?_
    | refine awL_S1 rfl rfl (by simp (disch:=omega) only [go_sem,↓reduceIte,Nat.reduceEqDiff,Nat.reduceAdd,Nat.reduceLeDiff,Nat.reduceMul,List.length_map,List.length_append];rfl) ?_
    | (refine AW.condK _ rfl (fun hb => ?_) (fun hb => ?_) <;> (simp only [decide_eq_true_eq,decide_eq_false_iff_not,Bool.not_eq_true',Bool.not_eq_false'] at hb) <;> skip)
    | refine AW.block ?_
    | refine bq_s ?_
    | refine AW.exit ?_
    | refine AW.skip ?_
    | refine useK (by assumption) ?_
    | (refine AW.tok 9 1 ?_;rw [List.append_assoc];simp only [List.cons_append,List.nil_append];refine AW.loopS (α:={ i:Nat // i ≤ (usesP p []).length }) 29 (fun i => [(3,.sl ((usesP p []).map .str) none),(4,.sl ((dedS ((usesP p []).take i.1)).map .str) (some (st.length + 1))),(5,.int .i64 (i.1:Nat))]) (fun i => st ++ [.box 29 (encP p).cells,.tok 9 1 (dedS ((usesP p []).take i.1)).length]) (fun i => (usesP p []).length - i.1) ⟨0,Nat.zero_le _⟩ rfl ?_ ?_ ?_;(focus (simp (disch:=omega) only [go_sem,↓reduceIte,Nat.reduceEqDiff,dedS,List.foldl_nil,List.take_zero,List.map_nil];done));(focus (simp (disch:=omega) only [go_sem,dedS,List.foldl_nil,List.take_zero,List.length_nil];done));rintro ⟨i,hi⟩ hlc;dsimp only;have hdl:=dedS_len ((usesP p []).take i);have hdl2:((usesP p []).take i).length ≤ 600000300:=(by rw [List.length_take];omega))
    | (have hp:=dedS_no (l:=(usesP p [])) (by assumption) (by assumption);refine ⟨⟨i + 1,by omega⟩,by simp only [];omega,_,Nat.le_refl _,Nat.le_of_ble_eq_true rfl, ?_, ?_⟩ <;> (simp (disch:=omega) only [go_sem,↓reduceIte,Nat.reduceEqDiff,Nat.reduceAdd,List.map_append,List.map_cons,List.map_nil,List.length_append,List.length_cons,List.length_nil,hp,List.length_append,trimS_app hst];done))
    | (have hp:=dedS_yes (l:=(usesP p [])) (by assumption) (by assumption);refine ⟨⟨i + 1,by omega⟩,by simp only [];omega,_,Nat.le_refl _,Nat.le_of_ble_eq_true rfl, ?_, ?_⟩ <;> (simp (disch:=omega) only [go_sem,↓reduceIte,Nat.reduceEqDiff,Nat.reduceAdd,List.map_cons,List.map_nil,List.length_append,List.length_cons,List.length_nil,hp,List.length_append,trimS_app hst]))
    | (refine AW.ret ?_;show (_ ∨ _) ∧ _;refine ⟨.inr rfl, ?_⟩;show resP _ _ _ [.tmp 2] _;simp (disch:=omega) only [go_sem,↓reduceIte];refine ⟨_,_,_,Nat.le_refl _,V.le_refl _ _,StLe.refl _, ?_⟩;(simp (disch:=omega) only [go_sem,hst.trim_append]))
  (unfold freeS;rw [show (usesP p []).take i = (usesP p []) from List.take_of_length_le (by omega)])
end Tryz
end Go.Proofs

namespace Go.Proofs
open Go Go.Duo
namespace Tryz
attribute [local irreducible] awL awA awT AW
set_option maxRecDepth 100000 in
set_option maxHeartbeats 8000000 in
theorem decimal_aux (m:Nat):∀ (n:Int) (_:n.toNat < m) (h0:0 ≤ n) (h1:n ≤ 9223372036854775807) (st:List O),Duo.Call Tryz.prog Tryz.gl 17 [.int .i64 n] st (fun v st' => v = .str (Lib.itoa n) ∧ st' = st):=by
  induction m with
  | zero => intro n h;omega
  | succ m ih =>
  intro n hm h0 h1 st
  refine Duo.Call.clo fun hst => ?_
  have hl:=Lib.itoa_length_le (n / 10) (by omega) (by omega)
  have hl2:(List.drop (n % 10).toNat (List.take (n % 10 + 1).toNat ([48,49,50,51,52,53,54,55,56,57]:Str))).length ≤ 1:=by rw [List.length_drop,List.length_take];omega
  refine Duo.Call.body 28 [(0,.int .i64 n)] Tryz.func17 rfl rfl ?_
  repeat' first
    | refine AW.seqK fun K hK => ?_
    | (refine hK _ _ ?_;clear hK K)
    | refine AW.region ?_
    | refine awL_call rfl (by exact ent17) (by simp only [go_sem,↓reduceIte];rfl) (by exact ih _ (by omega) (by omega) (by omega) _) rfl ?_
    | refine awL_nil ?_
    | refine awL_S1 rfl rfl (by simp (disch:=omega) only [go_sem,↓reduceIte,Nat.reduceEqDiff,Nat.reduceAdd];rfl) ?_
    | (refine AW.condK _ rfl (fun hb => ?_) (fun hb => ?_) <;> (simp only [decide_eq_true_eq,decide_eq_false_iff_not,Int.not_lt] at hb) <;> try (exfalso;omega))
    | refine AW.skip ?_
    | (refine AW.ret ?_;show (_ ∨ _) ∧ _;refine ⟨.inr rfl, ?_⟩;show resP _ _ _ [.tmp 2] _;simp (disch:=omega) only [go_sem,↓reduceIte];refine ⟨_,_,_,Nat.le_refl _,V.le_refl _ _,StLe.refl _, ?_⟩;(simp (disch:=omega) only [go_sem,hst.trim]))
  all_goals first | exact congrArg V.str (itoa_small (by omega) (by omega)) | exact congrArg V.str (itoa_big (by omega))
theorem decimal_spec (n:Int) (h0:0 ≤ n) (h1:n ≤ 9223372036854775807) (st:List O):Duo.Call Tryz.prog Tryz.gl 17 [.int .i64 n] st (fun v st' => v = .str (Lib.itoa n) ∧ st' = st):=decimal_aux _ n (Nat.lt_succ_self _) h0 h1 st
set_option maxRecDepth 100000 in
set_option maxHeartbeats 8000000 in
theorem index_spec (l:List Str) (c:Str) (hl:l.length ≤ 9223372036854775807) (st:List O):Duo.Call Tryz.prog Tryz.gl 93 [.sl (l.map .str) none,.str c] st (fun v st' => v = .int .i64 (idxL l c) ∧ st' = st):=by
  refine Duo.Call.clo fun hst => ?_
  refine Duo.Call.body 19 [(0,.sl (l.map .str) none),(1,.str c)] Tryz.func93 rfl rfl ?_
  repeat' first
    | refine AW.seqK fun K hK => ?_
    | (refine hK _ _ ?_;clear hK K)
    | refine AW.region ?_
    | refine awL_nil ?_
    | refine awL_S1 rfl rfl (by simp (disch:=omega) only [go_sem,↓reduceIte,Nat.reduceEqDiff];rfl) ?_
    | (refine AW.condK _ rfl (fun hb => ?_) (fun hb => ?_) <;> (simp only [decide_eq_true_eq,decide_eq_false_iff_not] at hb) <;> skip)
    | refine AW.block ?_
    | refine bq_s ?_
    | refine AW.exit ?_
    | refine AW.skip ?_
    | refine useK (by assumption) ?_
    | (refine AW.loopS (α:={ i:Nat // i ≤ l.length ∧ c ∉ l.take i }) 19 (fun i => [(0,.sl (l.map .str) none),(1,.str c),(7,.int .i64 l.length),(8,.int .i64 (i.1:Nat))]) (fun i => st) (fun i => l.length - i.1) ⟨0,Nat.zero_le _,by simp⟩ rfl ?_ ?_ ?_;(focus (simp (disch:=omega) only [go_sem,↓reduceIte,Nat.reduceEqDiff];done));(focus (simp (disch:=omega) only [go_sem];done));rintro ⟨i,hi,hni⟩ hlc;dsimp only)
    | (refine ⟨⟨i + 1,by omega,notin_step hni (by omega) (fun h => absurd h.symm (by assumption))⟩,by simp only [];omega,_,Nat.le_refl _,Nat.le_of_ble_eq_true rfl, ?_, ?_⟩ <;> (simp (disch:=omega) only [go_sem,↓reduceIte,Nat.reduceEqDiff,hlc.trim]))
    | (refine AW.ret ?_;show (_ ∨ _) ∧ _;refine ⟨.inr rfl, ?_⟩;show resP _ _ _ [.tmp 4] _;simp (disch:=omega) only [go_sem,↓reduceIte];refine ⟨_,_,_,Nat.le_refl _,V.le_refl _ _,StLe.refl _, ?_⟩;(simp (disch:=omega) only [go_sem,hst.trim]))
  all_goals first | (rw [idxL_at hni (by omega) (Eq.symm (by assumption))];done) | (rw [idxL_none (by rwa [List.take_of_length_le (by omega)] at hni)];done)
set_option maxRecDepth 100000 in
set_option maxHeartbeats 8000000 in
theorem contains_spec (l:List Str) (c:Str) (hl:l.length ≤ 9223372036854775807) (st:List O):Duo.Call Tryz.prog Tryz.gl 58 [.sl (l.map .str) none,.str c] st (fun v st' => v = .bool (decide (c ∈ l)) ∧ st' = st):=by
  refine Duo.Call.clo fun hst => ?_
  refine Duo.Call.body 9 [(0,.sl (l.map .str) none),(1,.str c)] Tryz.func58 rfl rfl ?_
  repeat' first
    | refine AW.seqK fun K hK => ?_
    | (refine hK _ _ ?_;clear hK K)
    | refine AW.region ?_
    | refine awL_call rfl (by exact ent93) (by simp only [go_sem,↓reduceIte,Nat.reduceEqDiff];rfl) (by exact index_spec _ _ hl _) rfl ?_
    | refine awL_nil ?_
    | refine awL_S1 rfl rfl (by simp (disch:=omega) only [go_sem,↓reduceIte,Nat.reduceEqDiff];rfl) ?_
    | (refine AW.ret ?_;show (_ ∨ _) ∧ _;refine ⟨.inr rfl, ?_⟩;show resP _ _ _ [.tmp 4] _;simp (disch:=omega) only [go_sem,↓reduceIte];refine ⟨_,_,_,Nat.le_refl _,V.le_refl _ _,StLe.refl _, ?_⟩;(simp (disch:=omega) only [go_sem,hst.trim]))
  all_goals (rw [idxL_ge])
theorem containsT_spec (s:Str) (l:List Str) (tk:Option Nat) (hl:l.length ≤ 9223372036854775807) (st:List O):Duo.Call Tryz.prog Tryz.gl 58 [.sl (l.map .str) tk,.str s] st (fun v st' => v = .bool (decide (s ∈ l)) ∧ st' = st) :=
  Duo.Call.argle (show CLe _ [_,_] [_,_] from ⟨V.le_sl _ _ _,V.le_refl _ _,trivial⟩) (contains_spec l s hl st)
end Tryz
end Go.Proofs
