/-
  A part of the proof.
-/
import Derived.Test.YtdlcnihacaboiaaGreatDoorSubLib
import Derived.Test.YtdlcnihacaboiaaGreatDoorGM
import Derived.Test.YtdlcnihacaboiaaGreatDoorDS3
import Derived.Test.YtdlcnihacaboiaaGreatDoorDLate3
import Derived.Test.YtdlcnihacaboiaaGreatDoorGI
import Derived.Test.YtdlcnihacaboiaaGreatDoorGN
import Derived.Test.YtdlcnihacaboiaaGreatDoorZProgC
set_option linter.all false
namespace Go.Proofs
open Go Go.Duo
namespace Tryz
attribute [local irreducible] awL awA awT AW
set_option maxRecDepth 100000 in
set_option maxHeartbeats 8000000 in
theorem psize_spec:∀ (t:Pr) (h:t.sz ≤ 1000000) (st:List O),Duo.Call Tryz.prog Tryz.gl 55 [encP t] st (fun v st' => v = .int .i64 (t.sz:Nat) ∧ st' = st):=Pr.ind' fun t ih => by
  intro h st
  refine Duo.Call.clo fun hst => ?_
  have hz:=Pr.sz_eq t
  have hzl:=Pr.szs_len t.kids
  refine Duo.Call.body 21 [(0,encP t)] Tryz.func55 rfl rfl ?_
  repeat' first
    | refine AW.seqK fun K hK => ?_
    | (refine hK _ _ ?_;clear hK K)
    | refine AW.region ?_
    | refine awL_call rfl (by exact ent55) (by simp only [go_sem,↓reduceIte];rfl) (by exact ih _ (List.getElem_mem _) (by omega) _) rfl ?_
    | refine awL_nil ?_
    | ((fail_if_success (clear hjq));(rcases Nat.lt_or_ge i t.kids.length with hq | hq;rotate_left;focus (exfalso;omega));have hjq:True:=trivial;have hs1:=Pr.szs_take hq;have hs2:=Pr.szs_le (l:=t.kids) (i + 1))
    | refine awL_S1 rfl rfl (by simp (disch:=omega) only [go_sem,↓reduceIte,Nat.reduceEqDiff,Nat.reduceAdd,Nat.reduceLT];rfl) ?_
    | (refine AW.condK _ rfl (fun hb => ?_) (fun hb => ?_) <;> (simp only [decide_eq_true_eq,decide_eq_false_iff_not] at hb) <;> skip)
    | refine AW.block ?_
    | refine bq_s ?_
    | refine AW.exit ?_
    | refine AW.skip ?_
    | refine useK (by assumption) ?_
    | (refine AW.loopS (α:={ i:Nat // i ≤ t.kids.length }) 21 (fun i => [(1,.ptr st.length 0),(3,.int .i64 (1 + Pr.szs (t.kids.take i.1):Nat)),(4,.int .i64 (i.1:Nat))]) (fun i => st ++ [.box 29 (encP t).cells]) (fun i => t.kids.length - i.1) ⟨0,Nat.zero_le _⟩ rfl ?_ ?_ ?_;(focus (simp (disch:=omega) only [go_sem,↓reduceIte,Nat.reduceEqDiff,List.take_zero,Pr.szs,Nat.add_zero];done));(focus (simp (disch:=omega) only [go_sem];done));rintro ⟨i,hi⟩ hlc;dsimp only)
    | (refine ⟨⟨i + 1,by omega⟩,by simp only [];omega,_,Nat.le_refl _,Nat.le_of_ble_eq_true rfl, ?_, ?_⟩ <;> (simp (disch:=omega) only [go_sem,↓reduceIte,Nat.reduceEqDiff,hs1,List.length_append,trimS_app hst]))
    | (refine AW.ret ?_;show (_ ∨ _) ∧ _;refine ⟨.inr rfl, ?_⟩;show resP _ _ _ [.tmp 2] _;simp (disch:=omega) only [go_sem,↓reduceIte];refine ⟨_,_,_,Nat.le_refl _,V.le_refl _ _,StLe.refl _, ?_⟩;(simp (disch:=omega) only [go_sem,hst.trim_append]))
  rw [List.take_of_length_le (by omega),hz]
set_option maxRecDepth 100000 in
set_option maxHeartbeats 8000000 in
theorem pdepth_spec:∀ (t:Pr) (h:t.sz ≤ 1000000) (st:List O),Duo.Call Tryz.prog Tryz.gl 54 [encP t] st (fun v st' => v = .int .i64 (t.dp:Nat) ∧ st' = st):=Pr.ind' fun t ih => by
  intro h st
  refine Duo.Call.clo fun hst => ?_
  have hz:=Pr.sz_eq t
  have hzl:=Pr.szs_len t.kids
  have hd:=Pr.dp_eq t
  have hdl:=Pr.dp_le t
  refine Duo.Call.body 22 [(0,encP t)] Tryz.func54 rfl rfl ?_
  repeat' first
    | refine AW.seqK fun K hK => ?_
    | (refine hK _ _ ?_;clear hK K)
    | refine AW.region ?_
    | refine awL_call rfl (by exact ent54) (by simp only [go_sem,↓reduceIte];rfl) (by exact ih _ (List.getElem_mem _) (by omega) _) rfl ?_
    | refine awL_nil ?_
    | ((fail_if_success (clear hjq));(rcases Nat.lt_or_ge i t.kids.length with hq | hq;rotate_left;focus (exfalso;omega));have hjq:True:=trivial;have hs1:=Pr.szs_take hq;have hs2:=Pr.szs_le (l:=t.kids) (i + 1);have hd1:=Pr.dps_take hq)
    | refine awL_S1 rfl rfl (by simp (disch:=omega) only [go_sem,↓reduceIte,Nat.reduceEqDiff,Nat.reduceAdd,Nat.reduceLT];rfl) ?_
    | (refine AW.condK _ rfl (fun hb => ?_) (fun hb => ?_) <;> (simp only [decide_eq_true_eq,decide_eq_false_iff_not] at hb) <;> skip)
    | refine AW.block ?_
    | refine bq_s ?_
    | refine AW.exit ?_
    | refine AW.skip ?_
    | refine useK (by assumption) ?_
    | (refine AW.loopS (α:={ i:Nat // i ≤ t.kids.length }) 22 (fun i => [(1,.ptr st.length 0),(3,.int .i64 (Pr.dps (t.kids.take i.1):Nat)),(4,.int .i64 (i.1:Nat))]) (fun i => st ++ [.box 29 (encP t).cells]) (fun i => t.kids.length - i.1) ⟨0,Nat.zero_le _⟩ rfl ?_ ?_ ?_;(focus (simp (disch:=omega) only [go_sem,↓reduceIte,Nat.reduceEqDiff,List.take_zero,Pr.dps];done));(focus (simp (disch:=omega) only [go_sem];done));rintro ⟨i,hi⟩ hlc;dsimp only;have hdd:=Pr.dps_le (l:=t.kids) i)
    | (refine ⟨⟨i + 1,by omega⟩,by simp only [];omega,_,Nat.le_refl _,Nat.le_of_ble_eq_true rfl, ?_, ?_⟩ <;> (simp (disch:=omega) only [go_sem,↓reduceIte,Nat.reduceEqDiff,hd1,List.length_append,trimS_app hst]))
    | (refine AW.ret ?_;show (_ ∨ _) ∧ _;refine ⟨.inr rfl, ?_⟩;show resP _ _ _ [.tmp 2] _;simp (disch:=omega) only [go_sem,↓reduceIte];refine ⟨_,_,_,Nat.le_refl _,V.le_refl _ _,StLe.refl _, ?_⟩;(simp (disch:=omega) only [go_sem,hst.trim_append]))
  rw [List.take_of_length_le (by omega),hd]
set_option maxRecDepth 100000 in
set_option maxHeartbeats 8000000 in
theorem ptypes_spec:∀ (t:Pr) (h:t.tz ≤ 1000000) (h3:t.sz ≤ 1000000) (h4:tyS t) (st:List O),Duo.Call Tryz.prog Tryz.gl 183 [encP t] st (fun v st' => v = .int .i64 (t.tz:Nat) ∧ st' = st):=Pr.ind' fun t ih => by
  intro h h3 h4 st
  refine Duo.Call.clo fun hst => ?_
  have hz:=Pr.tz_eq t
  have hzs:=Pr.sz_eq t
  have hzl:=Pr.szs_len t.kids
  have h5:=(tyS_iff t).1 h4
  refine Duo.Call.body 27 [(0,encP t)] Tryz.func183 rfl rfl ?_
  repeat' first
    | refine AW.seqK fun K hK => ?_
    | (refine hK _ _ ?_;clear hK K)
    | refine AW.region ?_
    | refine awL_call rfl (by exact ent184) (by simp only [go_sem,↓reduceIte];rfl) (by first | exact size_spec _ (by omega) _ | exact ih _ (List.getElem_mem _) (by have:=Pr.tzs_mem (List.getElem_mem (l:=t.kids) hq);omega) (by have:=Pr.szs_mem (List.getElem_mem (l:=t.kids) hq);omega) (h5.2 _ (List.getElem_mem hq)) _) rfl ?_
    | refine awL_nil ?_
    | ((fail_if_success (clear hjq));(rcases Nat.lt_or_ge i t.kids.length with hq | hq;rotate_left;focus (exfalso;omega));have hjq:True:=trivial;have hs1:=Pr.tzs_take hq;have hs2:=Pr.tzs_le (l:=t.kids) (i + 1))
    | refine awL_S1 rfl rfl (by simp (disch:=omega) only [go_sem,↓reduceIte,Nat.reduceEqDiff,Nat.reduceAdd,Nat.reduceLeDiff,Nat.reduceLT];rfl) ?_
    | (refine AW.condK _ rfl (fun hb => ?_) (fun hb => ?_) <;> (simp only [decide_eq_true_eq,decide_eq_false_iff_not] at hb) <;> skip)
    | refine AW.block ?_
    | refine bq_s ?_
    | refine AW.exit ?_
    | refine AW.skip ?_
    | refine useK (by assumption) ?_
    | (refine AW.loopS (α:={ i:Nat // i ≤ t.kids.length }) 27 (fun i => [(1,.ptr st.length 0),(3,.int .i64 ((if t.kind = 6 then t.typ.sz else 0) + Pr.tzs (t.kids.take i.1):Nat)),(4,.int .i64 (i.1:Nat))]) (fun i => st ++ [.box 29 (encP t).cells]) (fun i => t.kids.length - i.1) ⟨0,Nat.zero_le _⟩ rfl ?_ ?_ ?_;(focus (simp (disch:=omega) only [go_sem,↓reduceIte,Nat.reduceEqDiff,List.take_zero,Pr.tzs,Nat.add_zero];done));(focus (simp (disch:=omega) only [go_sem];done));rintro ⟨i,hi⟩ hlc;dsimp only)
    | (refine ⟨⟨i + 1,by omega⟩,by simp only [];omega,_,Nat.le_refl _,Nat.le_of_ble_eq_true rfl, ?_, ?_⟩ <;> (simp (disch:=omega) only [go_sem,↓reduceIte,Nat.reduceEqDiff,hs1,List.length_append,trimS_app hst]))
    | (refine AW.ret ?_;show (_ ∨ _) ∧ _;refine ⟨.inr rfl, ?_⟩;show resP _ _ _ [.tmp 2] _;simp (disch:=omega) only [go_sem,↓reduceIte];refine ⟨_,_,_,Nat.le_refl _,V.le_refl _ _,StLe.refl _, ?_⟩;(simp (disch:=omega) only [go_sem,hst.trim_append]))
  all_goals (rw [List.take_of_length_le (by omega),hz])
  · rw [if_pos (by assumption)]
  · rw [if_neg (by assumption),Nat.zero_add]
set_option maxRecDepth 100000 in
set_option maxHeartbeats 8000000 in
theorem name3_spec (s:Str) (hs:s.length ≤ 9223372036854775807) (st:List O):Duo.Call Tryz.prog Tryz.gl 138 [.str s] st (fun v st' => v = .bool (nameB s) ∧ st' = st):=by
  refine Duo.Call.clo fun hst => ?_
  refine Duo.Call.body 5 [(0,.str s)] Tryz.func138 rfl rfl ?_
  repeat' first
    | refine AW.seqK fun K hK => ?_
    | (refine hK _ _ ?_;clear hK K)
    | refine AW.region ?_
    | refine awL_call rfl (by exact ent185) (by simp only [go_sem,↓reduceIte];rfl) (by exact refname_spec _ hs _) rfl ?_
    | refine awL_nil ?_
    | refine awL_S1 rfl rfl (by simp (disch:=omega) only [go_sem,↓reduceIte,Nat.reduceEqDiff];rfl) ?_
    | (refine AW.ret ?_;show (_ ∨ _) ∧ _;refine ⟨.inr rfl, ?_⟩;show resP _ _ _ [.tmp 2] _;simp (disch:=omega) only [go_sem,↓reduceIte];refine ⟨_,_,_,Nat.le_refl _,V.le_refl _ _,StLe.refl _, ?_⟩;(simp (disch:=omega) only [go_sem,hst.trim]))
set_option maxRecDepth 100000 in
set_option maxHeartbeats 8000000 in
theorem value_spec (x:Vl) (ho:okV x) (st:List O):Duo.Call Tryz.prog Tryz.gl 136 [encV x] st (fun v st' => v = .bool (valueB x) ∧ st' = st):=by
  refine Duo.Call.clo fun hst => ?_
  refine Duo.Call.body 46 [(0,encV x)] Tryz.func136 rfl rfl ?_
  repeat' first
    | refine AW.seqK fun K hK => ?_
    | (refine hK _ _ ?_;clear hK K)
    | refine AW.region ?_
    | refine awL_call rfl (by exact ent138) (by simp only [go_sem,↓reduceIte];rfl) (by exact name3_spec _ ho.2.1 _) rfl ?_
    | refine awL_nil ?_
    | (refine awL_gno rfl ?_ rfl ?_;focus (simp only [S0,↓reduceIte,Nat.reduceEqDiff,Bool.not_true,Bool.not_false];done))
    | (refine awL_gyes rfl ?_ ?_;focus (simp only [S0,↓reduceIte,Nat.reduceEqDiff];done))
    | refine awL_hole rfl rfl rfl rfl ?_
    | (refine awL_gcase rfl rfl (fun hg => ?_) (fun hg => ?_) <;> (rw [hg];(try simp only [decide_eq_true_eq,decide_eq_false_iff_not] at hg);try (exfalso;omega)))
    | refine awL_S1 rfl rfl (by simp (disch:=omega) only [go_sem,↓reduceIte,Nat.reduceEqDiff,Nat.reduceAdd,Nat.reduceLeDiff,Nat.reduceLT];rfl) ?_
    | (refine AW.ret ?_;show (_ ∨ _) ∧ _;refine ⟨.inr rfl, ?_⟩;show resP _ _ _ [.tmp 2] _;simp (disch:=omega) only [go_sem,↓reduceIte];refine ⟨_,_,_,Nat.le_refl _,V.le_refl _ _,StLe.refl _, ?_⟩;(simp (disch:=omega) only [go_sem,hst.trim_append]))
  all_goals (clear ho;simp_all [valueB])
set_option maxRecDepth 100000 in
set_option maxHeartbeats 8000000 in
theorem plain_spec (t:Pr) (ho:okP t) (st:List O):Duo.Call Tryz.prog Tryz.gl 137 [encP t] st (fun v st' => v = .bool (plainB t) ∧ st' = st):=by
  refine Duo.Call.clo fun hst => ?_
  refine Duo.Call.body 7 [(0,encP t)] Tryz.func137 rfl rfl ?_
  repeat' first
    | refine AW.seqK fun K hK => ?_
    | (refine hK _ _ ?_;clear hK K)
    | refine AW.region ?_
    | refine awL_call rfl (by exact ent60) (by simp only [go_sem,↓reduceIte,Nat.reduceEqDiff];rfl) (by (exact Duo.Call.argle (by repeat' (first | exact trivial | exact V.le_refl _ _ | exact V.le_nil _ | (refine V.le_aggL ?_) | refine ⟨?_, ?_⟩)) (sameT_spec _ Ty.zero ho.typ _))) rfl ?_
    | refine awL_nil ?_
    | refine awL_S1 rfl rfl (by simp (disch:=omega) only [go_sem,↓reduceIte,Nat.reduceEqDiff,Nat.reduceAdd,Nat.reduceLeDiff];rfl) ?_
    | (refine AW.ret ?_;show (_ ∨ _) ∧ _;refine ⟨.inr rfl, ?_⟩;show resP _ _ _ [.tmp 2] _;simp (disch:=omega) only [go_sem,↓reduceIte];refine ⟨_,_,_,Nat.le_refl _,V.le_refl _ _,StLe.refl _, ?_⟩;(simp (disch:=omega) only [go_sem,hst.trim_append]))
  rfl
set_option maxRecDepth 100000 in
set_option maxHeartbeats 8000000 in
theorem in3_spec (s:Str) (l:List Str) (hn:l.length ≤ 9223372036854775807) (st:List O):Duo.Call Tryz.prog Tryz.gl 22 [.str s,.sl (l.map .str) none] st (fun v st' => v = .bool (decide (s ∈ l)) ∧ st' = st):=by
  refine Duo.Call.clo fun hst => ?_
  refine Duo.Call.body 18 [(0,.str s),(1,.sl (l.map .str) none)] Tryz.func22 rfl rfl ?_
  repeat' first
    | refine AW.seqK fun K hK => ?_
    | (refine hK _ _ ?_;clear hK K)
    | refine AW.region ?_
    | refine awL_nil ?_
    | refine awL_S1 rfl rfl (by simp (disch:=omega) only [go_sem,↓reduceIte,Nat.reduceEqDiff];rfl) ?_
    | (refine AW.condK _ rfl (fun hb => ?_) (fun hb => ?_) <;> (simp only [decide_eq_true_eq,decide_eq_false_iff_not] at hb) <;> skip)
    | refine AW.block ?_
    | refine bq_s ?_
    | refine AW.exit ?_
    | refine AW.skip ?_
    | refine useK (by assumption) ?_
    | (refine AW.loopS (α:={ i:Nat // i ≤ l.length ∧ s ∉ l.take i }) 18 (fun i => [(0,.str s),(1,.sl (l.map .str) none),(5,.int .i64 (i.1:Nat))]) (fun i => st) (fun i => l.length - i.1) ⟨0,Nat.zero_le _,by simp⟩ rfl ?_ ?_ ?_;(focus (simp (disch:=omega) only [go_sem,↓reduceIte,Nat.reduceEqDiff];done));(focus (simp (disch:=omega) only [go_sem];done));rintro ⟨i,hi,hpre⟩ hlc;dsimp only)
    | (refine ⟨⟨i + 1,by omega,notin_at hpre (by omega) (by assumption)⟩,by simp only [];omega,_,Nat.le_refl _,Nat.le_of_ble_eq_true rfl, ?_, ?_⟩ <;> (simp (disch:=omega) only [go_sem,↓reduceIte,Nat.reduceEqDiff,hlc.trim]))
    | (refine AW.ret ?_;show (_ ∨ _) ∧ _;refine ⟨.inr rfl, ?_⟩;show resP _ _ _ [.tmp 4] _;simp (disch:=omega) only [go_sem,↓reduceIte];refine ⟨_,_,_,Nat.le_refl _,V.le_refl _ _,StLe.refl _, ?_⟩;(simp (disch:=omega) only [go_sem,hst.trim]))
  · rw [decide_eq_true (by rw [← (by assumption:l[i] = s)];exact List.getElem_mem _)]
  · rw [decide_eq_false (by rw [← List.take_of_length_le (show l.length ≤ i by omega)];exact hpre)]
set_option maxRecDepth 100000 in
set_option maxHeartbeats 8000000 in
theorem left_spec:∀ (t:Pr) (m:Int) (h0:0 ≤ m) (h1:m ≤ 1000000) (ho:okP t) (st:List O),Duo.Call Tryz.prog Tryz.gl 53 [encP t,.int .i64 m] st (fun v st' => v = .int .i64 (leftPr t m) ∧ st' = st):=Pr.ind' fun t ih => by
  intro m h0 h1 ho st
  refine Duo.Call.clo fun hst => ?_
  have hl:=((okP_iff t).1 ho).2.2.2.2.2.2.1
  unfold inL at hl
  rw [leftPr_eq]
  refine Duo.Call.body 31 [(0,encP t),(1,.int .i64 m)] Tryz.func53 rfl rfl ?_
  repeat' first
    | refine AW.seqK fun K hK => ?_
    | (refine hK _ _ ?_;clear hK K)
    | refine AW.region ?_
    | refine awL_call rfl (by exact ent91) (by simp only [go_sem,↓reduceIte,Nat.reduceEqDiff];rfl) (by first | exact few_spec _ _ (by omega) (by omega) ho.typ _ | exact ih _ (List.getElem_mem _) _ (by omega) (by omega) (ho.kid (List.getElem_mem _)) _) rfl ?_
    | refine awL_nil ?_
    | ((fail_if_success (clear hjq));(rcases Nat.lt_or_ge i t.kids.length with hq | hq;rotate_left;focus (exfalso;omega));have hjq:True:=trivial;(rcases Int.lt_or_le a 0 with hq2 | hq2;focus (exfalso;omega));have hs1:=leftPrs_step hq hq2;have hs2:=leftPr_spec t.kids[i] a hq2)
    | (refine awL_gno rfl ?_ rfl ?_;focus (simp only [S0,↓reduceIte,Nat.reduceEqDiff,Bool.not_true];done))
    | (refine awL_gyes rfl ?_ ?_;focus (simp only [S0,↓reduceIte,Nat.reduceEqDiff];done))
    | (refine awL_gcase rfl rfl (fun hg => ?_) (fun hg => ?_) <;> (rw [hg];(simp only [decide_eq_true_eq,decide_eq_false_iff_not] at hg);skip))
    | refine awL_S1 rfl rfl (by simp (disch:=omega) only [go_sem,↓reduceIte,Nat.reduceEqDiff,Nat.reduceAdd,Nat.reduceLeDiff,Nat.reduceLT];rfl) ?_
    | (refine AW.condK _ rfl (fun hb => ?_) (fun hb => ?_) <;> (simp only [Bool.false_eq_true,decide_eq_true_eq,decide_eq_false_iff_not,Bool.not_eq_true',Bool.not_eq_false',Int.not_le] at hb) <;> skip)
    | refine AW.block ?_
    | refine bq_s ?_
    | refine AW.exit ?_
    | refine AW.skip ?_
    | refine useK (by assumption) ?_
    | (refine AW.loopS (α:={ q:Nat × Int // q.1 ≤ t.kids.length ∧ leftPrs t.kids (m - 1) = leftPrs (t.kids.drop q.1) q.2 ∧ -1 ≤ q.2 ∧ q.2 ≤ 1000000 }) 31 (fun q => [(1,.int .i64 q.1.2),(2,.ptr st.length 0),(5,.int .i64 (q.1.1:Nat))]) (fun q => st ++ [.box 29 (encP t).cells]) (fun q => t.kids.length - q.1.1) ⟨⟨0,m - 1⟩,Nat.zero_le _,rfl,by omega,by omega⟩ rfl ?_ ?_ ?_;(focus (simp (disch:=omega) only [go_sem,↓reduceIte,Nat.reduceEqDiff];done));(focus (simp (disch:=omega) only [go_sem];done));rintro ⟨⟨i,a⟩,hi,hpre,ha,ha2⟩ hlc;dsimp only at hi hpre ha ha2 ⊢)
    | (refine ⟨⟨⟨i + 1,leftPr t.kids[i] a⟩,by omega,hpre.trans hs1,by omega,by omega⟩,by simp only [];omega,_,Nat.le_refl _,Nat.le_of_ble_eq_true rfl, ?_, ?_⟩ <;> (simp (disch:=omega) only [go_sem,↓reduceIte,Nat.reduceEqDiff,List.length_append,trimS_app hst]))
    | (refine AW.ret ?_;show (_ ∨ _) ∧ _;refine ⟨.inr rfl, ?_⟩;show resP _ _ _ [.tmp 4] _;simp (disch:=omega) only [go_sem,↓reduceIte];refine ⟨_,_,_,Nat.le_refl _,V.le_refl _ _,StLe.refl _, ?_⟩;(simp (disch:=omega) only [go_sem,hst.trim_append]))
  · rw [if_neg (by simp_all)]
  · rw [hpre,leftPrs_neg (by omega)]
  · rw [hpre,leftPrs_end (by omega)]
set_option maxRecDepth 100000 in
set_option maxHeartbeats 8000000 in
theorem pfew_spec (t:Pr) (m:Int) (h0:0 ≤ m) (h1:m ≤ 1000000) (ho:okP t) (st:List O):Duo.Call Tryz.prog Tryz.gl 14 [encP t,.int .i64 m] st (fun v st' => v = .bool (fewPr t m) ∧ st' = st):=by
  refine Duo.Call.clo fun hst => ?_
  refine Duo.Call.body 14 [(0,encP t),(1,.int .i64 m)] Tryz.func14 rfl rfl ?_
  repeat' first
    | refine AW.seqK fun K hK => ?_
    | (refine hK _ _ ?_;clear hK K)
    | refine AW.region ?_
    | refine awL_call rfl (by exact ent53) (by simp only [go_sem,↓reduceIte,Nat.reduceEqDiff];rfl) (by first | exact left_spec _ _ h0 h1 ho _ | exact pdepth_spec _ (by have:=fewPr_sz h0 (by assumption);omega) _) rfl ?_
    | refine awL_nil ?_
    | (refine awL_gno rfl ?_ rfl ?_;focus (simp only [S0,↓reduceIte,Nat.reduceEqDiff,Bool.not_true];done))
    | (refine awL_gyes rfl ?_ ?_;focus (simp only [S0,↓reduceIte,Nat.reduceEqDiff];done))
    | (refine awL_gcase rfl rfl (fun hg => ?_) (fun hg => ?_) <;> (rw [hg];(simp only [decide_eq_true_eq,decide_eq_false_iff_not,Int.not_le] at hg);skip))
    | refine awL_S1 rfl rfl (by simp (disch:=omega) only [go_sem,↓reduceIte,Nat.reduceEqDiff];rfl) ?_
    | (refine AW.ret ?_;show (_ ∨ _) ∧ _;refine ⟨.inr rfl, ?_⟩;show resP _ _ _ [.tmp 4] _;simp (disch:=omega) only [go_sem,↓reduceIte];refine ⟨_,_,_,Nat.le_refl _,V.le_refl _ _,StLe.refl _, ?_⟩;(simp (disch:=omega) only [go_sem,hst.trim_append]))
  · have:=fewPr_sz h0 (by assumption);simp_all [fewPr];omega
  · simp_all [fewPr];omega
end Tryz
end Go.Proofs
