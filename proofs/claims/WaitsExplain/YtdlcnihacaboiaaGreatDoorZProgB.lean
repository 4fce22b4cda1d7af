/-
  A part of the proof.
-/
import Derived.Test.YtdlcnihacaboiaaGreatDoorSubLib
import Derived.Test.YtdlcnihacaboiaaGreatDoorGM
import Derived.Test.YtdlcnihacaboiaaGreatDoorDS3
import Derived.Test.YtdlcnihacaboiaaGreatDoorDLate3
import Derived.Test.YtdlcnihacaboiaaGreatDoorGI
import Derived.Test.YtdlcnihacaboiaaGreatDoorGN
import Derived.Test.YtdlcnihacaboiaaGreatDoorZProgA
set_option linter.all false
namespace Go.Proofs
open Go Go.Duo
namespace Tryz
attribute [local irreducible] awL awA awT AW
set_option maxRecDepth 100000 in
set_option maxHeartbeats 8000000 in
theorem size_spec:∀ (t:Ty) (h:t.sz ≤ 1000000) (st:List O),Duo.Call Tryz.prog Tryz.gl 184 [encT t] st (fun v st' => v = .int .i64 (t.sz:Nat) ∧ st' = st):=Ty.ind' fun t ih => by
  intro h st
  refine Duo.Call.clo fun hst => ?_
  have hz:=Ty.sz_eq t
  have hzl:=Ty.szs_len t.kids
  refine Duo.Call.body 21 [(0,encT t)] Tryz.func184 rfl rfl ?_
  repeat' first
    | refine AW.seqK fun K hK => ?_
    | (refine hK _ _ ?_;clear hK K)
    | refine AW.region ?_
    | refine awL_call rfl (by exact ent184) (by simp only [go_sem,↓reduceIte];rfl) (by exact ih _ (List.getElem_mem _) (by omega) _) rfl ?_
    | refine awL_nil ?_
    | ((fail_if_success (clear hjq));(rcases Nat.lt_or_ge i t.kids.length with hq | hq;rotate_left;focus (exfalso;omega));have hjq:True:=trivial;have hs1:=Ty.szs_take hq;have hs2:=Ty.szs_le (l:=t.kids) (i + 1))
    | refine awL_S1 rfl rfl (by simp (disch:=omega) only [go_sem,↓reduceIte,Nat.reduceEqDiff,Nat.reduceAdd,Nat.reduceLT];rfl) ?_
    | (refine AW.condK _ rfl (fun hb => ?_) (fun hb => ?_) <;> (simp only [decide_eq_true_eq,decide_eq_false_iff_not] at hb) <;> skip)
    | refine AW.block ?_
    | refine bq_s ?_
    | refine AW.exit ?_
    | refine AW.skip ?_
    | refine useK (by assumption) ?_
    | (refine AW.loopS (α:={ i:Nat // i ≤ t.kids.length }) 21 (fun i => [(1,.ptr st.length 0),(3,.int .i64 (1 + Ty.szs (t.kids.take i.1):Nat)),(4,.int .i64 (i.1:Nat))]) (fun i => st ++ [.box 26 (encT t).cells]) (fun i => t.kids.length - i.1) ⟨0,Nat.zero_le _⟩ rfl ?_ ?_ ?_;(focus (simp (disch:=omega) only [go_sem,↓reduceIte,Nat.reduceEqDiff,List.take_zero,Ty.szs,Nat.add_zero];done));(focus (simp (disch:=omega) only [go_sem];done));rintro ⟨i,hi⟩ hlc;dsimp only)
    | (refine ⟨⟨i + 1,by omega⟩,by simp only [];omega,_,Nat.le_refl _,Nat.le_of_ble_eq_true rfl, ?_, ?_⟩ <;> (simp (disch:=omega) only [go_sem,↓reduceIte,Nat.reduceEqDiff,hs1,List.length_append,trimS_app hst]))
    | (refine AW.ret ?_;show (_ ∨ _) ∧ _;refine ⟨.inr rfl, ?_⟩;show resP _ _ _ [.tmp 2] _;simp (disch:=omega) only [go_sem,↓reduceIte];refine ⟨_,_,_,Nat.le_refl _,V.le_refl _ _,StLe.refl _, ?_⟩;(simp (disch:=omega) only [go_sem,hst.trim_append]))
  rw [List.take_of_length_le (by omega),hz]
set_option maxRecDepth 100000 in
set_option maxHeartbeats 8000000 in
theorem depth_spec:∀ (t:Ty) (h:t.sz ≤ 1000000) (st:List O),Duo.Call Tryz.prog Tryz.gl 132 [encT t] st (fun v st' => v = .int .i64 (t.dp:Nat) ∧ st' = st):=Ty.ind' fun t ih => by
  intro h st
  refine Duo.Call.clo fun hst => ?_
  have hz:=Ty.sz_eq t
  have hzl:=Ty.szs_len t.kids
  have hd:=Ty.dp_eq t
  have hdl:=Ty.dp_le t
  refine Duo.Call.body 22 [(0,encT t)] Tryz.func132 rfl rfl ?_
  repeat' first
    | refine AW.seqK fun K hK => ?_
    | (refine hK _ _ ?_;clear hK K)
    | refine AW.region ?_
    | refine awL_call rfl (by exact ent132) (by simp only [go_sem,↓reduceIte];rfl) (by exact ih _ (List.getElem_mem _) (by omega) _) rfl ?_
    | refine awL_nil ?_
    | ((fail_if_success (clear hjq));(rcases Nat.lt_or_ge i t.kids.length with hq | hq;rotate_left;focus (exfalso;omega));have hjq:True:=trivial;have hs1:=Ty.szs_take hq;have hs2:=Ty.szs_le (l:=t.kids) (i + 1);have hd1:=Ty.dps_take hq)
    | refine awL_S1 rfl rfl (by simp (disch:=omega) only [go_sem,↓reduceIte,Nat.reduceEqDiff,Nat.reduceAdd,Nat.reduceLT];rfl) ?_
    | (refine AW.condK _ rfl (fun hb => ?_) (fun hb => ?_) <;> (simp only [decide_eq_true_eq,decide_eq_false_iff_not] at hb) <;> skip)
    | refine AW.block ?_
    | refine bq_s ?_
    | refine AW.exit ?_
    | refine AW.skip ?_
    | refine useK (by assumption) ?_
    | (refine AW.loopS (α:={ i:Nat // i ≤ t.kids.length }) 22 (fun i => [(1,.ptr st.length 0),(3,.int .i64 (Ty.dps (t.kids.take i.1):Nat)),(4,.int .i64 (i.1:Nat))]) (fun i => st ++ [.box 26 (encT t).cells]) (fun i => t.kids.length - i.1) ⟨0,Nat.zero_le _⟩ rfl ?_ ?_ ?_;(focus (simp (disch:=omega) only [go_sem,↓reduceIte,Nat.reduceEqDiff,List.take_zero,Ty.dps];done));(focus (simp (disch:=omega) only [go_sem];done));rintro ⟨i,hi⟩ hlc;dsimp only;have hdd:=Ty.dps_le (l:=t.kids) i)
    | (refine ⟨⟨i + 1,by omega⟩,by simp only [];omega,_,Nat.le_refl _,Nat.le_of_ble_eq_true rfl, ?_, ?_⟩ <;> (simp (disch:=omega) only [go_sem,↓reduceIte,Nat.reduceEqDiff,hd1,List.length_append,trimS_app hst]))
    | (refine AW.ret ?_;show (_ ∨ _) ∧ _;refine ⟨.inr rfl, ?_⟩;show resP _ _ _ [.tmp 2] _;simp (disch:=omega) only [go_sem,↓reduceIte];refine ⟨_,_,_,Nat.le_refl _,V.le_refl _ _,StLe.refl _, ?_⟩;(simp (disch:=omega) only [go_sem,hst.trim_append]))
  rw [List.take_of_length_le (by omega),hd]
set_option maxRecDepth 100000 in
set_option maxHeartbeats 8000000 in
theorem in2_spec (s:Str) (l:List Str) (hn:l.length ≤ 9223372036854775807) (st:List O):Duo.Call Tryz.prog Tryz.gl 187 [.str s,.sl (l.map .str) none] st (fun v st' => v = .bool (decide (s ∈ l)) ∧ st' = st):=by
  refine Duo.Call.clo fun hst => ?_
  refine Duo.Call.body 18 [(0,.str s),(1,.sl (l.map .str) none)] Tryz.func187 rfl rfl ?_
  repeat' first
    | refine AW.seqK fun K hK => ?_
    | (refine hK _ _ ?_;clear hK K)
    | refine AW.region ?_
    | refine awL_nil ?_
    | refine awL_S1 rfl rfl (by simp (disch:=omega) only [go_sem,↓reduceIte,Nat.reduceEqDiff];rfl) ?_
    | (refine AW.condK _ rfl (fun hb => ?_) (fun hb => ?_) <;> (simp only [decide_eq_true_eq,decide_eq_false_iff_not] at hb) <;> skip)
    | refine AW.block ?_
    | refine bq_s ?_
    | refine AW.exit ?_
    | refine AW.skip ?_
    | refine useK (by assumption) ?_
    | (refine AW.loopS (α:={ i:Nat // i ≤ l.length ∧ s ∉ l.take i }) 18 (fun i => [(0,.str s),(1,.sl (l.map .str) none),(5,.int .i64 (i.1:Nat))]) (fun i => st) (fun i => l.length - i.1) ⟨0,Nat.zero_le _,by simp⟩ rfl ?_ ?_ ?_;(focus (simp (disch:=omega) only [go_sem,↓reduceIte,Nat.reduceEqDiff];done));(focus (simp (disch:=omega) only [go_sem];done));rintro ⟨i,hi,hpre⟩ hlc;dsimp only)
    | (refine ⟨⟨i + 1,by omega,notin_at hpre (by omega) (by assumption)⟩,by simp only [];omega,_,Nat.le_refl _,Nat.le_of_ble_eq_true rfl, ?_, ?_⟩ <;> (simp (disch:=omega) only [go_sem,↓reduceIte,Nat.reduceEqDiff,hlc.trim]))
    | (refine AW.ret ?_;show (_ ∨ _) ∧ _;refine ⟨.inr rfl, ?_⟩;show resP _ _ _ [.tmp 4] _;simp (disch:=omega) only [go_sem,↓reduceIte];refine ⟨_,_,_,Nat.le_refl _,V.le_refl _ _,StLe.refl _, ?_⟩;(simp (disch:=omega) only [go_sem,hst.trim]))
  · rw [decide_eq_true (by rw [← (by assumption:l[i] = s)];exact List.getElem_mem _)]
  · rw [decide_eq_false (by rw [← List.take_of_length_le (show l.length ≤ i by omega)];exact hpre)]
set_option maxRecDepth 100000 in
set_option maxHeartbeats 8000000 in
theorem labels_spec (l:List Str) (hn:l.length ≤ 9223372036854775807) (hs:∀ s ∈ l,s.length ≤ 9223372036854775807) (st:List O):Duo.Call Tryz.prog Tryz.gl 139 [.sl (l.map .str) none] st (fun v st' => v = .bool (labelsB l) ∧ st' = st):=by
  refine Duo.Call.clo fun hst => ?_
  refine Duo.Call.body 26 [(0,.sl (l.map .str) none)] Tryz.func139 rfl rfl ?_
  repeat' first
    | refine AW.seqK fun K hK => ?_
    | (refine hK _ _ ?_;clear hK K)
    | refine AW.region ?_
    | refine AW.any (id:=4) mix 14 (by decide +kernel) ?_
    | refine awL_call rfl (by exact ent185) (by simp only [go_sem,↓reduceIte,Nat.reduceEqDiff];rfl) (by (exact in2_spec _ _ (by rw [List.length_take];omega) _)) rfl ?_
    | refine awA_nil (by simp only [applyUps,S0];rfl) ?_
    | refine awL_nil ?_
    | (refine awL_gno rfl ?_ rfl ?_;focus (simp only [S0,↓reduceIte,Nat.reduceEqDiff,Bool.not_false];done))
    | (refine awL_gyes rfl ?_ ?_;focus (simp only [S0,↓reduceIte,Nat.reduceEqDiff];done))
    | refine awL_S1 rfl rfl (by simp (disch:=omega) only [go_sem,↓reduceIte,Nat.reduceEqDiff];rfl) ?_
    | refine awA_call rfl (by exact ent185) (by simp only [go_sem,↓reduceIte];rfl) (by exact refname_spec _ (hs _ (List.getElem_mem _)) _) rfl ?_
    | (refine awA_gno rfl ?_ rfl ?_;focus (simp only [S0,↓reduceIte,Nat.reduceEqDiff,Bool.not_false];done))
    | (refine awA_gyes rfl ?_ ?_;focus (simp only [S0,↓reduceIte,Nat.reduceEqDiff];done))
    | (refine awA_gcase rfl rfl (fun hg => ?_) (fun hg => ?_) <;> (rw [hg];(simp only [Bool.not_eq_true',Bool.not_eq_false'] at hg);skip))
    | refine awA_S1 rfl rfl (by simp (disch:=omega) only [go_sem,↓reduceIte,Nat.reduceEqDiff];rfl) ?_
    | (refine AW.condK _ rfl (fun hb => ?_) (fun hb => ?_) <;> (simp only [Bool.true_eq_false,decide_eq_true_eq,decide_eq_false_iff_not] at hb) <;> skip)
    | refine AW.block ?_
    | refine bq_s ?_
    | refine AW.exit ?_
    | refine AW.skip ?_
    | refine useK (by assumption) ?_
    | (refine AW.loopS (α:={ i:Nat // i ≤ l.length ∧ ∀ (j:Nat) (hj:j < l.length),j < i → nameB l[j] = true ∧ l[j] ∉ l.take j }) 26 (fun i => [(0,.sl (l.map .str) none),(3,.int .i64 (i.1:Nat))]) (fun i => st) (fun i => l.length - i.1) ⟨0,Nat.zero_le _,by intro j hj hj2;omega⟩ rfl ?_ ?_ ?_;(focus (simp (disch:=omega) only [go_sem,↓reduceIte,Nat.reduceEqDiff];done));(focus (simp (disch:=omega) only [go_sem];done));rintro ⟨i,hi,hpre⟩ hlc;dsimp only)
    | (refine ⟨⟨i + 1,by omega,fun j hj hj2 => by rcases Nat.lt_or_eq_of_le (Nat.le_of_lt_succ hj2) with h | h;exact hpre j hj h;subst h;simp_all⟩,by simp only [];omega,_,Nat.le_refl _,Nat.le_of_ble_eq_true rfl, ?_, ?_⟩ <;> (simp (disch:=omega) only [go_sem,↓reduceIte,Nat.reduceEqDiff,hlc.trim]))
    | (refine AW.ret ?_;show (_ ∨ _) ∧ _;refine ⟨.inr rfl, ?_⟩;show resP _ _ _ [.tmp 2] _;simp (disch:=omega) only [go_sem,↓reduceIte];refine ⟨_,_,_,Nat.le_refl _,V.le_refl _ _,StLe.refl _, ?_⟩;(simp (disch:=omega) only [go_sem,hst.trim]))
  · rw [labelsB_no1 (by assumption) (by assumption)]
  · rw [labelsB_no2 (by assumption) (by assumption)]
  · rw [labelsB_yes (by omega) hpre]
set_option maxRecDepth 100000 in
set_option maxHeartbeats 8000000 in
theorem prio_spec (n:Int) (st:List O):Duo.Call Tryz.prog Tryz.gl 252 [.int .i64 n] st (fun v st' => v = .bool (prioB n) ∧ st' = st):=by
  refine Duo.Call.clo fun hst => ?_
  refine Duo.Call.body 9 [(0,.int .i64 n)] Tryz.func252 rfl rfl ?_
  repeat' first
    | refine AW.seqK fun K hK => ?_
    | (refine hK _ _ ?_;clear hK K)
    | refine AW.region ?_
    | refine awL_nil ?_
    | (refine awL_gno rfl ?_ rfl ?_;focus (simp only [S0,↓reduceIte,Nat.reduceEqDiff,Bool.not_true];done))
    | (refine awL_gyes rfl ?_ ?_;focus (simp only [S0,↓reduceIte,Nat.reduceEqDiff];done))
    | (refine awL_gcase rfl rfl (fun hg => ?_) (fun hg => ?_) <;> (rw [hg];(simp only [decide_eq_true_eq,decide_eq_false_iff_not,Int.not_le] at hg);skip))
    | refine awL_S1 rfl rfl (by simp (disch:=omega) only [go_sem,↓reduceIte,Nat.reduceEqDiff];rfl) ?_
    | (refine AW.ret ?_;show (_ ∨ _) ∧ _;refine ⟨.inr rfl, ?_⟩;show resP _ _ _ [.tmp 2] _;simp (disch:=omega) only [go_sem,↓reduceIte];refine ⟨_,_,_,Nat.le_refl _,V.le_refl _ _,StLe.refl _, ?_⟩;(simp (disch:=omega) only [go_sem,hst.trim]))
  all_goals (simp_all [prioB] <;> omega)
set_option maxRecDepth 100000 in
set_option maxHeartbeats 8000000 in
theorem session_spec (t:Ty) (st:List O):Duo.Call Tryz.prog Tryz.gl 141 [encT t] st (fun v st' => v = .bool (sessB t) ∧ st' = st):=by
  refine Duo.Call.clo fun hst => ?_
  refine Duo.Call.body 11 [(0,encT t)] Tryz.func141 rfl rfl ?_
  repeat' first
    | refine AW.seqK fun K hK => ?_
    | (refine hK _ _ ?_;clear hK K)
    | refine AW.region ?_
    | refine awL_nil ?_
    | (refine awL_gno rfl ?_ rfl ?_;focus (simp only [S0,↓reduceIte,Nat.reduceEqDiff,Bool.not_true];done))
    | (refine awL_gyes rfl ?_ ?_;focus (simp only [S0,↓reduceIte,Nat.reduceEqDiff];done))
    | (refine awL_gcase rfl rfl (fun hg => ?_) (fun hg => ?_) <;> (rw [hg];(simp only [decide_eq_true_eq,decide_eq_false_iff_not,Decidable.not_not] at hg);skip))
    | refine awL_S1 rfl rfl (by simp (disch:=omega) only [go_sem,↓reduceIte,Nat.reduceEqDiff,Nat.reduceLeDiff,Nat.reduceLT];rfl) ?_
    | (refine AW.ret ?_;show (_ ∨ _) ∧ _;refine ⟨.inr rfl, ?_⟩;show resP _ _ _ [.tmp 2] _;simp (disch:=omega) only [go_sem,↓reduceIte];refine ⟨_,_,_,Nat.le_refl _,V.le_refl _ _,StLe.refl _, ?_⟩;(simp (disch:=omega) only [go_sem,hst.trim_append]))
  all_goals simp_all [sessB]
set_option maxRecDepth 100000 in
set_option maxHeartbeats 8000000 in
theorem shape_spec (t:Ty) (ho:okT t) (st:List O):Duo.Call Tryz.prog Tryz.gl 220 [encT t] st (fun v st' => v = .bool (shapeB t) ∧ st' = st):=by
  refine Duo.Call.clo fun hst => ?_
  have hn:=ho.name
  have hl:=ho.labels
  refine Duo.Call.body 152 [(0,encT t)] Tryz.func220 rfl rfl ?_
  repeat' first
    | refine AW.seqK fun K hK => ?_
    | (refine hK _ _ ?_;clear hK K)
    | refine AW.region ?_
    | refine awL_call rfl (by exact ent252) (by simp only [go_sem,↓reduceIte];rfl) (by first | exact prio_spec _ _ | exact refname_spec _ hn _ | exact labels_spec _ hl.1 hl.2 _) rfl ?_
    | refine awL_nil ?_
    | (refine awL_gno rfl ?_ rfl ?_;focus (simp only [S0,↓reduceIte,Nat.reduceEqDiff,Bool.not_true];done))
    | (refine awL_gyes rfl ?_ ?_;focus (simp only [S0,↓reduceIte,Nat.reduceEqDiff];done))
    | (refine awL_gcase rfl rfl (fun hg => ?_) (fun hg => ?_) <;> (rw [hg];(try simp only [decide_eq_true_eq,decide_eq_false_iff_not] at hg);skip))
    | refine awL_S1 rfl rfl (by simp (disch:=omega) only [go_sem,↓reduceIte,Nat.reduceEqDiff,Nat.reduceAdd,Nat.reduceLeDiff,Nat.reduceLT];rfl) ?_
    | (refine AW.condK _ rfl (fun hb => ?_) (fun hb => ?_) <;> (simp only [decide_eq_true_eq,decide_eq_false_iff_not] at hb) <;> try (exfalso;omega))
    | refine AW.block ?_
    | refine AW.skip ?_
    | (refine AW.ret ?_;show (_ ∨ _) ∧ _;refine ⟨.inr rfl, ?_⟩;show resP _ _ _ [.tmp 2] _;simp (disch:=omega) only [go_sem,↓reduceIte];refine ⟨_,_,_,Nat.le_refl _,V.le_refl _ _,StLe.refl _, ?_⟩;(simp (disch:=omega) only [go_sem,hst.trim_append]))
  clear ho hl
  all_goals (simp_all [shapeB] <;> omega)
set_option maxRecDepth 100000 in
set_option maxHeartbeats 8000000 in
theorem texts_spec (a b:List Str) (hn:a.length ≤ 9223372036854775807) (st:List O):Duo.Call Tryz.prog Tryz.gl 101 [.sl (a.map .str) none,.sl (b.map .str) none] st (fun v st' => v = .bool (decide (a = b)) ∧ st' = st):=by
  refine Duo.Call.clo fun hst => ?_
  refine Duo.Call.body 26 [(0,.sl (a.map .str) none),(1,.sl (b.map .str) none)] Tryz.func101 rfl rfl ?_
  repeat' first
    | refine AW.seqK fun K hK => ?_
    | (refine hK _ _ ?_;clear hK K)
    | refine AW.region ?_
    | refine AW.any (id:=6) mix 8 (by decide +kernel) ?_
    | refine awA_nil (by simp only [applyUps];rfl) ?_
    | refine awL_nil ?_
    | refine awL_S1 rfl rfl (by simp (disch:=omega) only [go_sem,↓reduceIte,Nat.reduceEqDiff];rfl) ?_
    | refine awA_S1 rfl rfl (by simp (disch:=omega) only [go_sem,↓reduceIte,Nat.reduceEqDiff];rfl) ?_
    | (refine AW.condK _ rfl (fun hb => ?_) (fun hb => ?_) <;> (simp only [Int.ofNat_inj,decide_eq_true_eq,decide_eq_false_iff_not,Decidable.not_not] at hb) <;> skip)
    | refine AW.block ?_
    | refine bq_s ?_
    | refine AW.exit ?_
    | refine AW.skip ?_
    | refine useK (by assumption) ?_
    | (refine AW.loopS (α:={ i:Nat // i ≤ a.length ∧ a.take i = b.take i }) 26 (fun i => [(0,.sl (a.map .str) none),(1,.sl (b.map .str) none),(5,.int .i64 (i.1:Nat))]) (fun i => st) (fun i => a.length - i.1) ⟨0,Nat.zero_le _,by simp⟩ rfl ?_ ?_ ?_;(focus (simp (disch:=omega) only [go_sem,↓reduceIte,Nat.reduceEqDiff];done));(focus (simp (disch:=omega) only [go_sem];done));rintro ⟨i,hi,hpre⟩ hlc;dsimp only)
    | (refine ⟨⟨i + 1,by omega,take_eq_step hpre (by omega) (by omega) (by assumption)⟩,by simp only [];omega,_,Nat.le_refl _,Nat.le_of_ble_eq_true rfl, ?_, ?_⟩ <;> (simp (disch:=omega) only [go_sem,↓reduceIte,Nat.reduceEqDiff,hlc.trim]))
    | (refine AW.ret ?_;show (_ ∨ _) ∧ _;refine ⟨.inr rfl, ?_⟩;show resP _ _ _ [.tmp 4] _;simp (disch:=omega) only [go_sem,↓reduceIte];refine ⟨_,_,_,Nat.le_refl _,V.le_refl _ _,StLe.refl _, ?_⟩;(simp (disch:=omega) only [go_sem,hst.trim]))
  · rw [decide_eq_false (by rintro rfl;omega)]
  · rw [decide_eq_false (ne_at (by omega) (by omega) (by assumption))]
  · rw [decide_eq_true (take_eq_end hpre (by omega) (by omega))]
set_option maxRecDepth 100000 in
set_option maxHeartbeats 8000000 in
theorem count_spec:∀ (t:Ty) (m:Int) (h0:0 ≤ m) (h1:m ≤ 1000000) (ho:okT t) (st:List O),Duo.Call Tryz.prog Tryz.gl 135 [encT t,.int .i64 m] st (fun v st' => v = .int .i64 (leftT t m) ∧ st' = st):=Ty.ind' fun t ih => by
  intro m h0 h1 ho st
  refine Duo.Call.clo fun hst => ?_
  have hl:=((okT_iff t).1 ho).2.2.2.2.2.1
  unfold inL at hl
  rw [leftT_eq]
  refine Duo.Call.body 27 [(0,encT t),(1,.int .i64 m)] Tryz.func135 rfl rfl ?_
  repeat' first
    | refine AW.seqK fun K hK => ?_
    | (refine hK _ _ ?_;clear hK K)
    | refine AW.region ?_
    | refine awL_call rfl (by exact ent135) (by simp only [go_sem,↓reduceIte,Nat.reduceEqDiff];rfl) (by exact ih _ (List.getElem_mem _) _ (by omega) (by omega) (ho.kid (List.getElem_mem _)) _) rfl ?_
    | refine awL_nil ?_
    | ((fail_if_success (clear hjq));(rcases Nat.lt_or_ge i t.kids.length with hq | hq;rotate_left;focus (exfalso;omega));have hjq:True:=trivial;(rcases Int.lt_or_le a 0 with hq2 | hq2;focus (exfalso;omega));have hs1:=leftTs_step hq hq2;have hs2:=leftT_spec t.kids[i] a hq2)
    | (refine awL_gno rfl ?_ rfl ?_;focus (simp only [S0,↓reduceIte,Nat.reduceEqDiff,Bool.not_true];done))
    | (refine awL_gyes rfl ?_ ?_;focus (simp only [S0,↓reduceIte,Nat.reduceEqDiff];done))
    | (refine awL_gcase rfl rfl (fun hg => ?_) (fun hg => ?_) <;> (rw [hg];(simp only [decide_eq_true_eq,decide_eq_false_iff_not] at hg);skip))
    | refine awL_S1 rfl rfl (by simp (disch:=omega) only [go_sem,↓reduceIte,Nat.reduceEqDiff,Nat.reduceAdd,Nat.reduceLT];rfl) ?_
    | (refine AW.condK _ rfl (fun hb => ?_) (fun hb => ?_) <;> (simp only [Bool.false_eq_true,decide_eq_true_eq,decide_eq_false_iff_not,Int.not_le] at hb) <;> skip)
    | refine AW.block ?_
    | refine bq_s ?_
    | refine AW.exit ?_
    | refine AW.skip ?_
    | refine useK (by assumption) ?_
    | (refine AW.loopS (α:={ q:Nat × Int // q.1 ≤ t.kids.length ∧ leftTs t.kids (m - 1) = leftTs (t.kids.drop q.1) q.2 ∧ -1 ≤ q.2 ∧ q.2 ≤ 1000000 }) 27 (fun q => [(1,.int .i64 q.1.2),(2,.ptr st.length 0),(5,.int .i64 (q.1.1:Nat))]) (fun q => st ++ [.box 26 (encT t).cells]) (fun q => t.kids.length - q.1.1) ⟨⟨0,m - 1⟩,Nat.zero_le _,rfl,by omega,by omega⟩ rfl ?_ ?_ ?_;(focus (simp (disch:=omega) only [go_sem,↓reduceIte,Nat.reduceEqDiff];done));(focus (simp (disch:=omega) only [go_sem];done));rintro ⟨⟨i,a⟩,hi,hpre,ha,ha2⟩ hlc;dsimp only at hi hpre ha ha2 ⊢)
    | (refine ⟨⟨⟨i + 1,leftT t.kids[i] a⟩,by omega,hpre.trans hs1,by omega,by omega⟩,by simp only [];omega,_,Nat.le_refl _,Nat.le_of_ble_eq_true rfl, ?_, ?_⟩ <;> (simp (disch:=omega) only [go_sem,↓reduceIte,Nat.reduceEqDiff,List.length_append,trimS_app hst]))
    | (refine AW.ret ?_;show (_ ∨ _) ∧ _;refine ⟨.inr rfl, ?_⟩;show resP _ _ _ [.tmp 4] _;simp (disch:=omega) only [go_sem,↓reduceIte];refine ⟨_,_,_,Nat.le_refl _,V.le_refl _ _,StLe.refl _, ?_⟩;(simp (disch:=omega) only [go_sem,hst.trim_append]))
  · rw [hpre,leftTs_neg (by omega)]
  · rw [hpre,leftTs_end (by omega)]
set_option maxRecDepth 100000 in
set_option maxHeartbeats 8000000 in
theorem few_spec (t:Ty) (m:Int) (h0:0 ≤ m) (h1:m ≤ 1000000) (ho:okT t) (st:List O):Duo.Call Tryz.prog Tryz.gl 91 [encT t,.int .i64 m] st (fun v st' => v = .bool (fewTy t m) ∧ st' = st):=by
  refine Duo.Call.clo fun hst => ?_
  refine Duo.Call.body 14 [(0,encT t),(1,.int .i64 m)] Tryz.func91 rfl rfl ?_
  repeat' first
    | refine AW.seqK fun K hK => ?_
    | (refine hK _ _ ?_;clear hK K)
    | refine AW.region ?_
    | refine awL_call rfl (by exact ent135) (by simp only [go_sem,↓reduceIte,Nat.reduceEqDiff];rfl) (by first | exact count_spec _ _ h0 h1 ho _ | exact depth_spec _ (by have:=fewTy_sz h0 (by assumption);omega) _) rfl ?_
    | refine awL_nil ?_
    | (refine awL_gno rfl ?_ rfl ?_;focus (simp only [S0,↓reduceIte,Nat.reduceEqDiff,Bool.not_true];done))
    | (refine awL_gyes rfl ?_ ?_;focus (simp only [S0,↓reduceIte,Nat.reduceEqDiff];done))
    | (refine awL_gcase rfl rfl (fun hg => ?_) (fun hg => ?_) <;> (rw [hg];(simp only [decide_eq_true_eq,decide_eq_false_iff_not,Int.not_le] at hg);skip))
    | refine awL_S1 rfl rfl (by simp (disch:=omega) only [go_sem,↓reduceIte,Nat.reduceEqDiff];rfl) ?_
    | (refine AW.ret ?_;show (_ ∨ _) ∧ _;refine ⟨.inr rfl, ?_⟩;show resP _ _ _ [.tmp 4] _;simp (disch:=omega) only [go_sem,↓reduceIte];refine ⟨_,_,_,Nat.le_refl _,V.le_refl _ _,StLe.refl _, ?_⟩;(simp (disch:=omega) only [go_sem,hst.trim_append]))
  · have:=fewTy_sz h0 (by assumption);simp_all [fewTy];omega
  · simp_all [fewTy];omega
end Tryz
end Go.Proofs
