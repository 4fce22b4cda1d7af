/-
  A part of the proof.
-/
import Derived.Test.YtdlcnihacaboiaaGreatDoorGX
import Derived.Test.YtdlcnihacaboiaaGreatDoorGL
import Derived.Test.YtdlcnihacaboiaaGreatDoorDS3
import Derived.Test.YtdlcnihacaboiaaGreatDoorGM
import Derived.Test.YtdlcnihacaboiaaGreatDoorGW
import Derived.Test.YtdlcnihacaboiaaGreatDoorWaitB
import Derived.Test.YtdlcnihacaboiaaGreatDoorZProgH
import Derived.Test.YtdlcnihacaboiaaGreatDoorGV
set_option linter.all false
namespace Go.Proofs
open Go Go.Duo
namespace Tryz
attribute [local irreducible] awL awA awT AW
structure thrP (p:Pr):Prop where
  pre:preK p.kind = true
  sm:smA p
  cl:p.chan.length ≤ 2147483647
  sz:p.sz ≤ 300
  dp:p.dp ≤ 150
  lp:smLP p
  cp:copyP p = p
theorem smA_with {p:Pr} (h:smA p) (c:Str):smA (withC c p):=(smA_iff _).2 ((smA_iff p).1 h)
theorem containsW_spec (s:Str) (l:List Str) (hl:l.length ≤ 9223372036854775807) (st:List O):Duo.Call Tryz.prog Tryz.gl2 58 [.sl (l.map .str) none,.str s] st (fun v st' => v = .bool (decide (s ∈ l)) ∧ st' = st):=up (contains_spec l s hl st)
theorem free_len (p:Pr) (ha:smA p) (hz:p.sz ≤ 300):(freeS p).length ≤ 600000300:=by
  have h1:=uses_len p [] ha
  have h2:=dedS_len (usesP p [])
  unfold freeS;omega
theorem sz_with (p:Pr) (c:Str):(withC c p).sz = p.sz:=by rw [Pr.sz_eq,Pr.sz_eq p];rfl
theorem dp_with (p:Pr) (c:Str):(withC c p).dp = p.dp:=by rw [Pr.dp_eq,Pr.dp_eq p];rfl
theorem pfreeW_spec (p:Pr) (h:thrP p) (st:List O):Duo.Call Tryz.prog Tryz.gl2 103 [encP p] st (fun v st' => v = .sl ((freeS p).map .str) none ∧ st' = st):=up (pfreeG_spec p h.sm h.sz st)
theorem pfreeC_spec (p:Pr) (h:thrP p) (st:List O):Duo.Call Tryz.prog Tryz.gl2 103 [.agg (.int .i64 p.kind :: .str [] :: .str p.var :: .sl (p.labels.map .str) none :: .sl (p.args.map encV) none :: ((encT p.typ).cells ++ [.sl (p.kids.map encP) none]))] st (fun v st' => v = .sl ((freeS (withC [] p)).map .str) none ∧ st' = st):=by
  have h2:=pfreeG_spec (withC [] p) (smA_with h.sm []) (by rw [sz_with];exact h.sz) st
  unfold withC at h2
  rw [encP_mk] at h2
  exact up h2
theorem rfreeW_spec (p:Pr) (h:thrP p) (st:List O):Duo.Call Tryz.prog Tryz.gl2 16 [encP p] st (fun v st' => v = .sl ((freeS p).map .str) none ∧ st' = st):=up (free_spec p h.sz h.dp h.sm st)
theorem rfreeC_spec (p:Pr) (h:thrP p) (st:List O):Duo.Call Tryz.prog Tryz.gl2 16 [.agg (.int .i64 p.kind :: .str [45] :: .str p.var :: .sl (p.labels.map .str) none :: .sl (p.args.map encV) none :: ((encT p.typ).cells ++ [.sl (p.kids.map encP) none]))] st (fun v st' => v = .sl ((freeS (withC [45] p)).map .str) none ∧ st' = st):=by
  have h2:=free_spec (withC [45] p) (by rw [sz_with];exact h.sz) (by rw [dp_with];exact h.dp) (smA_with h.sm [45]) st
  unfold withC at h2
  rw [encP_mk] at h2
  exact up h2
theorem copyW_spec (p:Pr) (h:thrP p) (st:List O):Duo.Call Tryz.prog Tryz.gl2 104 [encP p] st (fun v st' => v = encP p ∧ st' = st):=by
  have h2:=copyO_plain (copyO_spec p (by have:=h.sz;omega) h.lp st)
  rw [h.cp] at h2
  exact up h2
set_option maxRecDepth 100000 in
set_option maxHeartbeats 8000000 in
theorem wuses_spec (p:Pr) (s:Str) (b:Bool) (h:thrP p) (st:List O):Duo.Call Tryz.prog Tryz.gl2 64 [encP p,.str s,.bool b] st (fun v st' => v = .bool (decide (s ∈ freeS (if b = true then withC [] p else p))) ∧ st' = st):=by
  refine Duo.Call.clo fun hst => ?_
  have hf1:=free_len p h.sm h.sz
  have hf2:=free_len (withC [] p) (smA_with h.sm []) (by rw [sz_with];exact h.sz)
  refine Duo.Call.body 18 [(0,encP p),(1,.str s),(2,.bool b)] Tryz.func64 rfl rfl ?_
  repeat' first
    | refine AW.seqK fun K hK => ?_
    | (refine hK _ _ ?_;clear hK K)
    | refine AW.region ?_
    | refine awL_call rfl (by exact ent103) (by simp only [go_sem,↓reduceIte,Nat.reduceEqDiff];rfl) (by first | exact pfreeW_spec p h _ | exact pfreeC_spec p h _ | exact containsW_spec _ _ (by omega) _) rfl ?_
    | refine awL_nil ?_
    | refine awL_S1 rfl rfl (by simp (disch:=omega) only [go_sem,↓reduceIte,Nat.reduceEqDiff,Nat.reduceAdd,Nat.reduceLeDiff,Nat.reduceLT,cellsP p,foldP p];rfl) ?_
    | (refine AW.condK _ rfl (fun hb => ?_) (fun hb => ?_) <;> (simp only [Bool.not_eq_true',Bool.not_eq_false'] at hb) <;> skip)
    | refine AW.skip ?_
    | (refine AW.ret ?_;show (_ ∨ _) ∧ _;refine ⟨.inr rfl, ?_⟩;show resP _ _ _ [.tmp 6] _;simp (disch:=omega) only [go_sem,↓reduceIte];refine ⟨_,_,_,Nat.le_refl _,V.le_refl _ _,StLe.refl _, ?_⟩;(simp (disch:=omega) only [go_sem,hst.trim_append]))
  all_goals simp_all
set_option maxRecDepth 100000 in
set_option maxHeartbeats 8000000 in
theorem wfor_spec (l:List Pr) (ch:List Ty) (hl:l.length ≤ 1000000) (h:∀ p ∈ l,thrP p) (i:Nat) (hi:i < l.length) (st:List O):Duo.Call Tryz.prog Tryz.gl2 28 [.agg [.sl (l.map encP) none,.sl (ch.map encT) none],.int .i64 i] st (fun v st' => v = .sl ((forW l i).map encN) none ∧ st' = st):=by
  refine Duo.Call.clo fun hst => ?_
  refine Duo.Call.body 51 [(0,.agg [.sl (l.map encP) none,.sl (ch.map encT) none]),(1,.int .i64 i)] Tryz.func28 rfl rfl ?_
  repeat' first
    | refine AW.seqK fun K hK => ?_
    | (refine hK _ _ ?_;clear hK K)
    | refine AW.region ?_
    | refine awL_call rfl (by exact ent63) (by simp only [go_sem,↓reduceIte,Nat.reduceEqDiff];rfl) (by first | exact pdual_spec _ (by have:=(h _ (List.getElem_mem hi)).cl;omega) _ | exact wuses_spec _ _ _ (h _ (List.getElem_mem (by assumption))) _) rfl ?_
    | refine awL_nil ?_
    | (refine awL_gyes rfl ?_ ?_;focus (simp only [S0,↓reduceIte,Nat.reduceEqDiff];done))
    | (refine awL_gcase rfl rfl (fun hg => ?_) (fun hg => ?_) <;> (rw [hg];(simp only [decide_eq_true_eq,decide_eq_false_iff_not,Int.not_lt] at hg);try (exfalso;omega)))
    | refine awL_S1 rfl rfl (by simp (disch:=omega) only [go_sem,↓reduceIte,Nat.reduceEqDiff,Nat.reduceAdd,Nat.reduceLeDiff,Nat.reduceMul,Nat.reduceSub,Nat.reduceLT,dualV_eq,List.length_map];rfl) ?_
    | (refine AW.condK _ rfl (fun hb => ?_) (fun hb => ?_) <;> (simp only [Int.ofNat_inj,decide_eq_true_eq,decide_eq_false_iff_not,Bool.not_eq_true',Bool.not_eq_false',Int.ofNat_le] at hb) <;> try (exfalso;omega))
    | refine AW.block ?_
    | refine bq_s ?_
    | refine AW.exit ?_
    | refine AW.skip ?_
    | refine useK (by assumption) ?_
    | (refine AW.tok 3 1 ?_;rw [List.append_assoc];simp only [List.cons_append,List.nil_append];refine AW.loopS (α:={ k:Nat // k ≤ l.length }) 51 (fun k => [(1,.int .i64 i),(5,.str (dualN l[i].chan)),(7,.sl ((forK l i k.1).map encN) (some (st.length + 1))),(32,.sl (l.map encP) none),(33,.int .i64 l.length),(34,.int .i64 (k.1:Nat))]) (fun k => st ++ [.box 59 [.sl (l.map encP) none,.sl (ch.map encT) none],.tok 3 1 (forK l i k.1).length]) (fun k => l.length - k.1) ⟨0,Nat.zero_le _⟩ rfl ?_ ?_ ?_;(focus (simp (disch:=omega) only [go_sem,↓reduceIte,Nat.reduceEqDiff,forK_0,List.map_nil];done));(focus (simp (disch:=omega) only [go_sem,forK_0,List.length_nil];done));rintro ⟨k,hk⟩ hlc;dsimp only;have hkl:=forK_len l i k)
    | (have hwe:=waitB_eq (l:=l) hi (show k < l.length by assumption);have hp:=forK_yes (l:=l) (i:=i) (k:=k) (by rw [hwe];simp_all);refine ⟨⟨k + 1,by omega⟩,by simp only [];omega,_,Nat.le_refl _,Nat.le_of_ble_eq_true rfl, ?_, ?_⟩ <;> (simp (disch:=omega) only [go_sem,↓reduceIte,Nat.reduceEqDiff,Nat.reduceAdd,encN_mk,List.map_append,List.map_cons,List.map_nil,List.length_append,List.length_cons,List.length_nil,hp,List.length_append,trimS_app hst];done))
    | (have hwe:=waitB_eq (l:=l) hi (show k < l.length by assumption);have hp:=forK_no (l:=l) (i:=i) (k:=k) (by rw [hwe];simp_all);refine ⟨⟨k + 1,by omega⟩,by simp only [];omega,_,Nat.le_refl _,Nat.le_of_ble_eq_true rfl, ?_, ?_⟩ <;> (simp (disch:=omega) only [go_sem,↓reduceIte,Nat.reduceEqDiff,Nat.reduceAdd,List.map_cons,List.map_nil,List.length_append,List.length_cons,List.length_nil,hp,List.length_append,trimS_app hst]))
    | (refine AW.ret ?_;show (_ ∨ _) ∧ _;refine ⟨.inr rfl, ?_⟩;show resP _ _ _ [.tmp 4] _;simp (disch:=omega) only [go_sem,↓reduceIte];refine ⟨_,_,_,Nat.le_refl _,V.le_nil _,StLe.refl _, ?_⟩;(refine ⟨(by rw [forW_none hi (by assumption)];rfl), ?_⟩ <;> (simp (disch:=omega) only [go_sem,hst.trim_append];done)))
    | (refine AW.ret ?_;show (_ ∨ _) ∧ _;refine ⟨.inr rfl, ?_⟩;show resP _ _ _ [.tmp 4] _;simp (disch:=omega) only [go_sem,↓reduceIte];refine ⟨_,_,_,Nat.le_refl _,V.le_refl _ _,StLe.refl _, ?_⟩;(simp (disch:=omega) only [go_sem,hst.trim_append]))
  all_goals (((obtain rfl:k = l.length:=(by omega));rfl))
set_option maxRecDepth 100000 in
set_option maxHeartbeats 8000000 in
theorem sindex_spec (l:List Nat) (c:Nat) (hl:l.length ≤ 9223372036854775807) (st:List O):Duo.Call Tryz.prog Tryz.gl2 66 [.sl (l.map encN) none,.int .i64 c] st (fun v st' => v = .int .i64 (idxN l c) ∧ st' = st):=by
  refine Duo.Call.clo fun hst => ?_
  refine Duo.Call.body 19 [(0,.sl (l.map encN) none),(1,.int .i64 c)] Tryz.func66 rfl rfl ?_
  repeat' first
    | refine AW.seqK fun K hK => ?_
    | (refine hK _ _ ?_;clear hK K)
    | refine AW.region ?_
    | refine awL_nil ?_
    | refine awL_S1 rfl rfl (by simp (disch:=omega) only [go_sem,↓reduceIte,Nat.reduceEqDiff,encN_mk];rfl) ?_
    | (refine AW.condK _ rfl (fun hb => ?_) (fun hb => ?_) <;> (simp only [Int.ofNat_inj,decide_eq_true_eq,decide_eq_false_iff_not] at hb) <;> skip)
    | refine AW.block ?_
    | refine bq_s ?_
    | refine AW.exit ?_
    | refine AW.skip ?_
    | refine useK (by assumption) ?_
    | (refine AW.loopS (α:={ i:Nat // i ≤ l.length ∧ c ∉ l.take i }) 19 (fun i => [(0,.sl (l.map encN) none),(1,.int .i64 c),(7,.int .i64 l.length),(8,.int .i64 (i.1:Nat))]) (fun i => st) (fun i => l.length - i.1) ⟨0,Nat.zero_le _,by simp⟩ rfl ?_ ?_ ?_;(focus (simp (disch:=omega) only [go_sem,↓reduceIte,Nat.reduceEqDiff];done));(focus (simp (disch:=omega) only [go_sem];done));rintro ⟨i,hi,hni⟩ hlc;dsimp only)
    | (refine ⟨⟨i + 1,by omega,idxN_step hni (by omega) (by omega)⟩,by simp only [];omega,_,Nat.le_refl _,Nat.le_of_ble_eq_true rfl, ?_, ?_⟩ <;> (simp (disch:=omega) only [go_sem,↓reduceIte,Nat.reduceEqDiff,hlc.trim]))
    | (refine AW.ret ?_;show (_ ∨ _) ∧ _;refine ⟨.inr rfl, ?_⟩;show resP _ _ _ [.tmp 4] _;simp (disch:=omega) only [go_sem,↓reduceIte];refine ⟨_,_,_,Nat.le_refl _,V.le_refl _ _,StLe.refl _, ?_⟩;(simp (disch:=omega) only [go_sem,hst.trim]))
  all_goals first | (rw [idxN_at hni (by omega) (by omega)];done) | (rw [idxN_none (by rwa [List.take_of_length_le (by omega)] at hni)];done)
set_option maxRecDepth 100000 in
set_option maxHeartbeats 8000000 in
theorem rindex_spec (l:List Nat) (c:Nat) (hl:l.length ≤ 9223372036854775807) (st:List O):Duo.Call Tryz.prog Tryz.gl2 36 [.sl (l.map encN) none,.int .i64 c] st (fun v st' => v = .int .i64 (idxN l c) ∧ st' = st):=by
  refine Duo.Call.clo fun hst => ?_
  refine Duo.Call.body 19 [(0,.sl (l.map encN) none),(1,.int .i64 c)] Tryz.func36 rfl rfl ?_
  repeat' first
    | refine AW.seqK fun K hK => ?_
    | (refine hK _ _ ?_;clear hK K)
    | refine AW.region ?_
    | refine awL_nil ?_
    | refine awL_S1 rfl rfl (by simp (disch:=omega) only [go_sem,↓reduceIte,Nat.reduceEqDiff,encN_mk];rfl) ?_
    | (refine AW.condK _ rfl (fun hb => ?_) (fun hb => ?_) <;> (simp only [Int.ofNat_inj,decide_eq_true_eq,decide_eq_false_iff_not] at hb) <;> skip)
    | refine AW.block ?_
    | refine bq_s ?_
    | refine AW.exit ?_
    | refine AW.skip ?_
    | refine useK (by assumption) ?_
    | (refine AW.loopS (α:={ i:Nat // i ≤ l.length ∧ c ∉ l.take i }) 19 (fun i => [(0,.sl (l.map encN) none),(1,.int .i64 c),(5,.int .i64 (i.1:Nat))]) (fun i => st) (fun i => l.length - i.1) ⟨0,Nat.zero_le _,by simp⟩ rfl ?_ ?_ ?_;(focus (simp (disch:=omega) only [go_sem,↓reduceIte,Nat.reduceEqDiff];done));(focus (simp (disch:=omega) only [go_sem];done));rintro ⟨i,hi,hni⟩ hlc;dsimp only)
    | (refine ⟨⟨i + 1,by omega,idxN_step hni (by omega) (by omega)⟩,by simp only [];omega,_,Nat.le_refl _,Nat.le_of_ble_eq_true rfl, ?_, ?_⟩ <;> (simp (disch:=omega) only [go_sem,↓reduceIte,Nat.reduceEqDiff,hlc.trim]))
    | (refine AW.ret ?_;show (_ ∨ _) ∧ _;refine ⟨.inr rfl, ?_⟩;show resP _ _ _ [.tmp 4] _;simp (disch:=omega) only [go_sem,↓reduceIte];refine ⟨_,_,_,Nat.le_refl _,V.le_refl _ _,StLe.refl _, ?_⟩;(simp (disch:=omega) only [go_sem,hst.trim]))
  all_goals first | (rw [idxN_at hni (by omega) (by omega)];done) | (rw [idxN_none (by rwa [List.take_of_length_le (by omega)] at hni)];done)
theorem mapTs:mapT Tryz.prog 147 = some (.int .i64,4):=by kernel_rfl
theorem zroVs:zroV Tryz.prog 4 = some (.bool false):=by kernel_rfl
theorem keysN (l:List Nat):(l.map encN).all (keyD (.int .i64)) = true:=by simp [keyD,encN]
theorem keyEqI (a b:Int):keyEq (.int .i64 a) (.int .i64 b) = decide (a = b):=rfl
theorem getN (l:List Nat) (i:Nat):getK (.int .i64 (i:Int)) (l.map encN) (l.map fun _ => V.bool true) (.bool false) = .bool (decide (i ∈ l)):=by
  induction l with
  | nil => rfl
  | cons a l ih =>
    simp only [List.map_cons,getK,idxK,encN_mk,keyEqI,decide_eq_true_eq] at ih ⊢
    by_cases h:i = a
    · subst h;simp
    · have h2:¬ (i:Int) = (a:Int):=by omega
      rw [if_neg h2]
      have h3:decide (i ∈ a :: l) = decide (i ∈ l):=by simp [h]
      rw [h3,← ih]
      cases idxK (.int .i64 (i:Int)) (l.map encN) <;> simp
theorem setN {l:List Nat} {i:Nat} (hn:i ∉ l):setK (.int .i64 (i:Int)) (.bool true) (l.map encN) (l.map fun _ => V.bool true) = .map ((l ++ [i]).map encN) ((l ++ [i]).map fun _ => V.bool true):=by
  have h:idxK (.int .i64 (i:Int)) (l.map encN) = none:=by
    induction l with
    | nil => rfl
    | cons a l ih =>
      simp only [List.mem_cons,not_or] at hn
      have h2:¬ (i:Int) = (a:Int):=by omega
      simp only [List.map_cons,idxK,encN_mk,keyEqI,decide_eq_true_eq]
      rw [if_neg h2,show idxK (.int .i64 (i:Int)) (List.map encN l) = none from ih hn.2];rfl
  unfold setK
  rw [h];simp [encN]
theorem allTrue (l:List Nat) (k:Nat):(l.map fun _ => V.bool true).map (V.trim k) = l.map fun _ => V.bool true:=by simp [V.trim]
set_option maxRecDepth 100000 in
set_option maxHeartbeats 8000000 in
theorem follow_spec (l:List Pr) (ch:List Ty) (hl:l.length ≤ 1000000) (h:∀ p ∈ l,thrP p) (i0:Nat) (hi:i0 < l.length) (st:List O):Duo.Call Tryz.prog Tryz.gl2 65 [.agg [.sl (l.map encP) none,.sl (ch.map encT) none],.int .i64 i0] st (fun v st' => v = .tuple [.sl ((chW l i0).1.map encN) none,.int .i64 (backI (chW l i0).2)] ∧ st' = st):=by
  refine Duo.Call.clo fun hst => ?_
  refine Duo.Call.body 40 [(0,.agg [.sl (l.map encP) none,.sl (ch.map encT) none]),(1,.int .i64 i0)] Tryz.func65 rfl rfl ?_
  repeat' first
    | refine AW.seqK fun K hK => ?_
    | (refine hK _ _ ?_;clear hK K)
    | refine AW.region ?_
    | refine awL_call rfl (by exact ent28) (by simp only [go_sem,↓reduceIte,Nat.reduceEqDiff];rfl) (by exact wfor_spec l ch hl h q2 hI.ilt _) rfl ?_
    | refine awL_nil ?_
    | (refine awL_gyes rfl ?_ ?_;focus (simp only [S0,↓reduceIte,Nat.reduceEqDiff];done))
    | (refine awL_gcase rfl rfl (fun hg => ?_) (fun hg => ?_) <;> (rw [hg];(simp only [decide_eq_true_eq,decide_eq_false_iff_not,Int.not_lt] at hg);try (exfalso;omega)))
    | refine awL_S1 rfl rfl (by simp (disch:=(first | assumption | omega)) only [go_sem,↓reduceIte,Nat.reduceEqDiff,Nat.reduceAdd,Nat.reduceLeDiff,Nat.reduceMul,Nat.reduceLT,encN_mk,mapTs,zroVs,keysN,getN,setN,List.length_map];rfl) ?_
    | (refine AW.condK _ rfl (fun hb => ?_) (fun hb => ?_) <;> (simp only [decide_eq_true_eq,decide_eq_false_iff_not,Bool.not_eq_true',Bool.not_eq_false',Int.ofNat_le] at hb) <;> try (exfalso;omega))
    | refine AW.block ?_
    | refine bq_s ?_
    | refine bq_o rfl ?_
    | refine AW.exit ?_
    | refine AW.scope ?_
    | refine AW.label ?_
    | refine AW.skip ?_
    | refine useK (by assumption) ?_
    | (refine AW.tok 3 1 ?_;rw [List.append_assoc];simp only [List.cons_append,List.nil_append];refine AW.loopS (α:={ q:List Nat × Nat // ChI l i0 q.1 q.2 }) 40 (fun q => [(1,.int .i64 (q.1.2:Nat)),(2,.ptr st.length 0),(6,.sl (q.1.1.map encN) (some (st.length + 2))),(7,.map (st.length + 1))]) (fun q => st ++ [.box 59 [.sl (l.map encP) none,.sl (ch.map encT) none],.map (q.1.1.map encN) (q.1.1.map fun _ => V.bool true),.tok 3 1 q.1.1.length]) (fun q => l.length + 1 - q.1.1.length) ⟨([],i0),ChI.start hi⟩ rfl ?_ ?_ ?_;(focus (simp (disch:=omega) only [go_sem,↓reduceIte,Nat.reduceEqDiff,List.map_nil];done));(focus (simp (disch:=omega) only [go_sem,List.map_nil,List.length_nil];done));rintro ⟨⟨q1,q2⟩,hI⟩ hlc;dsimp only at hI ⊢;have hql:=hI.len)
    | (refine ⟨⟨(q1 ++ [q2],(forW l q2)[0]'(by omega)),hI.step (by assumption) (nextW_at (by omega))⟩,by simp only [List.length_append,List.length_cons,List.length_nil];omega,_,Nat.le_refl _,Nat.le_of_ble_eq_true rfl, ?_, ?_⟩ <;> (simp (disch:=omega) only [go_sem,↓reduceIte,Nat.reduceEqDiff,Nat.reduceAdd,encN_mk,allTrue,List.map_append,List.map_cons,List.map_nil,List.length_append,List.length_cons,List.length_nil,List.length_append,trimS_app hst]))
    | (refine AW.ret ?_;show (_ ∨ _) ∧ _;refine ⟨.inr rfl, ?_⟩;show resP _ _ _ [.tmp 4,.tmp 5] _;simp (disch:=(first | assumption | omega)) only [go_sem,↓reduceIte,Nat.reduceEqDiff];refine ⟨_,_,_,Nat.le_refl _,V.le_refl _ _,StLe.refl _, ?_⟩;(simp (disch:=omega) only [go_sem,hst.trim_append]))
  all_goals first | (rw [hI.none (by assumption) (nextW_nil (by assumption)),List.map_append];rfl) | (rw [hI.stop (by assumption)];rfl)
set_option maxRecDepth 100000 in
set_option maxHeartbeats 8000000 in
theorem pchain_spec (l:List Pr) (ch:List Ty) (hl:l.length ≤ 1000000) (h:∀ p ∈ l,thrP p) (i:Nat) (hi:i < l.length) (st:List O):Duo.Call Tryz.prog Tryz.gl2 30 [.agg [.sl (l.map encP) none,.sl (ch.map encT) none],.int .i64 i] st (fun v st' => v = .sl ((chW l i).1.map encN) none ∧ st' = st):=by
  refine Duo.Call.clo fun hst => ?_
  refine Duo.Call.body 14 [(0,.agg [.sl (l.map encP) none,.sl (ch.map encT) none]),(1,.int .i64 i)] Tryz.func30 rfl rfl ?_
  repeat' first
    | refine AW.seqK fun K hK => ?_
    | (refine hK _ _ ?_;clear hK K)
    | refine AW.region ?_
    | refine awL_call rfl (by exact ent65) (by simp only [go_sem,↓reduceIte,Nat.reduceEqDiff];rfl) (by exact follow_spec l ch hl h i hi _) rfl ?_
    | refine awL_nil ?_
    | refine awL_S1 rfl rfl (by simp (disch:=omega) only [go_sem,↓reduceIte,Nat.reduceEqDiff,Nat.reduceAdd,Nat.reduceLT];rfl) ?_
    | (refine AW.ret ?_;show (_ ∨ _) ∧ _;refine ⟨.inr rfl, ?_⟩;show resP _ _ _ [.tmp 4] _;simp (disch:=omega) only [go_sem,↓reduceIte];refine ⟨_,_,_,Nat.le_refl _,V.le_refl _ _,StLe.refl _, ?_⟩;(simp (disch:=omega) only [go_sem,hst.trim_append]))
theorem idxN_lt (l:List Nat) (c:Nat):(idxN l c < 0) = ¬ c ∈ l:=by
  have:=idxN_ge l c
  rw [← this]
  exact propext ⟨fun h => by omega,fun h => by omega⟩
theorem rindexT_spec (l:List Nat) (c:Nat) (tk:Option Nat) (hl:l.length ≤ 9223372036854775807) (st:List O):Duo.Call Tryz.prog Tryz.gl2 36 [.sl (l.map encN) tk,.int .i64 c] st (fun v st' => v = .int .i64 (idxN l c) ∧ st' = st) :=
  Duo.Call.argle (show CLe _ [_,_] [_,_] from ⟨V.le_sl _ _ _,V.le_refl _ _,trivial⟩) (rindex_spec l c hl st)
theorem back_yes {o:Option Nat} (h:0 ≤ backI o):∃ j,o = some j:=by
  cases o with
  | none => exact absurd h (by decide)
  | some j => exact ⟨j,rfl⟩
theorem back_no {o:Option Nat} (h:backI o < 0):o = none:=by
  cases o with
  | none => rfl
  | some j => exact absurd h (by show ¬ (j:Int) < 0;omega)
theorem sindexB_spec (m:List Nat) (o:Option Nat) (j n:Nat) (ho:o = some j) (hn:idxN m j = n) (hl:m.length ≤ 9223372036854775807) (st:List O):Duo.Call Tryz.prog Tryz.gl2 66 [.sl (m.map encN) none,.int .i64 (backI o)] st (fun v st' => v = .int .i64 (n:Int) ∧ st' = st):=by subst ho;rw [← hn];exact sindex_spec m j hl st
theorem le_nilF (st:List O) (b:Bool):V.le st (.tuple [.nil,.bool b]) (.tuple [.sl [] none,.bool b]):=V.le_tuple rfl fun i c d hc hd => by
  rcases i with _ | _ | i
  · simp at hc hd;subst hc hd;exact V.le_nil _
  · simp at hc hd;subst hc hd;exact V.le_refl _ _
  · simp at hc
theorem cyc_none' {l:List Pr} {i:Nat} (hi:¬ i < l.length) (h:∀ k < i,(chW l k).2 = none):cycW l = none:=cyc_none fun k hk => h k (by omega)
set_option maxRecDepth 100000 in
set_option maxHeartbeats 8000000 in
theorem pcycle_spec (l:List Pr) (ch:List Ty) (hl:l.length ≤ 1000000) (h:∀ p ∈ l,thrP p) (st:List O):Duo.Call Tryz.prog Tryz.gl2 32 [.agg [.sl (l.map encP) none,.sl (ch.map encT) none]] st (fun v st' => v = .tuple [.sl (((cycW l).getD []).map encN) none,.bool (cycW l).isSome] ∧ st' = st):=by
  refine Duo.Call.clo fun hst => ?_
  refine Duo.Call.body 27 [(0,.agg [.sl (l.map encP) none,.sl (ch.map encT) none])] Tryz.func32 rfl rfl ?_
  repeat' first
    | refine AW.seqK fun K hK => ?_
    | (refine hK _ _ ?_;clear hK K)
    | refine AW.region ?_
    | refine awL_call rfl (by exact ent65) (by simp only [go_sem,↓reduceIte,Nat.reduceEqDiff];rfl) (by first | exact follow_spec l ch hl h i (by assumption) _ | exact sindexB_spec _ _ j n hj hn (by have:=(chW_end (by assumption:i < l.length));obtain ⟨_,_,_,_,h9⟩:=this;omega) _) rfl ?_
    | refine awL_nil ?_
    | ((fail_if_success (clear hj));(have hj0:=back_yes (o:=(chW l i).2) (by assumption));rcases hj0 with ⟨j,hj⟩;have hjm:0 ≤ idxN (chW l i).1 j ∧ idxN (chW l i).1 j < (chW l i).1.length:=(by obtain ⟨_,_,h9,_⟩:=chW_end (show i < l.length by assumption);exact idxN_mem (h9 j hj));(have hn0:=Int.eq_ofNat_of_zero_le hjm.1);rcases hn0 with ⟨n,hn⟩;rw [hn] at hjm)
    | refine awL_S1 rfl rfl (by simp (disch:=omega) only [go_sem,↓reduceIte,Nat.reduceEqDiff,Nat.reduceAdd,Nat.reduceLeDiff,Nat.reduceLT,List.length_map,drop_row,allN,takeN];rfl) ?_
    | (refine AW.condK _ rfl (fun hb => ?_) (fun hb => ?_) <;> (simp only [decide_eq_true_eq,decide_eq_false_iff_not,Int.not_le] at hb) <;> skip)
    | refine AW.block ?_
    | refine bq_s ?_
    | refine AW.exit ?_
    | refine AW.skip ?_
    | refine useK (by assumption) ?_
    | (refine AW.loopS (α:={ i:Nat // i ≤ l.length ∧ ∀ k < i,(chW l k).2 = none }) 27 (fun i => [(1,.ptr st.length 0),(9,.int .i64 l.length),(10,.int .i64 (i.1:Nat))]) (fun i => st ++ [.box 59 [.sl (l.map encP) none,.sl (ch.map encT) none]]) (fun i => l.length - i.1) ⟨0,Nat.zero_le _,fun k hk => by omega⟩ rfl ?_ ?_ ?_;(focus (simp (disch:=omega) only [go_sem,↓reduceIte,Nat.reduceEqDiff];done));(focus (simp (disch:=omega) only [go_sem];done));rintro ⟨i,hi,hno⟩ hlc;dsimp only)
    | (refine ⟨⟨i + 1,by omega,fun k hk => by rcases Nat.lt_or_eq_of_le (Nat.le_of_lt_succ hk) with h9 | h9;exact hno k h9;subst h9;exact back_no (by assumption)⟩,by simp only [];omega,_,Nat.le_refl _,Nat.le_of_ble_eq_true rfl, ?_, ?_⟩ <;> (simp (disch:=omega) only [go_sem,↓reduceIte,Nat.reduceEqDiff,List.length_append,trimS_app hst]))
    | (refine AW.ret ?_;show (_ ∨ _) ∧ _;refine ⟨.inr rfl, ?_⟩;show resP _ _ _ [.tmp 2,.tmp 3] _;simp (disch:=omega) only [go_sem,↓reduceIte,Nat.reduceEqDiff];refine ⟨_,_,_,Nat.le_refl _,le_nilF _ _,StLe.refl _, ?_⟩;(refine ⟨(by rw [cyc_none' (by assumption) hno];rfl), ?_⟩ <;> (simp (disch:=omega) only [go_sem,hst.trim_append];done)))
    | (refine AW.ret ?_;show (_ ∨ _) ∧ _;refine ⟨.inr rfl, ?_⟩;show resP _ _ _ [.tmp 2,.tmp 3] _;simp (disch:=omega) only [go_sem,↓reduceIte,Nat.reduceEqDiff];refine ⟨_,_,_,Nat.le_refl _,V.le_refl _ _,StLe.refl _, ?_⟩;(simp (disch:=omega) only [go_sem,hst.trim_append]))
  all_goals ((rw [cyc_at (by assumption) hno hj,hn];rfl))
set_option maxRecDepth 100000 in
set_option maxHeartbeats 8000000 in
theorem inner_spec (p:Pr) (h:thrP p) (st:List O):Duo.Call Tryz.prog Tryz.gl2 69 [encP p] st (fun v st' => v = .sl ((freeS (withC [45] p)).map .str) none ∧ st' = st):=by
  refine Duo.Call.clo fun hst => ?_
  refine Duo.Call.body 9 [(0,encP p)] Tryz.func69 rfl rfl ?_
  repeat' first
    | refine AW.seqK fun K hK => ?_
    | (refine hK _ _ ?_;clear hK K)
    | refine AW.region ?_
    | refine awL_call rfl (by exact ent104) (by simp only [go_sem,↓reduceIte];rfl) (by first | exact copyW_spec p h _ | exact rfreeC_spec p h _) rfl ?_
    | refine awL_nil ?_
    | refine awL_S1 rfl rfl (by simp (disch:=omega) only [go_sem,↓reduceIte,Nat.reduceEqDiff,Nat.reduceAdd,Nat.reduceLeDiff,Nat.reduceLT,cellsP p,foldP p];rfl) ?_
    | (refine AW.ret ?_;show (_ ∨ _) ∧ _;refine ⟨.inr rfl, ?_⟩;show resP _ _ _ [.tmp 2] _;simp (disch:=omega) only [go_sem,↓reduceIte];refine ⟨_,_,_,Nat.le_refl _,V.le_refl _ _,StLe.refl _, ?_⟩;(simp (disch:=omega) only [go_sem,hst.trim_append]))
  all_goals trace_state
theorem inW_spec (s:Str) (l:List Str) (hl:l.length ≤ 9223372036854775807) (st:List O):Duo.Call Tryz.prog Tryz.gl2 22 [.str s,.sl (l.map .str) none] st (fun v st' => v = .bool (decide (s ∈ l)) ∧ st' = st):=up (in3_spec s l hl st)
theorem wait_self {l:List Pr} {i:Nat} (hi:i < l.length) (hf:preK l[i].kind = true) (he:epO l[i].chan = true):decide (dualN l[i].chan ∈ freeS (withC [45] l[i])) = waitB l i i:=by
  rw [waitB_eq hi hi,he,Bool.true_and,if_pos rfl]
  rcases inner_same (p:=l[i]) (s:=dualN l[i].chan) (dualN_len he) with h | h
  · exact h
  · have:=preK_yes hf;omega
theorem wait_other {l:List Pr} {i k:Nat} (hi:i < l.length) (hk:k < l.length) (hne:¬ i = k) (he:epO l[i].chan = true):decide (dualN l[i].chan ∈ freeS l[k]) = waitB l i k:=by
  rw [waitB_eq hi hk,he,Bool.true_and,if_neg (by omega)]
theorem wait_not {l:List Pr} {i k:Nat} (hi:i < l.length) (he:epO l[i].chan = false):waitB l i k = false:=by
  unfold waitB;rw [getD_ltI _ _ _ hi,he,Bool.false_and]
set_option maxRecDepth 100000 in
set_option maxHeartbeats 8000000 in
theorem rwaits_spec (l:List Pr) (hl:l.length ≤ 1000000) (h:∀ p ∈ l,thrP p) (i k:Nat) (hi:i < l.length) (hk:k < l.length) (st:List O):Duo.Call Tryz.prog Tryz.gl2 37 [.sl (l.map encP) none,.int .i64 i,.int .i64 k] st (fun v st' => v = .bool (waitB l i k) ∧ st' = st):=by
  refine Duo.Call.clo fun hst => ?_
  have hf1:=free_len l[k] (h _ (List.getElem_mem hk)).sm (h _ (List.getElem_mem hk)).sz
  have hf2:=free_len (withC [45] l[i]) (smA_with (h _ (List.getElem_mem hi)).sm [45]) (by rw [sz_with];exact (h _ (List.getElem_mem hi)).sz)
  refine Duo.Call.body 37 [(0,.sl (l.map encP) none),(1,.int .i64 i),(2,.int .i64 k)] Tryz.func37 rfl rfl ?_
  repeat' first
    | refine AW.seqK fun K hK => ?_
    | (refine hK _ _ ?_;clear hK K)
    | refine AW.region ?_
    | refine awL_call rfl (by exact ent68) (by simp only [go_sem,↓reduceIte,Nat.reduceEqDiff];rfl) (by first | exact rdual_spec _ (by have:=(h _ (List.getElem_mem hi)).cl;omega) _ | exact inner_spec _ (h _ (List.getElem_mem hi)) _ | exact rfreeW_spec _ (h _ (List.getElem_mem hk)) _ | exact inW_spec _ _ (by omega) _) rfl ?_
    | refine awL_nil ?_
    | refine awL_S1 rfl rfl (by simp (disch:=omega) only [go_sem,↓reduceIte,Nat.reduceEqDiff,Nat.reduceAdd,Nat.reduceLeDiff,Nat.reduceSub,Nat.reduceLT,dualV_eq,List.length_map];rfl) ?_
    | (refine AW.condK _ rfl (fun hb => ?_) (fun hb => ?_) <;> (simp only [Int.ofNat_inj,decide_eq_true_eq,decide_eq_false_iff_not,Bool.not_eq_true',Bool.not_eq_false'] at hb) <;> skip)
    | refine AW.skip ?_
    | (refine AW.ret ?_;show (_ ∨ _) ∧ _;refine ⟨.inr rfl, ?_⟩;show resP _ _ _ [.tmp 6] _;simp (disch:=omega) only [go_sem,↓reduceIte];refine ⟨_,_,_,Nat.le_refl _,V.le_refl _ _,StLe.refl _, ?_⟩;(simp (disch:=omega) only [go_sem,hst.trim]))
  all_goals first | (rw [wait_not hi (by assumption)];done) | (rw [wait_other hi hk (by assumption) (by assumption)];done) | ((obtain rfl:i = k:=(by omega));rw [wait_self hi (h _ (List.getElem_mem hi)).pre (by assumption)];done)
set_option maxRecDepth 100000 in
set_option maxHeartbeats 8000000 in
theorem rfor_spec (l:List Pr) (hl:l.length ≤ 1000000) (h:∀ p ∈ l,thrP p) (i:Nat) (hi:i < l.length) (st:List O):Duo.Call Tryz.prog Tryz.gl2 26 [.sl (l.map encP) none,.int .i64 i] st (fun v st' => v = .sl ((forW l i).map encN) none ∧ st' = st):=by
  refine Duo.Call.clo fun hst => ?_
  refine Duo.Call.body 32 [(0,.sl (l.map encP) none),(1,.int .i64 i)] Tryz.func26 rfl rfl ?_
  repeat' first
    | refine AW.seqK fun K hK => ?_
    | (refine hK _ _ ?_;clear hK K)
    | refine AW.region ?_
    | refine awL_call rfl (by exact ent37) (by simp only [go_sem,↓reduceIte,Nat.reduceEqDiff];rfl) (by exact rwaits_spec l hl h i _ hi (by assumption) _) rfl ?_
    | refine awL_nil ?_
    | (refine awL_gno rfl ?_ rfl ?_;focus (simp only [S0,↓reduceIte,Nat.reduceEqDiff,Bool.not_true];done))
    | (refine awL_gyes rfl ?_ ?_;focus (simp only [S0,↓reduceIte,Nat.reduceEqDiff];done))
    | (refine awL_gcase rfl rfl (fun hg => ?_) (fun hg => ?_) <;> (rw [hg];(simp only [decide_eq_true_eq,decide_eq_false_iff_not] at hg);skip))
    | refine awL_S1 rfl rfl (by simp (disch:=omega) only [go_sem,↓reduceIte,Nat.reduceEqDiff,Nat.reduceLeDiff,Nat.reduceMul,List.length_map];rfl) ?_
    | (refine AW.condK _ rfl (fun hb => ?_) (fun hb => ?_) <;> (try simp only [Bool.false_eq_true,decide_eq_true_eq,decide_eq_false_iff_not] at hb) <;> try (exfalso;omega))
    | refine AW.block ?_
    | refine bq_s ?_
    | refine AW.exit ?_
    | refine AW.skip ?_
    | refine useK (by assumption) ?_
    | (refine AW.tok 3 1 ?_;refine AW.loopS (α:={ k:Nat // k ≤ l.length }) 32 (fun k => [(0,.sl (l.map encP) none),(1,.int .i64 i),(5,.sl ((forK l i k.1).map encN) (some st.length)),(6,.int .i64 (k.1:Nat))]) (fun k => st ++ [.tok 3 1 (forK l i k.1).length]) (fun k => l.length - k.1) ⟨0,Nat.zero_le _⟩ rfl ?_ ?_ ?_;(focus (simp (disch:=omega) only [go_sem,↓reduceIte,Nat.reduceEqDiff,forK_0,List.map_nil];done));(focus (simp (disch:=omega) only [go_sem,forK_0,List.length_nil];done));rintro ⟨k,hk⟩ hlc;dsimp only;have hkl:=forK_len l i k)
    | (have hp:=forK_yes (l:=l) (i:=i) (k:=k) (by assumption);refine ⟨⟨k + 1,by omega⟩,by simp only [];omega,_,Nat.le_refl _,Nat.le_of_ble_eq_true rfl, ?_, ?_⟩ <;> (simp (disch:=omega) only [go_sem,↓reduceIte,Nat.reduceEqDiff,encN_mk,List.map_append,List.map_cons,List.map_nil,List.length_append,List.length_cons,List.length_nil,hp,List.length_append,trimS_app hst];done))
    | (have hp:=forK_no (l:=l) (i:=i) (k:=k) (by assumption);refine ⟨⟨k + 1,by omega⟩,by simp only [];omega,_,Nat.le_refl _,Nat.le_of_ble_eq_true rfl, ?_, ?_⟩ <;> (simp (disch:=omega) only [go_sem,↓reduceIte,Nat.reduceEqDiff,List.map_cons,List.map_nil,List.length_append,List.length_cons,List.length_nil,hp,List.length_append,trimS_app hst]))
    | (refine AW.ret ?_;show (_ ∨ _) ∧ _;refine ⟨.inr rfl, ?_⟩;show resP _ _ _ [.tmp 4] _;simp (disch:=omega) only [go_sem,↓reduceIte];refine ⟨_,_,_,Nat.le_refl _,V.le_refl _ _,StLe.refl _, ?_⟩;(simp (disch:=omega) only [go_sem,hst.trim_append]))
  all_goals (((obtain rfl:k = l.length:=(by omega));rfl))
set_option maxRecDepth 100000 in
set_option maxHeartbeats 8000000 in
theorem rchain_spec (l:List Pr) (hl:l.length ≤ 1000000) (h:∀ p ∈ l,thrP p) (i0:Nat) (hi:i0 < l.length) (st:List O):Duo.Call Tryz.prog Tryz.gl2 31 [.sl (l.map encP) none,.int .i64 i0] st (fun v st' => v = .sl ((chW l i0).1.map encN) none ∧ st' = st):=by
  refine Duo.Call.clo fun hst => ?_
  refine Duo.Call.body 36 [(0,.sl (l.map encP) none),(1,.int .i64 i0)] Tryz.func31 rfl rfl ?_
  repeat' first
    | refine AW.seqK fun K hK => ?_
    | (refine hK _ _ ?_;clear hK K)
    | refine AW.region ?_
    | refine awL_call rfl (by exact ent36) (by simp only [go_sem,↓reduceIte,Nat.reduceEqDiff];rfl) (by first | exact rfor_spec l hl h q2 hI.ilt _ | exact rindexT_spec _ _ _ (by omega) _) rfl ?_
    | refine awL_nil ?_
    | (refine awL_gyes rfl ?_ ?_;focus (simp only [S0,↓reduceIte,Nat.reduceEqDiff];done))
    | (refine awL_gcase rfl rfl (fun hg => ?_) (fun hg => ?_) <;> (rw [hg];(simp only [decide_eq_true_eq,decide_eq_false_iff_not] at hg);try (exfalso;omega)))
    | refine awL_S1 rfl rfl (by simp (disch:=omega) only [go_sem,↓reduceIte,Nat.reduceEqDiff,Nat.reduceLeDiff,Nat.reduceMul,encN_mk,List.length_map];rfl) ?_
    | (refine AW.condK _ rfl (fun hb => ?_) (fun hb => ?_) <;> (simp only [decide_eq_true_eq,decide_eq_false_iff_not,Decidable.not_not,idxN_lt] at hb) <;> skip)
    | refine AW.block ?_
    | refine bq_s ?_
    | refine AW.exit ?_
    | refine AW.skip ?_
    | refine useK (by assumption) ?_
    | (refine AW.tok 3 1 ?_;refine AW.loopS (α:={ q:List Nat × Nat // ChI l i0 q.1 q.2 }) 36 (fun q => [(0,.sl (l.map encP) none),(1,.int .i64 (q.1.2:Nat)),(5,.sl (q.1.1.map encN) (some st.length))]) (fun q => st ++ [.tok 3 1 q.1.1.length]) (fun q => l.length + 1 - q.1.1.length) ⟨([],i0),ChI.start hi⟩ rfl ?_ ?_ ?_;(focus (simp (disch:=omega) only [go_sem,↓reduceIte,Nat.reduceEqDiff,List.map_nil];done));(focus (simp (disch:=omega) only [go_sem,List.length_nil];done));rintro ⟨⟨q1,q2⟩,hI⟩ hlc;dsimp only at hI ⊢;have hql:=hI.len;have hqi:=hI.ilt)
    | (refine ⟨⟨(q1 ++ [q2],(forW l q2)[0]'(by omega)),hI.step (by assumption) (nextW_at (by omega))⟩,by simp only [List.length_append,List.length_cons,List.length_nil];omega,_,Nat.le_refl _,Nat.le_of_ble_eq_true rfl, ?_, ?_⟩ <;> (simp (disch:=omega) only [go_sem,↓reduceIte,Nat.reduceEqDiff,encN_mk,List.map_append,List.map_cons,List.map_nil,List.length_append,List.length_cons,List.length_nil,List.length_append,trimS_app hst]))
    | (refine AW.ret ?_;show (_ ∨ _) ∧ _;refine ⟨.inr rfl, ?_⟩;show resP _ _ _ [.tmp 4] _;simp (disch:=omega) only [go_sem,↓reduceIte];refine ⟨_,_,_,Nat.le_refl _,V.le_refl _ _,StLe.refl _, ?_⟩;(simp (disch:=omega) only [go_sem,hst.trim_append]))
  all_goals first | (rw [hI.none (by assumption) (nextW_nil (by assumption)),List.map_append];rfl) | (rw [hI.stop (by assumption)];done)
theorem chW_facts {l:List Pr} {i:Nat} (hi:i < l.length):∃ hp:0 < (chW l i).1.length,nextW l ((chW l i).1[(chW l i).1.length - 1]'(by omega)) = (chW l i).2 ∧ (∀ x ∈ (chW l i).1,x < l.length) ∧ (∀ j,(chW l i).2 = some j → j ∈ (chW l i).1) ∧ (chW l i).1.length ≤ l.length:=by
  obtain ⟨hne,h1,h2,h3,h4⟩:=chW_end hi
  refine ⟨List.length_pos_iff.2 hne, ?_,h3,h2,h4⟩
  rw [← List.getLast_eq_getElem hne];exact h1
theorem castS (n:Nat) (h:0 < n):((n:Int) - 1).toNat = n - 1:=by omega
theorem rindexM_spec (m:List Nat) (j n:Nat) (hn:idxN m j = n) (hl:m.length ≤ 9223372036854775807) (st:List O):Duo.Call Tryz.prog Tryz.gl2 36 [.sl (m.map encN) none,.int .i64 (j:Int)] st (fun v st' => v = .int .i64 (n:Int) ∧ st' = st):=by rw [← hn];exact rindex_spec m j hl st
set_option maxRecDepth 100000 in
set_option maxHeartbeats 8000000 in
theorem rcycle_spec (l:List Pr) (hl:l.length ≤ 1000000) (h:∀ p ∈ l,thrP p) (st:List O):Duo.Call Tryz.prog Tryz.gl2 33 [.sl (l.map encP) none] st (fun v st' => v = .sl (((cycW l).getD []).map encN) none ∧ st' = st):=by
  refine Duo.Call.clo fun hst => ?_
  refine Duo.Call.body 33 [(0,.sl (l.map encP) none)] Tryz.func33 rfl rfl ?_
  repeat' first
    | refine AW.seqK fun K hK => ?_
    | (refine hK _ _ ?_;clear hK K)
    | refine AW.region ?_
    | refine awL_call rfl (by exact ent31) (by simp only [go_sem,↓reduceIte,Nat.reduceEqDiff];rfl) (by first | exact rchain_spec l hl h i (by assumption) _ | exact rfor_spec l hl h _ (hl9 _ (List.getElem_mem _)) _ | exact rindexM_spec _ _ n hn (by omega) _) rfl ?_
    | refine awL_nil ?_
    | ((fail_if_success (clear hj));(have hj:(chW l i).2 = some ((forW l ((chW l i).1[(chW l i).1.length - 1]'(by omega)))[0]'(by assumption)):=(by rw [← hn9];exact nextW_at (by assumption)));(have hjm:=idxN_mem (hj9 _ hj));(have hn0:=Int.eq_ofNat_of_zero_le hjm.1);rcases hn0 with ⟨n,hn⟩;rw [hn] at hjm)
    | ((fail_if_success (clear hm9));(rcases Nat.lt_or_ge i l.length with hil | hil;rotate_left;focus (exfalso;omega));have hm9:=chW_facts hil;rcases hm9 with ⟨hp9,hn9,hl9,hj9,hlen9⟩;have hm9:=True.intro)
    | refine awL_S1 rfl rfl (by simp (disch:=(first | assumption | omega)) only [go_sem,↓reduceIte,Nat.reduceEqDiff,encN_mk,List.length_map,drop_row,allN,takeN,castS];rfl) ?_
    | (refine AW.condK _ rfl (fun hb => ?_) (fun hb => ?_) <;> (simp only [decide_eq_true_eq,decide_eq_false_iff_not] at hb) <;> skip)
    | refine AW.block ?_
    | refine bq_s ?_
    | refine AW.exit ?_
    | refine AW.skip ?_
    | refine useK (by assumption) ?_
    | (refine AW.loopS (α:={ i:Nat // i ≤ l.length ∧ ∀ k < i,(chW l k).2 = none }) 33 (fun i => [(0,.sl (l.map encP) none),(3,.int .i64 (i.1:Nat))]) (fun i => st) (fun i => l.length - i.1) ⟨0,Nat.zero_le _,fun k hk => by omega⟩ rfl ?_ ?_ ?_;(focus (simp (disch:=omega) only [go_sem,↓reduceIte,Nat.reduceEqDiff];done));(focus (simp (disch:=omega) only [go_sem];done));rintro ⟨i,hi,hno⟩ hlc;dsimp only)
    | (refine ⟨⟨i + 1,by omega,fun k hk => by rcases Nat.lt_or_eq_of_le (Nat.le_of_lt_succ hk) with h9 | h9;exact hno k h9;subst h9;rw [← hn9];exact nextW_nil (by omega)⟩,by simp only [];omega,_,Nat.le_refl _,Nat.le_of_ble_eq_true rfl, ?_, ?_⟩ <;> (simp (disch:=omega) only [go_sem,↓reduceIte,Nat.reduceEqDiff,hlc.trim]))
    | (refine AW.ret ?_;show (_ ∨ _) ∧ _;refine ⟨.inr rfl, ?_⟩;show resP _ _ _ [.tmp 2] _;simp (disch:=omega) only [go_sem,↓reduceIte];refine ⟨_,_,_,Nat.le_refl _,V.le_nil _,StLe.refl _, ?_⟩;(refine ⟨(by rw [cyc_none' (by assumption) hno];rfl), ?_⟩ <;> (simp (disch:=omega) only [go_sem,hst.trim];done)))
    | (refine AW.ret ?_;show (_ ∨ _) ∧ _;refine ⟨.inr rfl, ?_⟩;show resP _ _ _ [.tmp 2] _;simp (disch:=(first | assumption | omega)) only [go_sem,↓reduceIte];refine ⟨_,_,_,Nat.le_refl _,V.le_refl _ _,StLe.refl _, ?_⟩;(simp (disch:=omega) only [go_sem,hst.trim]))
  all_goals ((rw [cyc_at (by assumption) hno hj,hn];rfl))
end Tryz
end Go.Proofs
