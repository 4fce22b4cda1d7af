/-
  A part of the proof.
-/
import Derived.Test.YtdlcnihacaboiaaGreatDoorWaitR
import Derived.Test.YtdlcnihacaboiaaGreatDoorWaitAwake
import Derived.Test.YtdlcnihacaboiaaGreatDoorGL
import Derived.Test.YtdlcnihacaboiaaGreatDoorDS3
set_option linter.all false
namespace Go.Proofs
open Go Go.Duo
namespace Tryz
attribute [local irreducible] awL awA awT AW
set_option maxRecDepth 100000 in
set_option maxHeartbeats 8000000 in
theorem numbers_spec (a b:List Nat) (ha:a.length ≤ 1000000) (st:List O):Duo.Call Tryz.prog Tryz.gl2 27 [.sl (a.map encN) none,.sl (b.map encN) none] st (fun v st' => v = .bool (decide (a = b)) ∧ st' = st):=by
  refine Duo.Call.clo fun hst => ?_
  refine Duo.Call.body 26 [(0,.sl (a.map encN) none),(1,.sl (b.map encN) none)] Tryz.func27 rfl rfl ?_
  repeat' first
    | refine AW.seqK fun K hK => ?_
    | (refine hK _ _ ?_;clear hK K)
    | refine AW.region ?_
    | refine AW.any (id:=6) mix 8 (by decide +kernel) ?_
    | refine awA_nil (by simp only [applyUps];rfl) ?_
    | refine awL_nil ?_
    | refine awL_S1 rfl rfl (by simp (disch:=omega) only [go_sem,↓reduceIte,Nat.reduceEqDiff,List.length_map];rfl) ?_
    | refine awA_S1 rfl rfl (by simp (disch:=omega) only [go_sem,↓reduceIte,Nat.reduceEqDiff,encN_mk,List.length_map];rfl) ?_
    | (refine AW.condK _ rfl (fun hb => ?_) (fun hb => ?_) <;> (simp only [Int.ofNat_inj,decide_eq_true_eq,decide_eq_false_iff_not,Decidable.not_not] at hb) <;> skip)
    | refine AW.block ?_
    | refine bq_s ?_
    | refine AW.exit ?_
    | refine AW.skip ?_
    | refine useK (by assumption) ?_
    | (refine AW.loopS (α:={ i:Nat // i ≤ a.length ∧ a.take i = b.take i }) 26 (fun i => [(0,.sl (a.map encN) none),(1,.sl (b.map encN) none),(5,.int .i64 (i.1:Nat))]) (fun i => st) (fun i => a.length - i.1) ⟨0,Nat.zero_le _,by simp⟩ rfl ?_ ?_ ?_;(focus (simp (disch:=omega) only [go_sem,↓reduceIte,Nat.reduceEqDiff];done));(focus (simp (disch:=omega) only [go_sem];done));rintro ⟨i,hi,hpre⟩ hlc;dsimp only)
    | (refine ⟨⟨i + 1,by omega,takeN_step hpre (by omega) (by omega) (by omega)⟩,by simp only [];omega,_,Nat.le_refl _,Nat.le_of_ble_eq_true rfl, ?_, ?_⟩ <;> (simp (disch:=omega) only [go_sem,↓reduceIte,Nat.reduceEqDiff,hlc.trim]))
    | (refine AW.ret ?_;show (_ ∨ _) ∧ _;refine ⟨.inr rfl, ?_⟩;show resP _ _ _ [.tmp 4] _;simp (disch:=omega) only [go_sem,↓reduceIte];refine ⟨_,_,_,Nat.le_refl _,V.le_refl _ _,StLe.refl _, ?_⟩;(simp (disch:=omega) only [go_sem,hst.trim]))
  all_goals first | (rw [decide_eq_false (by rintro rfl;omega)];done) | (rw [decide_eq_true (takeN_end hpre (by omega) (by omega))];done)
set_option maxRecDepth 100000 in
set_option maxHeartbeats 8000000 in
theorem fwd_spec (l:List Pr) (ch:List Ty) (st:List O):Duo.Call Tryz.prog Tryz.gl2 29 [.agg [.sl (l.map encP) none,.sl (ch.map encT) none]] st (fun v st' => v = .agg [.sl (l.map encP) none,.sl (ch.map encT) none] ∧ st' = st):=by
  refine Duo.Call.clo fun hst => ?_
  refine Duo.Call.body 8 [(0,.agg [.sl (l.map encP) none,.sl (ch.map encT) none])] Tryz.func29 rfl rfl ?_
  repeat' first
    | refine AW.seqK fun K hK => ?_
    | (refine hK _ _ ?_;clear hK K)
    | refine AW.region ?_
    | refine awL_nil ?_
    | refine awL_S1 rfl rfl (by simp (disch:=omega) only [go_sem,↓reduceIte,Nat.reduceEqDiff,Nat.reduceAdd,Nat.reduceLeDiff,Nat.reduceLT];rfl) ?_
    | (refine AW.ret ?_;show (_ ∨ _) ∧ _;refine ⟨.inr rfl, ?_⟩;show resP _ _ _ [.cell 2 59] _;simp (disch:=omega) only [go_sem,↓reduceIte,Nat.reduceEqDiff,Nat.reduceAdd];refine ⟨_,_,_,Nat.le_refl _,V.le_refl _ _,StLe.refl _, ?_⟩;(simp (disch:=omega) only [go_sem,hst.trim_append]))
  all_goals trace_state
set_option maxRecDepth 100000 in
set_option maxHeartbeats 8000000 in
theorem wforX_spec (l:List Pr) (ch:List Ty) (x:Int) (hx:¬ (0 ≤ x ∧ x < l.length)) (st:List O):Duo.Call Tryz.prog Tryz.gl2 28 [.agg [.sl (l.map encP) none,.sl (ch.map encT) none],.int .i64 x] st (fun v st' => v = .sl (([]:List Nat).map encN) none ∧ st' = st):=by
  refine Duo.Call.clo fun hst => ?_
  refine Duo.Call.body 51 [(0,.agg [.sl (l.map encP) none,.sl (ch.map encT) none]),(1,.int .i64 x)] Tryz.func28 rfl rfl ?_
  repeat' first
    | refine AW.seqK fun K hK => ?_
    | (refine hK _ _ ?_;clear hK K)
    | refine AW.region ?_
    | refine awL_nil ?_
    | (refine awL_gno rfl ?_ rfl ?_;focus (simp only [S0,↓reduceIte,Nat.reduceEqDiff,Bool.not_false];done))
    | (refine awL_gyes rfl ?_ ?_;focus (simp only [S0,↓reduceIte,Nat.reduceEqDiff];done))
    | (refine awL_gcase rfl rfl (fun hg => ?_) (fun hg => ?_) <;> (rw [hg];(simp only [decide_eq_true_eq,decide_eq_false_iff_not,Int.not_lt] at hg);skip))
    | refine awL_S1 rfl rfl (by simp (disch:=omega) only [go_sem,↓reduceIte,Nat.reduceEqDiff,Nat.reduceAdd,Nat.reduceLeDiff,Nat.reduceLT,List.length_map];rfl) ?_
    | (refine AW.condK _ rfl (fun hb => ?_) (fun hb => ?_) <;> (simp only [Bool.true_eq_false,decide_eq_true_eq,decide_eq_false_iff_not,Int.not_le] at hb) <;> try (exfalso;omega))
    | (refine AW.ret ?_;show (_ ∨ _) ∧ _;refine ⟨.inr rfl, ?_⟩;show resP _ _ _ [.tmp 4] _;simp (disch:=omega) only [go_sem,↓reduceIte];refine ⟨_,_,_,Nat.le_refl _,V.le_nil _,StLe.refl _, ?_⟩;(refine ⟨rfl, ?_⟩ <;> (simp (disch:=omega) only [go_sem,hst.trim_append];done)))
  all_goals trace_state
theorem le_nilI (st:List O) (n:Int):V.le st (.tuple [.nil,.int .i64 n]) (.tuple [.sl [] none,.int .i64 n]):=V.le_tuple rfl fun i c d hc hd => by
  rcases i with _ | _ | i
  · simp at hc hd;subst hc hd;exact V.le_nil _
  · simp at hc hd;subst hc hd;exact V.le_refl _ _
  · simp at hc
set_option maxRecDepth 100000 in
set_option maxHeartbeats 8000000 in
theorem followX_spec (l:List Pr) (ch:List Ty) (x:Int) (hx:¬ (0 ≤ x ∧ x < l.length)) (st:List O):Duo.Call Tryz.prog Tryz.gl2 65 [.agg [.sl (l.map encP) none,.sl (ch.map encT) none],.int .i64 x] st (fun v st' => v = .tuple [.sl (([]:List Nat).map encN) none,.int .i64 (-1)] ∧ st' = st):=by
  refine Duo.Call.clo fun hst => ?_
  refine Duo.Call.body 40 [(0,.agg [.sl (l.map encP) none,.sl (ch.map encT) none]),(1,.int .i64 x)] Tryz.func65 rfl rfl ?_
  repeat' first
    | refine AW.seqK fun K hK => ?_
    | (refine hK _ _ ?_;clear hK K)
    | refine AW.region ?_
    | refine awL_nil ?_
    | (refine awL_gno rfl ?_ rfl ?_;focus (simp only [S0,↓reduceIte,Nat.reduceEqDiff,Bool.not_false];done))
    | (refine awL_gyes rfl ?_ ?_;focus (simp only [S0,↓reduceIte,Nat.reduceEqDiff];done))
    | (refine awL_gcase rfl rfl (fun hg => ?_) (fun hg => ?_) <;> (rw [hg];(simp only [decide_eq_true_eq,decide_eq_false_iff_not,Int.not_lt] at hg);skip))
    | refine awL_S1 rfl rfl (by simp (disch:=omega) only [go_sem,↓reduceIte,Nat.reduceEqDiff,Nat.reduceAdd,Nat.reduceLeDiff,Nat.reduceLT,List.length_map];rfl) ?_
    | (refine AW.condK _ rfl (fun hb => ?_) (fun hb => ?_) <;> (simp only [Bool.true_eq_false,decide_eq_true_eq,decide_eq_false_iff_not,Int.not_le] at hb) <;> try (exfalso;omega))
    | refine AW.scope ?_
    | (refine AW.ret ?_;show (_ ∨ _) ∧ _;refine ⟨.inr rfl, ?_⟩;show resP _ _ _ [.tmp 4,.tmp 5] _;simp (disch:=omega) only [go_sem,↓reduceIte,Nat.reduceEqDiff];refine ⟨_,_,_,Nat.le_refl _,le_nilI _ _,StLe.refl _, ?_⟩;(refine ⟨rfl, ?_⟩ <;> (simp (disch:=omega) only [go_sem,hst.trim_append];done)))
  all_goals trace_state
set_option maxRecDepth 100000 in
set_option maxHeartbeats 8000000 in
theorem pchainX_spec (l:List Pr) (ch:List Ty) (x:Int) (hx:¬ (0 ≤ x ∧ x < l.length)) (st:List O):Duo.Call Tryz.prog Tryz.gl2 30 [.agg [.sl (l.map encP) none,.sl (ch.map encT) none],.int .i64 x] st (fun v st' => v = .sl (([]:List Nat).map encN) none ∧ st' = st):=by
  refine Duo.Call.clo fun hst => ?_
  refine Duo.Call.body 14 [(0,.agg [.sl (l.map encP) none,.sl (ch.map encT) none]),(1,.int .i64 x)] Tryz.func30 rfl rfl ?_
  repeat' first
    | refine AW.seqK fun K hK => ?_
    | (refine hK _ _ ?_;clear hK K)
    | refine AW.region ?_
    | refine awL_call rfl (by exact ent65) (by simp only [go_sem,↓reduceIte,Nat.reduceEqDiff];rfl) (by exact followX_spec l ch x hx _) rfl ?_
    | refine awL_nil ?_
    | refine awL_S1 rfl rfl (by simp (disch:=omega) only [go_sem,↓reduceIte,Nat.reduceEqDiff,Nat.reduceAdd,Nat.reduceLT];rfl) ?_
    | (refine AW.ret ?_;show (_ ∨ _) ∧ _;refine ⟨.inr rfl, ?_⟩;show resP _ _ _ [.tmp 4] _;simp (disch:=omega) only [go_sem,↓reduceIte];refine ⟨_,_,_,Nat.le_refl _,V.le_refl _ _,StLe.refl _, ?_⟩;(simp (disch:=omega) only [go_sem,hst.trim_append]))
  all_goals trace_state
set_option maxRecDepth 100000 in
set_option maxHeartbeats 8000000 in
theorem rforX_spec (l:List Pr) (x:Int) (hx:¬ (0 ≤ x ∧ x < l.length)) (st:List O):Duo.Call Tryz.prog Tryz.gl2 26 [.sl (l.map encP) none,.int .i64 x] st (fun v st' => v = .sl (([]:List Nat).map encN) none ∧ st' = st):=by
  refine Duo.Call.clo fun hst => ?_
  refine Duo.Call.body 32 [(0,.sl (l.map encP) none),(1,.int .i64 x)] Tryz.func26 rfl rfl ?_
  repeat' first
    | refine AW.seqK fun K hK => ?_
    | (refine hK _ _ ?_;clear hK K)
    | refine AW.region ?_
    | refine awL_nil ?_
    | (refine awL_gno rfl ?_ rfl ?_;focus (simp only [S0,↓reduceIte,Nat.reduceEqDiff,Bool.not_true];done))
    | (refine awL_gyes rfl ?_ ?_;focus (simp only [S0,↓reduceIte,Nat.reduceEqDiff];done))
    | (refine awL_gcase rfl rfl (fun hg => ?_) (fun hg => ?_) <;> (rw [hg];(simp only [decide_eq_true_eq,decide_eq_false_iff_not,Int.not_le] at hg);skip))
    | refine awL_S1 rfl rfl (by simp (disch:=omega) only [go_sem,↓reduceIte,Nat.reduceEqDiff,List.length_map];rfl) ?_
    | (refine AW.condK _ rfl (fun hb => ?_) (fun hb => ?_) <;> (simp only [Bool.false_eq_true,decide_eq_true_eq,decide_eq_false_iff_not,Int.not_lt] at hb) <;> try (exfalso;omega))
    | refine AW.block ?_
    | refine bq_s ?_
    | refine AW.exit ?_
    | refine useK (by assumption) ?_
    | (refine AW.loopS (α:={ i:Nat // i = 0 }) 32 (fun i => [(0,.sl (l.map encP) none),(1,.int .i64 x),(5,.nil),(6,.int .i64 0)]) (fun i => st) (fun i => 0) ⟨0,rfl⟩ rfl ?_ ?_ ?_;(focus (simp (disch:=omega) only [go_sem,↓reduceIte,Nat.reduceEqDiff];done));(focus (simp (disch:=omega) only [go_sem];done));rintro ⟨i,hi⟩ hlc)
    | (refine AW.ret ?_;show (_ ∨ _) ∧ _;refine ⟨.inr rfl, ?_⟩;show resP _ _ _ [.tmp 4] _;simp (disch:=omega) only [go_sem,↓reduceIte];refine ⟨_,_,_,Nat.le_refl _,V.le_nil _,StLe.refl _, ?_⟩;(refine ⟨rfl, ?_⟩ <;> (simp (disch:=omega) only [go_sem,hst.trim];done)))
  all_goals trace_state
set_option maxRecDepth 100000 in
set_option maxHeartbeats 8000000 in
theorem rchainX_spec (l:List Pr) (x:Int) (hx:¬ (0 ≤ x ∧ x < l.length)) (st:List O):Duo.Call Tryz.prog Tryz.gl2 31 [.sl (l.map encP) none,.int .i64 x] st (fun v st' => v = .sl (([]:List Nat).map encN) none ∧ st' = st):=by
  refine Duo.Call.clo fun hst => ?_
  refine Duo.Call.body 36 [(0,.sl (l.map encP) none),(1,.int .i64 x)] Tryz.func31 rfl rfl ?_
  repeat' first
    | refine AW.seqK fun K hK => ?_
    | (refine hK _ _ ?_;clear hK K)
    | refine AW.region ?_
    | refine awL_nil ?_
    | (refine awL_gno rfl ?_ rfl ?_;focus (simp only [S0,↓reduceIte,Nat.reduceEqDiff,Bool.not_true];done))
    | (refine awL_gyes rfl ?_ ?_;focus (simp only [S0,↓reduceIte,Nat.reduceEqDiff];done))
    | (refine awL_gcase rfl rfl (fun hg => ?_) (fun hg => ?_) <;> (rw [hg];(simp only [decide_eq_true_eq,decide_eq_false_iff_not,Int.not_lt,Int.not_le] at hg);try (exfalso;omega)))
    | refine awL_S1 rfl rfl (by simp (disch:=omega) only [go_sem,↓reduceIte,Nat.reduceEqDiff,List.length_map];rfl) ?_
    | (refine AW.condK _ rfl (fun hb => ?_) (fun hb => ?_) <;> (simp only [Bool.false_eq_true] at hb) <;> skip)
    | refine AW.block ?_
    | refine bq_s ?_
    | refine AW.exit ?_
    | refine useK (by assumption) ?_
    | (refine AW.loopS (α:={ i:Nat // i = 0 }) 36 (fun i => [(0,.sl (l.map encP) none),(1,.int .i64 x),(5,.nil)]) (fun i => st) (fun i => 0) ⟨0,rfl⟩ rfl ?_ ?_ ?_;(focus (simp (disch:=omega) only [go_sem,↓reduceIte,Nat.reduceEqDiff];done));(focus (simp (disch:=omega) only [go_sem];done));rintro ⟨i,hi⟩ hlc)
    | (refine AW.ret ?_;show (_ ∨ _) ∧ _;refine ⟨.inr rfl, ?_⟩;show resP _ _ _ [.tmp 4] _;simp (disch:=omega) only [go_sem,↓reduceIte];refine ⟨_,_,_,Nat.le_refl _,V.le_nil _,StLe.refl _, ?_⟩;(refine ⟨rfl, ?_⟩ <;> (simp (disch:=omega) only [go_sem,hst.trim];done)))
  all_goals trace_state
def forZ (l:List Pr) (x:Int):List Nat:=if 0 ≤ x ∧ x < l.length then forW l x.toNat else []
def chZ (l:List Pr) (x:Int):List Nat:=if 0 ≤ x ∧ x < l.length then (chW l x.toNat).1 else []
theorem forW_len (l:List Pr) (i:Nat):(forW l i).length ≤ l.length:=forK_len l i l.length
theorem forZ_len (l:List Pr) (x:Int):(forZ l x).length ≤ l.length:=by
  unfold forZ
  split
  · exact forW_len _ _
  · simp
theorem chW_len (l:List Pr) (i:Nat) (h:i < l.length):(chW l i).1.length ≤ l.length:=by
  obtain ⟨_,_,_,_,h4⟩:=chW_end h
  exact h4
theorem chZ_len (l:List Pr) (x:Int):(chZ l x).length ≤ l.length:=by
  unfold chZ
  split
  · exact chW_len _ _ (by omega)
  · simp
theorem cyc_ok (l:List Pr):decide ((cycW l).isSome = decide (0 < ((cycW l).getD []).length)) = true:=by rw [decide_eq_true_eq];exact cyc_pos l
theorem cyc_len (l:List Pr):((cycW l).getD []).length ≤ l.length:=by
  cases hc:cycW l with
  | none => simp
  | some c => exact nodup_len _ _ (cyc_good hc).nd (cyc_good hc).lt
theorem wforZ_spec (l:List Pr) (ch:List Ty) (hl:l.length ≤ 1000000) (h:∀ p ∈ l,thrP p) (x:Int) (st:List O):Duo.Call Tryz.prog Tryz.gl2 28 [.agg [.sl (l.map encP) none,.sl (ch.map encT) none],.int .i64 x] st (fun v st' => v = .sl ((forZ l x).map encN) none ∧ st' = st):=by
  by_cases hx:0 ≤ x ∧ x < l.length
  · have h1:=wfor_spec l ch hl h x.toNat (by omega) st
    rw [Int.toNat_of_nonneg hx.1] at h1
    rwa [forZ,if_pos hx]
  · rw [forZ,if_neg hx];exact wforX_spec l ch x hx st
theorem rforZ_spec (l:List Pr) (hl:l.length ≤ 1000000) (h:∀ p ∈ l,thrP p) (x:Int) (st:List O):Duo.Call Tryz.prog Tryz.gl2 26 [.sl (l.map encP) none,.int .i64 x] st (fun v st' => v = .sl ((forZ l x).map encN) none ∧ st' = st):=by
  by_cases hx:0 ≤ x ∧ x < l.length
  · have h1:=rfor_spec l hl h x.toNat (by omega) st
    rw [Int.toNat_of_nonneg hx.1] at h1
    rwa [forZ,if_pos hx]
  · rw [forZ,if_neg hx];exact rforX_spec l x hx st
theorem pchainZ_spec (l:List Pr) (ch:List Ty) (hl:l.length ≤ 1000000) (h:∀ p ∈ l,thrP p) (x:Int) (st:List O):Duo.Call Tryz.prog Tryz.gl2 30 [.agg [.sl (l.map encP) none,.sl (ch.map encT) none],.int .i64 x] st (fun v st' => v = .sl ((chZ l x).map encN) none ∧ st' = st):=by
  by_cases hx:0 ≤ x ∧ x < l.length
  · have h1:=pchain_spec l ch hl h x.toNat (by omega) st
    rw [Int.toNat_of_nonneg hx.1] at h1
    rwa [chZ,if_pos hx]
  · rw [chZ,if_neg hx];exact pchainX_spec l ch x hx st
theorem rchainZ_spec (l:List Pr) (hl:l.length ≤ 1000000) (h:∀ p ∈ l,thrP p) (x:Int) (st:List O):Duo.Call Tryz.prog Tryz.gl2 31 [.sl (l.map encP) none,.int .i64 x] st (fun v st' => v = .sl ((chZ l x).map encN) none ∧ st' = st):=by
  by_cases hx:0 ≤ x ∧ x < l.length
  · have h1:=rchain_spec l hl h x.toNat (by omega) st
    rw [Int.toNat_of_nonneg hx.1] at h1
    rwa [chZ,if_pos hx]
  · rw [chZ,if_neg hx];exact rchainX_spec l x hx st
theorem lon_len (l:List Pr):(lonL l).length ≤ l.length:=lonK_len
set_option maxRecDepth 100000 in
set_option maxHeartbeats 8000000 in
theorem waitsMatch_spec (p:Pg) (hp:okPg p) (s:List Int) (hs:s.length ≤ 9223372036854775807) (x:Int) (st:List O):Duo.Call Tryz.prog Tryz.gl2 5 [encPg p,.sl (s.map encI) none,.int .i64 x] st (fun v st' => v = .bool true ∧ st' = st):=by
  refine Duo.Call.clo fun hst => ?_
  refine Duo.Call.body 116 [(0,encPg p),(1,.sl (s.map encI) none),(2,.int .i64 x)] Tryz.func5 rfl rfl ?_
  repeat' first
    | refine AW.seqK fun K hK => ?_
    | (refine hK _ _ ?_;clear hK K)
    | refine AW.region ?_
    | refine AW.any (id:=10) mix 18 (by decide +kernel) ?_
    | refine AW.any (id:=14) mix 37 (by decide +kernel) ?_
    | refine awL_call rfl (by exact ent23) (by simp only [go_sem,↓reduceIte,Nat.reduceEqDiff];rfl) (by first | exact awake24_spec _ | exact fewS_spec p hp s hs _ | exact run_spec p (right_pgG (n:=60) (by omega) hp (fewS_iff.1 hf9).1) s (by have:=(fewS_iff.1 hf9).2.1;omega) (fun m hm => (fewS_iff.1 hf9).2.2 m (by omega)) _ | exact fwd_spec _ _ _ | exact pcycle_spec (runE p s).1.th (runE p s).1.ch hl9 hth _ | exact rcycle_spec (runE p s).1.th hl9 hth _ | exact rfor_spec (runE p s).1.th hl9 hth i (by assumption) _ | exact rchain_spec (runE p s).1.th hl9 hth i (by assumption) _ | exact numbers_spec (chW (runE p s).1.th i).1 (chW (runE p s).1.th i).1 (by have:=chW_len (runE p s).1.th i (by assumption);omega) _) rfl ?_
    | refine awA_nil (by simp only [applyUps,S0];rfl) ?_
    | refine awL_nil ?_
    | ((fail_if_success (clear hf9));(have hf9:fewS p s = true:=(by assumption));have hcf:=(few_cf hp hf9).1;have hl9:(runE p s).1.th.length ≤ 1000000:=(by have:=hcf.tl;omega);have hth:=cf_thrP hcf;have hcy:=cyc_len (runE p s).1.th;have hlo:=lon_len (runE p s).1.th)
    | (refine awL_gno rfl ?_ rfl ?_;focus (simp only [S0,↓reduceIte,Nat.reduceEqDiff,Bool.not_true,Bool.not_false];done))
    | (refine awL_gyes rfl ?_ ?_;focus (simp only [S0,↓reduceIte,Nat.reduceEqDiff];done))
    | refine awL_S1 rfl rfl (by simp (disch:=omega) only [go_sem,↓reduceIte,Nat.reduceEqDiff,Nat.reduceAdd,Nat.reduceLeDiff,Nat.reduceMul,Nat.reduceLT,List.length_map];rfl) ?_
    | refine awA_call rfl (by exact ent23) (by simp only [go_sem,↓reduceIte,Nat.reduceEqDiff];rfl) (by first | exact fwd_spec _ _ _ | exact rfor_spec (runE p s).1.th hl9 hth i (by assumption) _ | exact wfor_spec (runE p s).1.th (runE p s).1.ch hl9 hth i (by assumption) _ | exact pchain_spec (runE p s).1.th (runE p s).1.ch hl9 hth i (by assumption) _ | exact wforZ_spec (runE p s).1.th (runE p s).1.ch hl9 hth x _ | exact rforZ_spec (runE p s).1.th hl9 hth x _ | exact pchainZ_spec (runE p s).1.th (runE p s).1.ch hl9 hth x _ | exact rchainZ_spec (runE p s).1.th hl9 hth x _ | exact wlonely_spec (runE p s).1.th (runE p s).1.ch hl9 hth _ | exact numbers_spec (forW (runE p s).1.th i) (forW (runE p s).1.th i) (by have:=forW_len (runE p s).1.th i;omega) _ | exact numbers_spec (forZ (runE p s).1.th x) (forZ (runE p s).1.th x) (by have:=forZ_len (runE p s).1.th x;omega) _ | exact numbers_spec (chZ (runE p s).1.th x) (chZ (runE p s).1.th x) (by have:=chZ_len (runE p s).1.th x;omega) _ | exact numbers_spec ((cycW (runE p s).1.th).getD []) ((cycW (runE p s).1.th).getD []) (by have:=hcy;omega) _ | exact Duo.Call.argle (by repeat' (first | exact trivial | exact V.le_refl _ _ | exact V.le_sl _ _ _ | refine ⟨?_, ?_⟩)) (numbers_spec (lonL (runE p s).1.th) (lonK (runE p s).1.th i) (by omega) _)) rfl ?_
    | (refine awA_gno rfl ?_ rfl ?_;focus (simp only [S0,↓reduceIte,Nat.reduceEqDiff,Bool.not_true,Bool.not_false];done))
    | (refine awA_gyes rfl ?_ ?_;focus (simp only [S0,↓reduceIte,Nat.reduceEqDiff];done))
    | (refine awA_gcase rfl rfl (fun hg => ?_) (fun hg => ?_) <;> (rw [hg];(simp only [decide_eq_true_eq,decide_eq_false_iff_not] at hg);skip))
    | refine awA_S1 rfl rfl (by simp (disch:=omega) only [go_sem,↓reduceIte,Nat.reduceEqDiff,Nat.reduceAdd,Nat.reduceLeDiff,Nat.reduceLT,List.length_map];rfl) ?_
    | (refine AW.condK _ rfl (fun hb => ?_) (fun hb => ?_) <;> (simp only [Bool.false_eq_true,decide_eq_true_eq,decide_eq_false_iff_not,Bool.not_eq_true',Bool.not_eq_false'] at hb) <;> skip)
    | refine AW.block ?_
    | refine bq_s ?_
    | refine AW.exit ?_
    | refine AW.skip ?_
    | refine useK (by assumption) ?_
    | (refine AW.tok 3 1 ?_;rw [List.append_assoc];simp only [List.cons_append,List.nil_append];refine AW.loopS (α:={ i:Nat // i ≤ (runE p s).1.th.length }) 116 (fun i => [(1,.sl (s.map encI) none),(2,.int .i64 x),(3,.ptr st.length 0),(7,.ptr (st.length + 1) 0),(9,.sl ((lonK (runE p s).1.th i.1).map encN) (some (st.length + 2))),(10,.int .i64 (i.1:Nat))]) (fun i => st ++ [.box 48 (encPg p).cells,.box 52 [.sl ((runE p s).1.th.map encP) none,.sl ((runE p s).1.ch.map encT) none],.tok 3 1 (lonK (runE p s).1.th i.1).length]) (fun i => (runE p s).1.th.length - i.1) ⟨0,Nat.zero_le _⟩ rfl ?_ ?_ ?_;(focus (simp (disch:=omega) only [go_sem,↓reduceIte,Nat.reduceEqDiff,lonK_0,List.map_nil];done));(focus (simp (disch:=omega) only [go_sem,lonK_0,List.length_nil];done));rintro ⟨i,hi⟩ hlc;dsimp only;have hkl:=lonK_len (l:=(runE p s).1.th) (k:=i))
    | (have hp9:=lonK_yes (l:=(runE p s).1.th) (k:=i) (by omega);have hp:=hp9;refine ⟨⟨i + 1,by omega⟩,by simp only [];omega,_,Nat.le_refl _,Nat.le_of_ble_eq_true rfl, ?_, ?_⟩ <;> (simp (disch:=omega) only [go_sem,↓reduceIte,Nat.reduceEqDiff,Nat.reduceAdd,encN_mk,List.map_append,List.map_cons,List.map_nil,List.length_append,List.length_cons,List.length_nil,hp,List.length_append,trimS_app hst];done))
    | (have hp9:=lonK_no (l:=(runE p s).1.th) (k:=i) (by omega);have hp:=hp9;refine ⟨⟨i + 1,by omega⟩,by simp only [];omega,_,Nat.le_refl _,Nat.le_of_ble_eq_true rfl, ?_, ?_⟩ <;> (simp (disch:=omega) only [go_sem,↓reduceIte,Nat.reduceEqDiff,Nat.reduceAdd,List.map_cons,List.map_nil,List.length_append,List.length_cons,List.length_nil,hp,List.length_append,trimS_app hst]))
    | (refine AW.ret ?_;show (_ ∨ _) ∧ _;refine ⟨.inr rfl, ?_⟩;show resP _ _ _ [.tmp 6] _;simp (disch:=omega) only [go_sem,↓reduceIte];refine ⟨_,_,_,Nat.le_refl _,V.le_refl _ _,StLe.refl _, ?_⟩;(simp (disch:=omega) only [go_sem,hst.trim_append]))
  all_goals first | (exfalso;have hie:i = (runE p s).1.th.length:=(by omega);rw [hie] at hg;exact hg rfl) | exact congrArg V.bool (cyc_ok _)
end Tryz
end Go.Proofs
