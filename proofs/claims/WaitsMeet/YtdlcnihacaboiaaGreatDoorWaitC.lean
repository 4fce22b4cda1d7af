/-
  A part of the proof.
-/
import Derived.Test.YtdlcnihacaboiaaGreatDoorWaitLib
import Derived.Test.YtdlcnihacaboiaaGreatDoorGO
import Derived.Test.YtdlcnihacaboiaaGreatDoorDS3
import Derived.Test.YtdlcnihacaboiaaGreatDoorGP
import Derived.Test.YtdlcnihacaboiaaGreatDoorWaitA
import Derived.Test.YtdlcnihacaboiaaGreatDoorWaitB
import Derived.Test.YtdlcnihacaboiaaGreatDoorZProgH
import Derived.Test.YtdlcnihacaboiaaGreatDoorSubC
set_option linter.all false
namespace Go.Proofs
open Go Go.Duo
namespace Tryz
attribute [local irreducible] awL awA awT AW
structure thrP (p : Pr) : Prop where
  fl : flatP p
  sm : smA p
  kl : p.kids.length ≤ 1000000
  cl : p.chan.length ≤ 2147483647
  sz : p.sz ≤ 300
  dp : p.dp ≤ 150
  lp : smLP p
  cp : copyP p = p
theorem flat_with {p : Pr} (h : flatP p) (c : Str) : flatP (withC c p) := h
theorem smA_with {p : Pr} (h : smA p) (c : Str) : smA (withC c p) := (smA_iff _).2 ((smA_iff p).1 h)
theorem containsW_spec (s : Str) (l : List Str) (hl : l.length ≤ 9223372036854775807) (st : List O) : Duo.Call Tryz.prog Tryz.gl2 58 [.sl (l.map .str) none, .str s] st (fun v st' => v = .bool (decide (s ∈ l)) ∧ st' = st) := up (contains_spec l s hl st)
theorem free_len (p : Pr) (ha : smA p) (hz : p.sz ≤ 300) : (freeS p).length ≤ 600000300 := by
  have h1 := uses_len p [] ha
  have h2 := dedS_len (usesP p [])
  unfold freeS; omega
theorem sz_with (p : Pr) (c : Str) : (withC c p).sz = p.sz := by rw [Pr.sz_eq, Pr.sz_eq p]; rfl
theorem pfreeW_spec (p : Pr) (h : thrP p) (st : List O) : Duo.Call Tryz.prog Tryz.gl2 103 [encP p] st (fun v st' => v = .sl ((freeS p).map .str) none ∧ st' = st) := up (pfree_spec p h.fl h.sm h.kl st)
theorem pfreeC_spec (p : Pr) (h : thrP p) (st : List O) : Duo.Call Tryz.prog Tryz.gl2 103 [.agg (.int .i64 p.kind :: .str [] :: .str p.var :: .sl (p.labels.map .str) none :: .sl (p.args.map encV) none :: ((encT p.typ).cells ++ [.sl (p.kids.map encP) none]))] st (fun v st' => v = .sl ((freeS (withC [] p)).map .str) none ∧ st' = st) := by
  have h2 := pfree_spec (withC [] p) (flat_with h.fl []) (smA_with h.sm []) h.kl st
  unfold withC at h2
  rw [encP_mk] at h2
  exact up h2
set_option maxRecDepth 100000 in
set_option maxHeartbeats 8000000 in
theorem wuses_spec (p : Pr) (s : Str) (b : Bool) (h : thrP p) (st : List O) : Duo.Call Tryz.prog Tryz.gl2 64 [encP p, .str s, .bool b] st (fun v st' => v = .bool (decide (s ∈ freeS (if b = true then withC [] p else p))) ∧ st' = st) := by
  refine Duo.Call.clo fun hst => ?_
  have hf1 := free_len p h.sm h.sz
  have hf2 := free_len (withC [] p) (smA_with h.sm []) (by rw [sz_with]; exact h.sz)
  refine Duo.Call.body 18 [(0, encP p), (1, .str s), (2, .bool b)] Tryz.func64 rfl rfl ?_
  repeat' first
    | refine AW.seqK fun K hK => ?_
    | (refine hK _ _ ?_; clear hK K)
    | refine AW.region ?_
    | refine awL_call rfl (by first | exact ent103 | exact ent58) (by simp only [go_sem, ↓reduceIte, Nat.reduceEqDiff, Nat.reduceAdd, Nat.reduceLeDiff, Nat.reduceMul, Nat.reduceSub, Nat.reduceLT, cellsP p, foldP p]; rfl) (by first | exact pfreeW_spec p h _ | exact pfreeC_spec p h _ | exact containsW_spec _ _ (by omega) _) rfl ?_
    | refine awL_nil ?_
    | refine awL_S1 rfl rfl (by simp (disch := omega) only [go_sem, ↓reduceIte, Nat.reduceEqDiff, Nat.reduceAdd, Nat.reduceLeDiff, Nat.reduceMul, Nat.reduceSub, Nat.reduceLT, cellsP p, foldP p]; rfl) ?_
    | (refine AW.condK _ rfl (fun hb => ?_) (fun hb => ?_) <;> (try simp only [Int.ofNat_inj, not_true_eq_false, not_false_eq_true, Bool.false_eq_true, Bool.true_eq_false, decide_eq_true_eq, decide_eq_false_iff_not, Bool.not_eq_true, Bool.not_eq_false, Bool.not_eq_true', Bool.not_eq_false', Int.not_lt, Int.not_le, ne_eq, Decidable.not_not, List.length_map, Bool.and_eq_true, Bool.or_eq_true, Bool.and_eq_false_imp, Int.ofNat_lt, Int.ofNat_le] at hb) <;> try (exfalso; omega))
    | refine AW.skip ?_
    | refine useK (by assumption) ?_
    | (refine AW.ret ?_; show (_ ∨ _) ∧ _; refine ⟨.inr rfl, ?_⟩; show resP _ _ _ [.tmp 6] _; simp (disch := omega) only [go_sem, ↓reduceIte, Nat.reduceEqDiff, Nat.reduceAdd, Nat.reduceLeDiff, Nat.reduceMul, Nat.reduceSub, Nat.reduceLT, cellsP p, foldP p]; refine ⟨_, _, _, Nat.le_refl _, V.le_refl _ _, StLe.refl _, ?_⟩; (try simp (disch := omega) only [go_sem, ↓reduceIte, Nat.reduceEqDiff, Nat.reduceAdd, Nat.reduceLeDiff, Nat.reduceMul, Nat.reduceSub, Nat.reduceLT, cellsP p, foldP p, hst.trim, hst.trim_append]))
  all_goals simp_all
set_option maxRecDepth 100000 in
set_option maxHeartbeats 8000000 in
theorem wfor_spec (l : List Pr) (hl : l.length ≤ 1000000) (h : ∀ p ∈ l, thrP p) (i : Nat) (hi : i < l.length) (st : List O) : Duo.Call Tryz.prog Tryz.gl2 28 [.agg [.sl (l.map encP) none, .nil], .int .i64 i] st (fun v st' => v = .sl ((forW l i).map encN) none ∧ st' = st) := by
  refine Duo.Call.clo fun hst => ?_
  refine Duo.Call.body 51 [(0, .agg [.sl (l.map encP) none, .nil]), (1, .int .i64 i)] Tryz.func28 rfl rfl ?_
  repeat' first
    | refine AW.seqK fun K hK => ?_
    | (refine hK _ _ ?_; clear hK K)
    | refine AW.region ?_
    | refine awL_call rfl (by first | exact ent63 | exact ent64) (by simp only [go_sem, ↓reduceIte, Nat.reduceEqDiff, Nat.reduceAdd, Nat.reduceLeDiff, Nat.reduceMul, Nat.reduceSub, Nat.reduceLT, dualV_eq, List.length_map]; rfl) (by first | exact pdual_spec _ (by have := (h _ (List.getElem_mem hi)).cl; omega) _ | exact wuses_spec _ _ _ (h _ (List.getElem_mem (by assumption))) _) rfl ?_
    | refine awL_nil ?_
    | (refine awL_gno rfl ?_ rfl ?_; focus (simp only [S0, ↓reduceIte, Nat.reduceEqDiff, Bool.not_true, Bool.not_false]; done))
    | (refine awL_gyes rfl ?_ ?_; focus (simp only [S0, ↓reduceIte, Nat.reduceEqDiff, Bool.not_true, Bool.not_false]; done))
    | refine awL_hole rfl rfl rfl rfl ?_
    | (refine awL_gcase rfl rfl (fun hg => ?_) (fun hg => ?_) <;> (rw [hg]; (try simp only [Int.ofNat_inj, not_true_eq_false, not_false_eq_true, Bool.false_eq_true, Bool.true_eq_false, decide_eq_true_eq, decide_eq_false_iff_not, Bool.not_eq_true, Bool.not_eq_false, Bool.not_eq_true', Bool.not_eq_false', Int.not_lt, Int.not_le, ne_eq, Decidable.not_not, List.length_map, Bool.and_eq_true, Bool.or_eq_true, Bool.and_eq_false_imp, Int.ofNat_lt, Int.ofNat_le] at hg); try (exfalso; omega)))
    | refine awL_S1 rfl rfl (by simp (disch := omega) only [go_sem, ↓reduceIte, Nat.reduceEqDiff, Nat.reduceAdd, Nat.reduceLeDiff, Nat.reduceMul, Nat.reduceSub, Nat.reduceLT, dualV_eq, List.length_map]; rfl) ?_
    | (refine AW.condK _ rfl (fun hb => ?_) (fun hb => ?_) <;> (try simp only [Int.ofNat_inj, not_true_eq_false, not_false_eq_true, Bool.false_eq_true, Bool.true_eq_false, decide_eq_true_eq, decide_eq_false_iff_not, Bool.not_eq_true, Bool.not_eq_false, Bool.not_eq_true', Bool.not_eq_false', Int.not_lt, Int.not_le, ne_eq, Decidable.not_not, List.length_map, Bool.and_eq_true, Bool.or_eq_true, Bool.and_eq_false_imp, Int.ofNat_lt, Int.ofNat_le] at hb) <;> try (exfalso; omega))
    | refine AW.block ?_
    | refine bq_s ?_
    | refine bq_o rfl ?_
    | refine tq_e ?_
    | refine AW.exit ?_
    | refine AW.skip ?_
    | refine useK (by assumption) ?_
    | (refine AW.tok 3 1 ?_; rw [List.append_assoc]; simp only [List.cons_append, List.nil_append]; refine AW.loopS (α := { k : Nat // k ≤ l.length }) 51 (fun k => [(1, .int .i64 i), (5, .str (dualN l[i].chan)), (7, .sl ((forK l i k.1).map encN) (some (st.length + 1))), (32, .sl (l.map encP) none), (33, .int .i64 l.length), (34, .int .i64 (k.1 : Nat))]) (fun k => st ++ [.box 59 [.sl (l.map encP) none, .nil], .tok 3 1 (forK l i k.1).length]) (fun k => l.length - k.1) ⟨0, Nat.zero_le _⟩ rfl ?_ ?_ ?_; (focus (simp (disch := omega) only [go_sem, ↓reduceIte, Nat.reduceEqDiff, Nat.reduceAdd, Nat.reduceLeDiff, Nat.reduceMul, Nat.reduceSub, Nat.reduceLT, forK_0, List.map_nil, List.length_nil]; done)); (focus (simp (disch := omega) only [go_sem, ↓reduceIte, Nat.reduceEqDiff, Nat.reduceAdd, Nat.reduceLeDiff, Nat.reduceMul, Nat.reduceSub, Nat.reduceLT, forK_0, List.map_nil, List.length_nil]; done)); rintro ⟨k, hk⟩ hlc; dsimp only; have hkl := forK_len l i k)
    | (have hwe := waitB_eq (l := l) hi (show k < l.length by assumption); have hp := forK_yes (l := l) (i := i) (k := k) (by rw [hwe]; simp_all); refine ⟨⟨k + 1, by omega⟩, by simp only []; omega, _, Nat.le_refl _, Nat.le_of_ble_eq_true rfl, ?_, ?_⟩ <;> (simp (disch := omega) only [go_sem, ↓reduceIte, Nat.reduceEqDiff, Nat.reduceAdd, Nat.reduceLeDiff, Nat.reduceMul, Nat.reduceSub, Nat.reduceLT, encN_mk, List.map_append, List.map_cons, List.map_nil, List.length_append, List.length_cons, List.length_nil, List.length_map, hp, List.length_append, hlc.trim, hlc.trim_append, trimS_app hst]; done))
    | (have hwe := waitB_eq (l := l) hi (show k < l.length by assumption); have hp := forK_no (l := l) (i := i) (k := k) (by rw [hwe]; simp_all); refine ⟨⟨k + 1, by omega⟩, by simp only []; omega, _, Nat.le_refl _, Nat.le_of_ble_eq_true rfl, ?_, ?_⟩ <;> (simp (disch := omega) only [go_sem, ↓reduceIte, Nat.reduceEqDiff, Nat.reduceAdd, Nat.reduceLeDiff, Nat.reduceMul, Nat.reduceSub, Nat.reduceLT, encN_mk, List.map_append, List.map_cons, List.map_nil, List.length_append, List.length_cons, List.length_nil, List.length_map, hp, List.length_append, hlc.trim, hlc.trim_append, trimS_app hst]))
    | (refine AW.ret ?_; show (_ ∨ _) ∧ _; refine ⟨.inr rfl, ?_⟩; show resP _ _ _ [.tmp 4] _; simp (disch := omega) only [go_sem, ↓reduceIte, Nat.reduceEqDiff, Nat.reduceAdd, Nat.reduceLeDiff, Nat.reduceMul, Nat.reduceSub, Nat.reduceLT]; refine ⟨_, _, _, Nat.le_refl _, V.le_nil _, StLe.refl _, ?_⟩; (refine ⟨(by rw [forW_none hi (by assumption)]; rfl), ?_⟩ <;> (simp (disch := omega) only [go_sem, hst.trim, hst.trim_append]; done)))
    | (refine AW.ret ?_; show (_ ∨ _) ∧ _; refine ⟨.inr rfl, ?_⟩; show resP _ _ _ [.tmp 4] _; simp (disch := omega) only [go_sem, ↓reduceIte, Nat.reduceEqDiff, Nat.reduceAdd, Nat.reduceLeDiff, Nat.reduceMul, Nat.reduceSub, Nat.reduceLT, dualV_eq, List.length_map]; refine ⟨_, _, _, Nat.le_refl _, V.le_refl _ _, StLe.refl _, ?_⟩; (try simp (disch := omega) only [go_sem, ↓reduceIte, Nat.reduceEqDiff, Nat.reduceAdd, Nat.reduceLeDiff, Nat.reduceMul, Nat.reduceSub, Nat.reduceLT, dualV_eq, List.length_map, hst.trim, hst.trim_append]))
  all_goals first | ((obtain rfl : k = l.length := (by omega)); rfl) | trace_state
set_option maxRecDepth 100000 in
set_option maxHeartbeats 8000000 in
theorem rindex_spec (l : List Nat) (c : Nat) (hl : l.length ≤ 9223372036854775807) (st : List O) : Duo.Call Tryz.prog Tryz.gl2 36 [.sl (l.map encN) none, .int .i64 c] st (fun v st' => v = .int .i64 (idxN l c) ∧ st' = st) := by
  refine Duo.Call.clo fun hst => ?_
  refine Duo.Call.body 19 [(0, .sl (l.map encN) none), (1, .int .i64 c)] Tryz.func36 rfl rfl ?_
  repeat' first
    | refine AW.seqK fun K hK => ?_
    | (refine hK _ _ ?_; clear hK K)
    | refine AW.region ?_
    | refine awL_nil ?_
    | refine awL_S1 rfl rfl (by simp (disch := omega) only [go_sem, ↓reduceIte, Nat.reduceEqDiff, Nat.reduceAdd, Nat.reduceLeDiff, Nat.reduceMul, Nat.reduceSub, Nat.reduceLT, encN_mk]; rfl) ?_
    | (refine AW.condK _ rfl (fun hb => ?_) (fun hb => ?_) <;> (try simp only [Int.ofNat_inj, not_true_eq_false, not_false_eq_true, Bool.false_eq_true, Bool.true_eq_false, decide_eq_true_eq, decide_eq_false_iff_not, Bool.not_eq_true, Bool.not_eq_false, Bool.not_eq_true', Bool.not_eq_false', Int.not_lt, Int.not_le, ne_eq, Decidable.not_not, List.length_map, Bool.and_eq_true, Bool.or_eq_true, Bool.and_eq_false_imp, Int.ofNat_lt, Int.ofNat_le] at hb) <;> try (exfalso; omega))
    | refine AW.block ?_
    | refine bq_s ?_
    | refine bq_o rfl ?_
    | refine tq_e ?_
    | refine AW.exit ?_
    | refine AW.skip ?_
    | refine useK (by assumption) ?_
    | (refine AW.loopS (α := { i : Nat // i ≤ l.length ∧ c ∉ l.take i }) 19 (fun i => [(0, .sl (l.map encN) none), (1, .int .i64 c), (5, .int .i64 (i.1 : Nat))]) (fun i => st) (fun i => l.length - i.1) ⟨0, Nat.zero_le _, by simp⟩ rfl ?_ ?_ ?_; (focus (simp (disch := omega) only [go_sem, ↓reduceIte, Nat.reduceEqDiff, Nat.reduceAdd, Nat.reduceLeDiff, Nat.reduceMul, Nat.reduceSub, Nat.reduceLT]; done)); (focus (simp (disch := omega) only [go_sem, ↓reduceIte, Nat.reduceEqDiff, Nat.reduceAdd, Nat.reduceLeDiff, Nat.reduceMul, Nat.reduceSub, Nat.reduceLT]; done)); rintro ⟨i, hi, hni⟩ hlc; dsimp only)
    | (refine ⟨⟨i + 1, by omega, idxN_step hni (by omega) (by omega)⟩, by simp only []; omega, _, Nat.le_refl _, Nat.le_of_ble_eq_true rfl, ?_, ?_⟩ <;> (simp (disch := omega) only [go_sem, ↓reduceIte, Nat.reduceEqDiff, Nat.reduceAdd, Nat.reduceLeDiff, Nat.reduceMul, Nat.reduceSub, Nat.reduceLT, List.length_append, hlc.trim, hlc.trim_append, trimS_app hst]))
    | (refine AW.ret ?_; show (_ ∨ _) ∧ _; refine ⟨.inr rfl, ?_⟩; show resP _ _ _ [.tmp 4] _; simp (disch := omega) only [go_sem, ↓reduceIte, Nat.reduceEqDiff, Nat.reduceAdd, Nat.reduceLeDiff, Nat.reduceMul, Nat.reduceSub, Nat.reduceLT, encN_mk]; refine ⟨_, _, _, Nat.le_refl _, V.le_refl _ _, StLe.refl _, ?_⟩; (try simp (disch := omega) only [go_sem, ↓reduceIte, Nat.reduceEqDiff, Nat.reduceAdd, Nat.reduceLeDiff, Nat.reduceMul, Nat.reduceSub, Nat.reduceLT, encN_mk, hst.trim, hst.trim_append]))
  all_goals first | (rw [idxN_at hni (by omega) (by omega)]; done) | (rw [idxN_none (by rwa [List.take_of_length_le (by omega)] at hni)]; done) | trace_state
theorem inW_spec (s : Str) (l : List Str) (hl : l.length ≤ 9223372036854775807) (st : List O) : Duo.Call Tryz.prog Tryz.gl2 22 [.str s, .sl (l.map .str) none] st (fun v st' => v = .bool (decide (s ∈ l)) ∧ st' = st) := up (in3_spec s l hl st)
end Tryz
end Go.Proofs
