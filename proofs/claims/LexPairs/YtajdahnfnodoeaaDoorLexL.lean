/-
  Walks of the laws, law 01.
-/
import Derived.Test.YtajdahnfnodoeaaDoorLexD
import Derived.Test.YtajdahnfnodoeaaDoorLexG
import Derived.Test.YtajdahnfnodoeaaDoorDLex5
import Derived.Test.YtajdahnfnodoeaaDoorLexI
import Derived.Test.YtajdahnfnodoeaaDoorDLex6
set_option linter.all false
namespace Go.Proofs
open Go Go.Duo
namespace Tryd
attribute [local irreducible] awL awA AW
set_option maxRecDepth 100000 in
set_option maxHeartbeats 8000000 in
theorem backT_spec (l : List Tok) (hn : l.length ≤ 200000) (st : List O) : Duo.Call Tryd.prog Tryd.gl 12 [.sl (l.map encK) none] st (fun v st' => v = .sl (l.map encK) (some st.length) ∧ st' = st ++ [.tok 49 4 l.length]) := by
  refine Duo.Call.clo fun hst => ?_
  refine Duo.Call.body 36 [(0, .sl (l.map encK) none)] Tryd.func12 rfl rfl ?_
  repeat' first
    | refine AW.seqK fun K hK => ?_
    | (refine hK _ _ ?_; clear hK K)
    | refine AW.region ?_
    | refine AW.any (id := 5) mix 23 (by decide +kernel) ?_
    | refine awA_nil (by simp only [applyUps, List.nil_append, List.cons_append, S0, S2]; rfl) ?_
    | refine awL_nil ?_
    | (refine awL_gno rfl ?_ rfl ?_; focus (simp only [S0, ↓reduceIte, Nat.reduceEqDiff, Bool.not_true, Bool.not_false]; done))
    | (refine awL_gyes rfl ?_ ?_; focus (simp only [S0, ↓reduceIte, Nat.reduceEqDiff, Bool.not_true, Bool.not_false]; done))
    | refine awL_hole rfl rfl rfl rfl ?_
    | (refine awL_gcase rfl rfl (fun hg => ?_) (fun hg => ?_) <;> (rw [hg]; (try simp only [Int.ofNat_inj, not_true_eq_false, not_false_eq_true, Bool.false_eq_true, Bool.true_eq_false, decide_eq_true_eq, decide_eq_false_iff_not, Bool.not_eq_true, Bool.not_eq_false, Bool.not_eq_true', Bool.not_eq_false', Int.not_lt, Int.not_le, ne_eq, Decidable.not_not, List.length_map, Bool.and_eq_true, Bool.or_eq_true, Bool.and_eq_false_imp, Int.ofNat_lt, Int.ofNat_le] at hg); try (exfalso; omega)))
    | refine awL_S1 rfl rfl (by simp (disch := omega) only [go_sem, ↓reduceIte, Nat.reduceEqDiff, Nat.reduceAdd, Nat.reduceLeDiff, Nat.reduceMul, Nat.reduceSub, Nat.reduceLT]; rfl) ?_
    | (refine awA_gno rfl ?_ rfl ?_; focus (simp only [S0, ↓reduceIte, Nat.reduceEqDiff, Bool.not_true, Bool.not_false]; done))
    | (refine awA_gyes rfl ?_ ?_; focus (simp only [S0, ↓reduceIte, Nat.reduceEqDiff, Bool.not_true, Bool.not_false]; done))
    | refine awA_hole rfl rfl rfl rfl ?_
    | (refine awA_gcase rfl rfl (fun hg => ?_) (fun hg => ?_) <;> (rw [hg]; (try simp only [Int.ofNat_inj, not_true_eq_false, not_false_eq_true, Bool.false_eq_true, Bool.true_eq_false, decide_eq_true_eq, decide_eq_false_iff_not, Bool.not_eq_true, Bool.not_eq_false, Bool.not_eq_true', Bool.not_eq_false', Int.not_lt, Int.not_le, ne_eq, Decidable.not_not, List.length_map, Bool.and_eq_true, Bool.or_eq_true, Bool.and_eq_false_imp, Int.ofNat_lt, Int.ofNat_le] at hg); try (exfalso; omega)))
    | refine awA_S1 rfl rfl (by simp (disch := omega) only [go_sem, ↓reduceIte, Nat.reduceEqDiff, Nat.reduceAdd, Nat.reduceLeDiff, Nat.reduceMul, Nat.reduceSub, Nat.reduceLT]; rfl) ?_
    | (refine AW.condK _ rfl (fun hb => ?_) (fun hb => ?_) <;> (try simp only [Int.ofNat_inj, not_true_eq_false, not_false_eq_true, Bool.false_eq_true, Bool.true_eq_false, decide_eq_true_eq, decide_eq_false_iff_not, Bool.not_eq_true, Bool.not_eq_false, Bool.not_eq_true', Bool.not_eq_false', Int.not_lt, Int.not_le, ne_eq, Decidable.not_not, List.length_map, Bool.and_eq_true, Bool.or_eq_true, Bool.and_eq_false_imp, Int.ofNat_lt, Int.ofNat_le] at hb) <;> try (exfalso; omega))
    | refine AW.block ?_
    | refine bq_s ?_
    | refine bq_o rfl ?_
    | refine tq_e ?_
    | refine AW.exit ?_
    | refine AW.skip ?_
    | refine useK (by assumption) ?_
    | (refine AW.tok 49 4 ?_; refine AW.loopS (α := { i : Nat // i ≤ l.length }) 36 (fun i => [(0, .sl (l.map encK) none), (3, .sl ((l.take i.1).map encK) (some st.length)), (4, .int .i64 (i.1 : Nat))]) (fun i => st ++ [.tok 49 4 ((l.take i.1).map encK).length]) (fun i => l.length - i.1) ⟨0, Nat.zero_le _⟩ rfl ?_ ?_ ?_; (focus (simp (disch := omega) only [go_sem, ↓reduceIte, Nat.reduceEqDiff, Nat.reduceAdd, Nat.reduceLeDiff, Nat.reduceMul, Nat.reduceSub, Nat.reduceLT, List.take_zero, List.map_nil, List.length_nil]; done)); (focus (simp (disch := omega) only [go_sem, ↓reduceIte, Nat.reduceEqDiff, Nat.reduceAdd, Nat.reduceLeDiff, Nat.reduceMul, Nat.reduceSub, Nat.reduceLT, List.take_zero, List.map_nil, List.length_nil]; done)); rintro ⟨i, hi⟩ hlc; dsimp only; have hnl : (l.take i).length ≤ 200000 := by (rw [List.length_take]; omega))
    | (refine ⟨⟨i + 1, by omega⟩, by simp only []; omega, _, Nat.le_refl _, Nat.le_of_ble_eq_true rfl, ?_, ?_⟩ <;> (simp (disch := omega) only [go_sem, ↓reduceIte, Nat.reduceEqDiff, Nat.reduceAdd, Nat.reduceLeDiff, Nat.reduceMul, Nat.reduceSub, Nat.reduceLT, take_at, encK, List.map_cons, List.map_nil, List.length_append, List.length_cons, List.length_nil, List.length_append, hlc.trim, hlc.trim_append, trimS_app hst]))
    | (refine AW.ret ?_; show (_ ∨ _) ∧ _; refine ⟨.inr rfl, ?_⟩; show resP _ _ _ [.tmp 2] _; simp (disch := omega) only [go_sem, ↓reduceIte, Nat.reduceEqDiff, Nat.reduceAdd, Nat.reduceLeDiff, Nat.reduceMul, Nat.reduceSub, Nat.reduceLT]; refine ⟨st.length + 1, _, _, Nat.le_succ _, V.le_refl _ _, StLe.refl _, ?_⟩; simp (disch := omega) only [go_sem, ↓reduceIte, Nat.reduceEqDiff, Nat.reduceAdd, Nat.reduceLeDiff, Nat.reduceMul, Nat.reduceSub, Nat.reduceLT, hst.trim, hst.trim_append, trimS_app hst])
    | (refine AW.ret ?_; show (_ ∨ _) ∧ _; refine ⟨.inr rfl, ?_⟩; show resP _ _ _ [.tmp 2] _; simp (disch := omega) only [go_sem, ↓reduceIte, Nat.reduceEqDiff, Nat.reduceAdd, Nat.reduceLeDiff, Nat.reduceMul, Nat.reduceSub, Nat.reduceLT]; refine ⟨_, _, _, Nat.le_refl _, V.le_refl _ _, StLe.refl _, ?_⟩; (try simp (disch := omega) only [go_sem, ↓reduceIte, Nat.reduceEqDiff, Nat.reduceAdd, Nat.reduceLeDiff, Nat.reduceMul, Nat.reduceSub, Nat.reduceLT, hst.trim, hst.trim_append]))
  rw [List.take_of_length_le (by omega)]; exact ⟨rfl, rfl⟩

theorem tokz_spec (a b : Str) (hz : a.length + b.length ≤ 6000) (st : List O) : Duo.Call Tryd.prog gl 9 [.str (a ++ [10] ++ b)] st (fun v st' => v = .tuple [.sl ((tkL (a ++ 10 :: b)).map encK) none, .agg [.int .i64 (tkE (a ++ 10 :: b)), .int .i64 (tkP (a ++ 10 :: b))]] ∧ st' = st) := by
  rw [List.append_assoc]
  exact tok_spec (a ++ 10 :: b) (by rw [List.length_append, List.length_cons]; omega) st

set_option maxRecDepth 100000 in
set_option maxHeartbeats 8000000 in
theorem lawPairs_spec (a : Str) (hA : a.length ≤ 9223372036854775807) (b : Str) (hB : b.length ≤ 9223372036854775807) (st : List O) : Duo.Call Tryd.prog Tryd.gl 6 [.str a, .str b] st (fun v st' => v = .bool true ∧ st' = st) := by
  refine Duo.Call.clo fun hst => ?_
  have hla := tkL_len a
  have hlb := tkL_len b
  have hlz := tkL_len (a ++ 10 :: b)
  refine Duo.Call.body 80 [(0, .str a), (1, .str b)] Tryd.func6 rfl rfl ?_
  repeat' first
    | refine AW.seqK fun K hK => ?_
    | (refine hK _ _ ?_; clear hK K)
    | refine AW.region ?_
    | refine awL_call rfl (by first | exact ent8 | exact ent9 | exact ent12 | exact ent11) (by simp only [go_sem, ↓reduceIte, Nat.reduceEqDiff, Nat.reduceAdd, Nat.reduceLeDiff, Nat.reduceMul, Nat.reduceSub, Nat.reduceLT, eq_self, encK_all, List.length_append, List.length_cons, List.length_nil]; rfl) (by first | exact awake_spec _ | exact tok_spec a hA _ | exact tok_spec b hB _ | exact tokz_spec a b (by omega) _ | exact backT_spec (tkL a) (by omega) _ | exact back_spec (tkL b) (by omega) _ | exact back_spec (tkL (a ++ 10 :: b)) (by omega) _ | exact Duo.Call.le1 (V.le_sl _ _ _) (by rw [← List.map_append]; exact same_spec (tkL a ++ tkL b) (tkL (a ++ 10 :: b)) false (by rw [List.length_append]; omega) _)) rfl ?_
    | refine awL_nil ?_
    | ((fail_if_success (clear hjq)); (rcases Nat.lt_or_ge 3000 a.length with hq | hq; (focus (exfalso; omega))); (rcases Nat.lt_or_ge 3000 b.length with hq2 | hq2; (focus (exfalso; omega))); have hpr := pairs hq hq2; have hpa := tkP_le hq; have hpb := tkP_le hq2; have hjq : True := trivial)
    | (refine awL_gno rfl ?_ rfl ?_; focus (simp only [S0, ↓reduceIte, Nat.reduceEqDiff, Bool.not_true, Bool.not_false]; done))
    | (refine awL_gyes rfl ?_ ?_; focus (simp only [S0, ↓reduceIte, Nat.reduceEqDiff, Bool.not_true, Bool.not_false]; done))
    | refine awL_hole rfl rfl rfl rfl ?_
    | (refine awL_gcase rfl rfl (fun hg => ?_) (fun hg => ?_) <;> (rw [hg]; (try simp only [Int.ofNat_inj, not_true_eq_false, not_false_eq_true, Bool.false_eq_true, Bool.true_eq_false, decide_eq_true_eq, decide_eq_false_iff_not, Bool.not_eq_true, Bool.not_eq_false, Bool.not_eq_true', Bool.not_eq_false', Int.not_lt, Int.not_le, ne_eq, Decidable.not_not, List.length_map, Bool.and_eq_true, Bool.or_eq_true, Bool.and_eq_false_imp, Int.ofNat_lt, Int.ofNat_le, eq_self] at hg); try (exfalso; omega)))
    | refine awL_S1 rfl rfl (by simp (disch := omega) only [go_sem, ↓reduceIte, Nat.reduceEqDiff, Nat.reduceAdd, Nat.reduceLeDiff, Nat.reduceMul, Nat.reduceSub, Nat.reduceLT, eq_self, encK_all, List.length_append, List.length_cons, List.length_nil]; rfl) ?_
    | (refine AW.condK _ rfl (fun hb => ?_) (fun hb => ?_) <;> (try simp only [Int.ofNat_inj, not_true_eq_false, not_false_eq_true, Bool.false_eq_true, Bool.true_eq_false, decide_eq_true_eq, decide_eq_false_iff_not, Bool.not_eq_true, Bool.not_eq_false, Bool.not_eq_true', Bool.not_eq_false', Int.not_lt, Int.not_le, ne_eq, Decidable.not_not, List.length_map, Bool.and_eq_true, Bool.or_eq_true, Bool.and_eq_false_imp, Int.ofNat_lt, Int.ofNat_le, eq_self] at hb) <;> try (exfalso; omega))
    | refine AW.skip ?_
    | refine useK (by assumption) ?_
    | (refine AW.ret ?_; show (_ ∨ _) ∧ _; refine ⟨.inr rfl, ?_⟩; show resP _ _ _ [.tmp 4] _; simp (disch := omega) only [go_sem, ↓reduceIte, Nat.reduceEqDiff, Nat.reduceAdd, Nat.reduceLeDiff, Nat.reduceMul, Nat.reduceSub, Nat.reduceLT, eq_self, encK_all, List.length_append, List.length_cons, List.length_nil]; refine ⟨_, _, _, Nat.le_refl _, V.le_refl _ _, StLe.refl _, ?_⟩; (try simp (disch := omega) only [go_sem, ↓reduceIte, Nat.reduceEqDiff, Nat.reduceAdd, Nat.reduceLeDiff, Nat.reduceMul, Nat.reduceSub, Nat.reduceLT, eq_self, encK_all, List.length_append, List.length_cons, List.length_nil, hst.trim, hst.trim_append]))
  all_goals (obtain ⟨p1, p2, p3⟩ := hpr; clear hla hlb hlz hA hB hq hq2 hpa hpb; simp_all)
end Tryd
end Go.Proofs
