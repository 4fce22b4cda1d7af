/-
  Walks of the reference, law 01.
-/
import Derived.Test.YtajdahnfnodoeaaDoorLexLib
import Derived.Test.YtajdahnfnodoeaaDoorDLex3
import Derived.Test.YtajdahnfnodoeaaDoorLexFacts
import Derived.Test.YtajdahnfnodoeaaDoorDS2
import Derived.Test.YtajdahnfnodoeaaDoorLexF
set_option linter.all false
namespace Go.Proofs
open Go Go.Duo
namespace Tryd
attribute [local irreducible] awL awA AW
set_option maxRecDepth 100000 in
set_option maxHeartbeats 8000000 in
theorem rtokens_spec (s : Str) (hs : s.length ≤ 9223372036854775807) (st : List O) : Duo.Call Tryd.prog Tryd.gl 10 [.str s] st (fun v st' => v = encT3 (lexT s) ∧ st' = st) := by
  refine Duo.Call.clo fun hst => ?_
  refine Duo.Call.body 78 [(0, .str s)] Tryd.func10 rfl rfl ?_
  repeat' first
    | refine AW.seqK fun K hK => ?_
    | (refine hK _ _ ?_; clear hK K)
    | refine AW.region ?_
    | refine AW.any (id := 14) mix 12 (by decide +kernel) ?_
    | refine awL_call rfl (by first | exact ent21 | exact ent22 | exact ent23 | exact ent24) (by simp only [go_sem, ↓reduceIte, Nat.reduceEqDiff, Nat.reduceAdd, Nat.reduceLeDiff, Nat.reduceMul, Nat.reduceSub, Nat.reduceLT]; rfl) (by first | exact in_spec _ _ (by first | omega | decide) _ | exact letters_spec _ | exact digits_spec _ | exact longest_spec s _ (by assumption) (by omega) _ | exact kind_spec _ (by simp only [List.length_drop, List.length_take]; omega) _ | exact value_spec _ (num_pos (kind2_num (by assumption))) (kind2_num (by assumption)) (by simp only [List.length_drop, List.length_take]; omega) _) rfl ?_
    | refine awA_nil (by simp only [applyUps, List.nil_append, List.cons_append, S0, S2]; rfl) ?_
    | refine awL_nil ?_
    | ((fail_if_success (clear hjq)); (rcases Nat.lt_or_ge a s.length with hq | hq; rotate_left; focus (exfalso; omega)); have hT := tokN_at hq; have hjq : True := trivial)
    | (refine awL_gno rfl ?_ rfl ?_; focus (simp only [S0, ↓reduceIte, Nat.reduceEqDiff, Bool.not_true, Bool.not_false]; done))
    | (refine awL_gyes rfl ?_ ?_; focus (simp only [S0, ↓reduceIte, Nat.reduceEqDiff, Bool.not_true, Bool.not_false]; done))
    | refine awL_hole rfl rfl rfl rfl ?_
    | (refine awL_gcase rfl rfl (fun hg => ?_) (fun hg => ?_) <;> (rw [hg]; (try simp only [Int.ofNat_inj, not_true_eq_false, not_false_eq_true, Bool.false_eq_true, Bool.true_eq_false, decide_eq_true_eq, decide_eq_false_iff_not, Bool.not_eq_true, Bool.not_eq_false, Bool.not_eq_true', Bool.not_eq_false', Int.not_lt, Int.not_le, ne_eq, Decidable.not_not, List.length_map, Bool.and_eq_true, Bool.or_eq_true, Bool.and_eq_false_imp, Int.ofNat_lt, Int.ofNat_le, inB_let, inB_dig, inB_sign, inB_blank] at hg); try (exfalso; omega)))
    | refine awL_S1 rfl rfl (by simp (disch := omega) only [go_sem, ↓reduceIte, Nat.reduceEqDiff, Nat.reduceAdd, Nat.reduceLeDiff, Nat.reduceMul, Nat.reduceSub, Nat.reduceLT]; rfl) ?_
    | refine awA_call rfl (by first | exact ent21 | exact ent22 | exact ent23 | exact ent24) (by simp only [go_sem, ↓reduceIte, Nat.reduceEqDiff, Nat.reduceAdd, Nat.reduceLeDiff, Nat.reduceMul, Nat.reduceSub, Nat.reduceLT]; rfl) (by first | exact in_spec _ _ (by first | omega | decide) _ | exact letters_spec _ | exact digits_spec _ | exact longest_spec s _ (by assumption) (by omega) _ | exact kind_spec _ (by simp only [List.length_drop, List.length_take]; omega) _ | exact value_spec _ (num_pos (kind2_num (by assumption))) (kind2_num (by assumption)) (by simp only [List.length_drop, List.length_take]; omega) _) rfl ?_
    | (refine awA_gno rfl ?_ rfl ?_; focus (simp only [S0, ↓reduceIte, Nat.reduceEqDiff, Bool.not_true, Bool.not_false]; done))
    | (refine awA_gyes rfl ?_ ?_; focus (simp only [S0, ↓reduceIte, Nat.reduceEqDiff, Bool.not_true, Bool.not_false]; done))
    | refine awA_hole rfl rfl rfl rfl ?_
    | (refine awA_gcase rfl rfl (fun hg => ?_) (fun hg => ?_) <;> (rw [hg]; (try simp only [Int.ofNat_inj, not_true_eq_false, not_false_eq_true, Bool.false_eq_true, Bool.true_eq_false, decide_eq_true_eq, decide_eq_false_iff_not, Bool.not_eq_true, Bool.not_eq_false, Bool.not_eq_true', Bool.not_eq_false', Int.not_lt, Int.not_le, ne_eq, Decidable.not_not, List.length_map, Bool.and_eq_true, Bool.or_eq_true, Bool.and_eq_false_imp, Int.ofNat_lt, Int.ofNat_le, inB_let, inB_dig, inB_sign, inB_blank] at hg); try (exfalso; omega)))
    | refine awA_S1 rfl rfl (by simp (disch := omega) only [go_sem, ↓reduceIte, Nat.reduceEqDiff, Nat.reduceAdd, Nat.reduceLeDiff, Nat.reduceMul, Nat.reduceSub, Nat.reduceLT]; rfl) ?_
    | (refine AW.condK _ rfl (fun hb => ?_) (fun hb => ?_) <;> (try simp only [Int.ofNat_inj, not_true_eq_false, not_false_eq_true, Bool.false_eq_true, Bool.true_eq_false, decide_eq_true_eq, decide_eq_false_iff_not, Bool.not_eq_true, Bool.not_eq_false, Bool.not_eq_true', Bool.not_eq_false', Int.not_lt, Int.not_le, ne_eq, Decidable.not_not, List.length_map, Bool.and_eq_true, Bool.or_eq_true, Bool.and_eq_false_imp, Int.ofNat_lt, Int.ofNat_le, inB_let, inB_dig, inB_sign, inB_blank] at hb) <;> try (exfalso; omega))
    | refine AW.block ?_
    | refine bq_s ?_
    | refine bq_o rfl ?_
    | refine tq_e ?_
    | refine AW.exit ?_
    | refine AW.skip ?_
    | refine useK (by assumption) ?_
    | (refine AW.tok 49 4 ?_; refine AW.loopS (α := { q : Nat × List Tok // q.1 ≤ s.length ∧ lexA s false 0 = (lexA s false q.1).map (q.2 ++ ·) ∧ q.2.length ≤ q.1 }) 78 (fun q => [(0, .str s), (5, .sl (q.1.2.map encK) (some st.length)), (6, .int .i64 (q.1.1 : Nat))]) (fun q => st ++ [.tok 49 4 (q.1.2.map encK).length]) (fun q => s.length - q.1.1) ⟨⟨0, []⟩, Nat.zero_le _, map_nil _, Nat.zero_le _⟩ rfl ?_ ?_ ?_; (focus (simp (disch := omega) only [go_sem, ↓reduceIte, Nat.reduceEqDiff, Nat.reduceAdd, Nat.reduceLeDiff, Nat.reduceMul, Nat.reduceSub, Nat.reduceLT, List.map_nil, List.length_nil]; done)); (focus (simp (disch := omega) only [go_sem, ↓reduceIte, Nat.reduceEqDiff, Nat.reduceAdd, Nat.reduceLeDiff, Nat.reduceMul, Nat.reduceSub, Nat.reduceLT, List.map_nil, List.length_nil]; done)); rintro ⟨⟨a, l⟩, ha, hpre, hll⟩ hlc; dsimp only at ha hpre hll ⊢)
    | (guard_hyp hb : blankB s[a] = true; refine ⟨⟨⟨a + 1, l⟩, by omega, map_same hpre (lexA_blank hq hb).symm, by dsimp only; omega⟩, by simp only []; omega, _, Nat.le_refl _, Nat.le_of_ble_eq_true rfl, ?_, ?_⟩ <;> (simp (disch := omega) only [go_sem, ↓reduceIte, Nat.reduceEqDiff, Nat.reduceAdd, Nat.reduceLeDiff, Nat.reduceMul, Nat.reduceSub, Nat.reduceLT, encK, rT, txA, List.map_cons, List.map_nil, List.length_append, List.length_cons, List.length_nil, List.length_append, hlc.trim, hlc.trim_append, trimS_app hst]; done))
    | ((rcases Nat.lt_or_ge p s.length with hz | hz; (focus (exfalso; omega))); have hz2 := note_end1 ww hz; refine ⟨⟨⟨p, l⟩, w2, map_same hpre hz2, by dsimp only; omega⟩, by simp only []; omega, _, Nat.le_refl _, Nat.le_of_ble_eq_true rfl, ?_, ?_⟩ <;> (simp (disch := omega) only [go_sem, ↓reduceIte, Nat.reduceEqDiff, Nat.reduceAdd, Nat.reduceLeDiff, Nat.reduceMul, Nat.reduceSub, Nat.reduceLT, encK, rT, txA, List.map_cons, List.map_nil, List.length_append, List.length_cons, List.length_nil, List.length_append, hlc.trim, hlc.trim_append, trimS_app hst]; done))
    | (have hz2 := note_end2 ww hb; have hz3 : ¬ a = p := (by rintro rfl; simp_all); refine ⟨⟨⟨p, l⟩, w2, map_same hpre hz2, by dsimp only; omega⟩, by simp only []; omega, _, Nat.le_refl _, Nat.le_of_ble_eq_true rfl, ?_, ?_⟩ <;> (simp (disch := omega) only [go_sem, ↓reduceIte, Nat.reduceEqDiff, Nat.reduceAdd, Nat.reduceLeDiff, Nat.reduceMul, Nat.reduceSub, Nat.reduceLT, encK, rT, txA, List.map_cons, List.map_nil, List.length_append, List.length_cons, List.length_nil, List.length_append, hlc.trim, hlc.trim_append, trimS_app hst]; done))
    | (guard_hyp hb : ¬ kindL (List.drop a (List.take (a + tokN (List.drop a s)) s)) = 2; refine ⟨⟨⟨a + tokN (s.drop a), l ++ [rT s a 0]⟩, hT, map_snoc hpre (rT_word hq (by assumption) (by assumption) (by omega) hb), by dsimp only; rw [List.length_append, List.length_singleton]; omega⟩, by simp only []; omega, _, Nat.le_refl _, Nat.le_of_ble_eq_true rfl, ?_, ?_⟩ <;> (simp (disch := omega) only [go_sem, ↓reduceIte, Nat.reduceEqDiff, Nat.reduceAdd, Nat.reduceLeDiff, Nat.reduceMul, Nat.reduceSub, Nat.reduceLT, encK, rT, txA, List.map_cons, List.map_nil, List.length_append, List.length_cons, List.length_nil, List.length_append, hlc.trim, hlc.trim_append, trimS_app hst]; done))
    | (guard_hyp hb : valB (List.drop a (List.take (a + tokN (List.drop a s)) s)) = true; refine ⟨⟨⟨a + tokN (s.drop a), l ++ [rT s a (valN (txA s a))]⟩, hT, map_snoc hpre (rT_num hq (by assumption) (by assumption) (by omega) (by assumption) hb), by dsimp only; rw [List.length_append, List.length_singleton]; omega⟩, by simp only []; omega, _, Nat.le_refl _, Nat.le_of_ble_eq_true rfl, ?_, ?_⟩ <;> (simp (disch := omega) only [go_sem, ↓reduceIte, Nat.reduceEqDiff, Nat.reduceAdd, Nat.reduceLeDiff, Nat.reduceMul, Nat.reduceSub, Nat.reduceLT, encK, rT, txA, List.map_cons, List.map_nil, List.length_append, List.length_cons, List.length_nil, List.length_append, hlc.trim, hlc.trim_append, trimS_app hst]))
    | (refine AW.loopS (α := { p : Nat // a ≤ p ∧ p ≤ s.length ∧ lexA s true p = lexA s false a }) 78 (fun p => [(0, .str s), (5, .sl (l.map encK) (some st.length)), (6, .int .i64 (p.1 : Nat))]) (fun p => st ++ [.tok 49 4 (l.map encK).length]) (fun p => s.length - p.1) ⟨a, Nat.le_refl _, ha, (lexA_hash hq (by assumption)).symm⟩ rfl ?_ ?_ ?_; (focus (simp (disch := omega) only [go_sem, ↓reduceIte, Nat.reduceEqDiff, Nat.reduceAdd, Nat.reduceLeDiff, Nat.reduceMul, Nat.reduceSub, Nat.reduceLT]; done)); (focus (simp (disch := omega) only [go_sem, ↓reduceIte, Nat.reduceEqDiff, Nat.reduceAdd, Nat.reduceLeDiff, Nat.reduceMul, Nat.reduceSub, Nat.reduceLT]; done)); rintro ⟨p, w1, w2, ww⟩ hlc2; dsimp only)
    | (refine ⟨⟨p + 1, by omega, by omega, by rw [← ww]; exact (lexA_note (by assumption) (by assumption)).symm⟩, by simp only []; omega, _, Nat.le_refl _, Nat.le_of_ble_eq_true rfl, ?_, ?_⟩ <;> (simp (disch := omega) only [go_sem, ↓reduceIte, Nat.reduceEqDiff, Nat.reduceAdd, Nat.reduceLeDiff, Nat.reduceMul, Nat.reduceSub, Nat.reduceLT, List.length_append, hlc2.trim, hlc2.trim_append, trimS_app hst]))
    | (refine AW.ret ?_; show (_ ∨ _) ∧ _; refine ⟨.inr rfl, ?_⟩; show resP _ _ _ [.tmp 2, .tmp 3, .tmp 4] _; simp (disch := omega) only [go_sem, ↓reduceIte, Nat.reduceEqDiff, Nat.reduceAdd, Nat.reduceLeDiff, Nat.reduceMul, Nat.reduceSub, Nat.reduceLT]; refine ⟨_, _, _, Nat.le_refl _, nil_tupL _ _, StLe.refl _, ?_⟩; simp (disch := omega) only [hst.trim, hst.trim_append, go_sem])
    | (refine AW.ret ?_; show (_ ∨ _) ∧ _; refine ⟨.inr rfl, ?_⟩; show resP _ _ _ [.tmp 2, .tmp 3, .tmp 4] _; simp (disch := omega) only [go_sem, ↓reduceIte, Nat.reduceEqDiff, Nat.reduceAdd, Nat.reduceLeDiff, Nat.reduceMul, Nat.reduceSub, Nat.reduceLT]; refine ⟨_, _, _, Nat.le_refl _, V.le_refl _ _, StLe.refl _, ?_⟩; (try simp (disch := omega) only [go_sem, ↓reduceIte, Nat.reduceEqDiff, Nat.reduceAdd, Nat.reduceLeDiff, Nat.reduceMul, Nat.reduceSub, Nat.reduceLT, hst.trim, hst.trim_append]))
  · rw [lexT_big (by omega)]; rfl
  · rw [lexT_err (by omega) hpre (lexA_bad hq (by assumption) (by assumption) (by omega))]; rfl
  · rw [lexT_err (by omega) hpre (rT_big hq (by assumption) (by assumption) (by omega) (by assumption) (by assumption))]; rfl
  · rw [lexT_fin (by omega) hpre (by omega)]; rfl
  
end Tryd
end Go.Proofs
