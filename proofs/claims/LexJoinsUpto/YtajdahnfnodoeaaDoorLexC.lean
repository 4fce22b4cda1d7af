/-
  Walks of law 01.
-/
import Derived.Test.YtajdahnfnodoeaaDoorLexLib
import Derived.Test.YtajdahnfnodoeaaDoorLexFacts
import Derived.Test.YtajdahnfnodoeaaDoorDS2
import Derived.Test.YtajdahnfnodoeaaDoorLexB
set_option linter.all false
namespace Go.Proofs
open Go Go.Duo
namespace Tryd
attribute [local irreducible] awL awA AW
set_option maxRecDepth 100000 in
set_option maxHeartbeats 8000000 in
theorem all1_spec (s : Str) (hs : s.length ≤ 281474976710656) : Duo.Call Tryd.prog gl 32 [.yld 0, .dptr [.str s]] [.yld ((allL s).map encY) 0 true] (fun _ st' => ∃ i go, st' = [.yld ((allL s).map encY) i go] ∧ (go = true → i = ((allL s).map encY).length)) := by
  refine Duo.Call.clo fun hst => ?_
  refine Duo.Call.body 38 [(0, .yld 0), (1, .dptr [.str s])] Tryd.func32 rfl rfl ?_
  repeat' first
    | refine AW.seqK fun K hK => ?_
    | (refine hK _ _ ?_; clear hK K)
    | refine AW.region ?_
    | refine awL_call rfl (by first | exact ent33 | exact ent34) (by simp only [go_sem, ↓reduceIte, Nat.reduceEqDiff, Nat.reduceAdd, Nat.reduceLeDiff, Nat.reduceMul, Nat.reduceSub, Nat.reduceLT]; rfl) (by first | exact skip_spec s 0 (by omega) (by omega) _ | exact skip_spec s _ (rd_len (by assumption)) (by omega) _ | exact read_spec s _ (by omega) (by omega) _) rfl ?_
    | refine awL_nil ?_
    | ((fail_if_success (clear hrl)); (rcases Nat.lt_or_ge a s.length with hq | hq; rotate_left; focus (exfalso; omega)); have hrl := rd_len hq)
    | (refine awL_gno rfl ?_ rfl ?_; focus (simp only [S0, ↓reduceIte, Nat.reduceEqDiff, Bool.not_true, Bool.not_false]; done))
    | (refine awL_gyes rfl ?_ ?_; focus (simp only [S0, ↓reduceIte, Nat.reduceEqDiff, Bool.not_true, Bool.not_false]; done))
    | refine awL_hole rfl rfl rfl rfl ?_
    | (refine awL_gcase rfl rfl (fun hg => ?_) (fun hg => ?_) <;> (rw [hg]; (try simp only [Int.ofNat_inj, not_true_eq_false, not_false_eq_true, Bool.false_eq_true, Bool.true_eq_false, decide_eq_true_eq, decide_eq_false_iff_not, Bool.not_eq_true, Bool.not_eq_false, Bool.not_eq_true', Bool.not_eq_false', Int.not_lt, Int.not_le, ne_eq, Decidable.not_not, List.length_map, Bool.and_eq_true, Bool.or_eq_true, Bool.and_eq_false_imp, Int.ofNat_lt, Int.ofNat_le] at hg); try (exfalso; omega)))
    | refine awL_S1 rfl rfl (by simp (disch := omega) only [go_sem, ↓reduceIte, Nat.reduceEqDiff, Nat.reduceAdd, Nat.reduceLeDiff, Nat.reduceMul, Nat.reduceSub, Nat.reduceLT]; rfl) ?_
    | (refine AW.condK _ rfl (fun hb => ?_) (fun hb => ?_) <;> (try simp only [Int.ofNat_inj, not_true_eq_false, not_false_eq_true, Bool.false_eq_true, Bool.true_eq_false, decide_eq_true_eq, decide_eq_false_iff_not, Bool.not_eq_true, Bool.not_eq_false, Bool.not_eq_true', Bool.not_eq_false', Int.not_lt, Int.not_le, ne_eq, Decidable.not_not, List.length_map, Bool.and_eq_true, Bool.or_eq_true, Bool.and_eq_false_imp, Int.ofNat_lt, Int.ofNat_le] at hb) <;> try (exfalso; omega))
    | refine AW.block ?_
    | refine bq_s ?_
    | refine bq_o rfl ?_
    | refine tq_e ?_
    | refine AW.exit ?_
    | refine AW.skip ?_
    | refine useK (by assumption) ?_
    | (refine AW.loopS (α := { q : Nat × Nat × Nat // q.1 ≤ s.length ∧ (allL s).drop q.2.1 = yF s q.2.2 q.1 ∧ s.length < q.2.2 + q.1 ∧ q.2.1 ≤ (allL s).length }) 38 (fun q => [(0, .yld 0), (1, .dptr [.str s]), (3, .int .i64 (q.1.1 : Nat))]) (fun q => [.yld ((allL s).map encY) q.1.2.1 true]) (fun q => s.length - q.1.1) ⟨⟨skA s 0, 0, s.length + 1⟩, (skA_le (Nat.zero_le _)).2, rfl, by have := skA_le (s := s) (a := 0) (Nat.zero_le _); show s.length < s.length + 1 + skA s 0; omega, Nat.zero_le _⟩ rfl ?_ ?_ ?_; (focus (simp (disch := omega) only [go_sem, ↓reduceIte, Nat.reduceEqDiff, Nat.reduceAdd, Nat.reduceLeDiff, Nat.reduceMul, Nat.reduceSub, Nat.reduceLT]; done)); (focus (simp (disch := omega) only [go_sem, ↓reduceIte, Nat.reduceEqDiff, Nat.reduceAdd, Nat.reduceLeDiff, Nat.reduceMul, Nat.reduceSub, Nat.reduceLT]; done)); rintro ⟨⟨a, i, m⟩, ha, hd, hm, hi⟩ hlc; dsimp only at ha hd hm hi ⊢)
    | (refine ⟨⟨⟨skA s (a + (rdL s a).1.text.length), i + 1, m - 1⟩, (all_ok hd hm (by assumption) (by assumption)).2.2.2.1, (all_ok hd hm (by assumption) (by assumption)).2.1, (all_ok hd hm (by assumption) (by assumption)).2.2.1, (all_ok hd hm (by assumption) (by assumption)).2.2.2.2.2⟩, by have := (all_ok hd hm (by assumption) (by assumption)).2.2.2; simp only []; omega, _, Nat.le_refl _, Nat.le_of_ble_eq_true rfl, ?_, ?_⟩ <;> (simp (disch := omega) only [go_sem, ↓reduceIte, Nat.reduceEqDiff, Nat.reduceAdd, Nat.reduceLeDiff, Nat.reduceMul, Nat.reduceSub, Nat.reduceLT, trimS_y, List.length_append, hlc.trim, hlc.trim_append, trimS_app hst]))
    | (refine awL_yld rfl (by simp (disch := omega) only [go_sem, ↓reduceIte, Nat.reduceEqDiff]; rfl) (by rfl) ?_ ?_ ?_ rfl ?_ ?_; (focus exact yld_one (by simp [O.isYld])); (focus exact pure_pair _ _ _ _ _ _); (focus first | (rw [List.getElem?_map, (all_ok hd hm (by assumption) (by assumption)).1]; rfl) | (rw [List.getElem?_map, (all_bad hd hm (by assumption) (by assumption)).1]; rfl)))
    | (refine AW.ret ?_; show (_ ∨ _) ∧ _; refine ⟨.inr rfl, ?_⟩; show resP _ _ _ [] _; simp (disch := omega) only [go_sem, ↓reduceIte, Nat.reduceEqDiff, Nat.reduceAdd, Nat.reduceLeDiff, Nat.reduceMul, Nat.reduceSub, Nat.reduceLT]; refine ⟨_, _, _, Nat.le_refl _, V.le_refl _ _, StLe.refl _, ?_⟩; (try simp (disch := omega) only [go_sem, ↓reduceIte, Nat.reduceEqDiff, Nat.reduceAdd, Nat.reduceLeDiff, Nat.reduceMul, Nat.reduceSub, Nat.reduceLT, hst.trim, hst.trim_append]))
    | (show (_ ∨ _) ∧ _; refine ⟨.inl rfl, ?_⟩; show resP _ _ _ [] _; simp (disch := omega) only [go_sem, ↓reduceIte, Nat.reduceEqDiff, Nat.reduceAdd, Nat.reduceLeDiff, Nat.reduceMul, Nat.reduceSub, Nat.reduceLT]; refine ⟨_, _, _, Nat.le_refl _, V.le_refl _ _, StLe.refl _, ?_⟩; (try simp (disch := omega) only [go_sem, ↓reduceIte, Nat.reduceEqDiff, Nat.reduceAdd, Nat.reduceLeDiff, Nat.reduceMul, Nat.reduceSub, Nat.reduceLT, hst.trim, hst.trim_append]))
  · exact ⟨_, true, trimS_y, fun _ => (all_bad hd hm (by assumption) (by assumption)).2.symm⟩
  · exact ⟨_, false, trimS_y, fun h => by cases h⟩
  · exact ⟨_, false, trimS_y, fun h => by cases h⟩
  · exact ⟨_, true, trimS_y, fun _ => (all_end hd hi (by assumption)).symm⟩

set_option maxRecDepth 100000 in
set_option maxHeartbeats 8000000 in
theorem all_spec (s : Str) (st : List O) : Duo.Call Tryd.prog gl 20 [.str s] st (fun v st' => v = .func (.func 32) [] [.dptr [.str s]] ∧ st' = st) := by
  refine Duo.Call.clo fun hst => ?_
  refine Duo.Call.body 4 [(0, .str s)] Tryd.func20 rfl rfl ?_
  repeat' first
    | (refine AW.frz st.length 9 [.str s] (by rw [st_get0]; rfl) (by intro c hc; rw [List.mem_singleton.1 hc]; exact ⟨PureV.str _, rfl⟩) ?_)
    | refine AW.seqK fun K hK => ?_
    | (refine hK _ _ ?_; clear hK K)
    | refine AW.region ?_
    | refine awL_nil ?_
    | (refine awL_gno rfl ?_ rfl ?_; focus (simp only [S0, ↓reduceIte, Nat.reduceEqDiff, Bool.not_true, Bool.not_false]; done))
    | (refine awL_gyes rfl ?_ ?_; focus (simp only [S0, ↓reduceIte, Nat.reduceEqDiff, Bool.not_true, Bool.not_false]; done))
    | refine awL_hole rfl rfl rfl rfl ?_
    | (refine awL_gcase rfl rfl (fun hg => ?_) (fun hg => ?_) <;> (rw [hg]; (try simp only [Int.ofNat_inj, not_true_eq_false, not_false_eq_true, Bool.false_eq_true, Bool.true_eq_false, decide_eq_true_eq, decide_eq_false_iff_not, Bool.not_eq_true, Bool.not_eq_false, Bool.not_eq_true', Bool.not_eq_false', Int.not_lt, Int.not_le, ne_eq, Decidable.not_not, List.length_map, Bool.and_eq_true, Bool.or_eq_true, Bool.and_eq_false_imp, Int.ofNat_lt, Int.ofNat_le] at hg); try (exfalso; omega)))
    | refine awL_S1 rfl rfl (by simp (disch := omega) only [go_sem, ↓reduceIte, Nat.reduceEqDiff, Nat.reduceAdd, Nat.reduceLeDiff, Nat.reduceMul, Nat.reduceSub, Nat.reduceLT, Env.fz_get, V.fz, V.fz.fzL, List.drop_zero]; rfl) ?_
    | (refine AW.condK _ rfl (fun hb => ?_) (fun hb => ?_) <;> (try simp only [Int.ofNat_inj, not_true_eq_false, not_false_eq_true, Bool.false_eq_true, Bool.true_eq_false, decide_eq_true_eq, decide_eq_false_iff_not, Bool.not_eq_true, Bool.not_eq_false, Bool.not_eq_true', Bool.not_eq_false', Int.not_lt, Int.not_le, ne_eq, Decidable.not_not, List.length_map, Bool.and_eq_true, Bool.or_eq_true, Bool.and_eq_false_imp, Int.ofNat_lt, Int.ofNat_le] at hb) <;> try (exfalso; omega))
    | refine AW.skip ?_
    | refine useK (by assumption) ?_
    | (refine AW.ret ?_; show (_ ∨ _) ∧ _; refine ⟨.inr rfl, ?_⟩; show resP _ _ _ [.tmp 2] _; simp (disch := omega) only [go_sem, ↓reduceIte, Nat.reduceEqDiff, Nat.reduceAdd, Nat.reduceLeDiff, Nat.reduceMul, Nat.reduceSub, Nat.reduceLT, Env.fz_get, V.fz, V.fz.fzL, List.drop_zero]; refine ⟨_, _, _, Nat.le_refl _, V.le_refl _ _, StLe.refl _, ?_⟩; (try simp (disch := omega) only [go_sem, ↓reduceIte, Nat.reduceEqDiff, Nat.reduceAdd, Nat.reduceLeDiff, Nat.reduceMul, Nat.reduceSub, Nat.reduceLT, Env.fz_get, V.fz, V.fz.fzL, List.drop_zero, hst.trim, hst.trim_append]))
  exact ⟨by rfl, by simpa [List.set_append] using fz_clo hst .dead [.str s]⟩
end Tryd
end Go.Proofs
