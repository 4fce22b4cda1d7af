/-
  Walks of law 01.
-/
import Derived.Test.YtajdahnfnodoeaaDoorLexLib
import Derived.Test.YtajdahnfnodoeaaDoorLexFacts
import Derived.Test.YtajdahnfnodoeaaDoorDS2
import Derived.Test.YtajdahnfnodoeaaDoorLexC
set_option linter.all false
namespace Go.Proofs
open Go Go.Duo
namespace Tryd
attribute [local irreducible] awL awA AW
set_option maxRecDepth 100000 in
set_option maxHeartbeats 8000000 in
theorem tokens_spec (s : Str) (hs : s.length ≤ 9223372036854775807) (st : List O) : Duo.Call Tryd.prog gl 9 [.str s] st (fun v st' => v = encTk (lexT s) ∧ st' = st) := by
  refine Duo.Call.clo fun hst => ?_
  refine Duo.Call.body 25 [(0, .str s)] Tryd.func9 rfl rfl ?_
  repeat' first
    | (obtain ⟨⟨hn, hall⟩, rfl⟩ := hI; obtain ⟨⟨t, e, p⟩, hy, rfl⟩ := encY_at hx; clear hx; have hnl := take_len s n; show AW _ _ _ _ _ (Env.put (Env.put _ (some 13) (.agg [.int .i64 t.kind, .str t.text, .int .i64 t.n, .int .i64 t.at_])) (some 14) (.agg [.int .i64 e, .int .i64 p])) _)
    | (obtain ⟨⟨hn, hall⟩, rfl⟩ := hI)
    | (obtain ⟨rfl, y, l, rfl, hl⟩ := hX)
    | refine ⟨rfl, ?_⟩
    | (refine AW.anyS (id := 8) mix 2 1 [0] _ rfl (Nat.le_of_ble_eq_true rfl) rfl rfl rfl rfl ?_; simp only [nopO, List.take_succ_cons, List.take_zero, List.set_cons_zero, List.set_cons_succ, List.toList_toArray]; refine awA_S1 rfl rfl (by simp (disch := omega) only [go_sem, ↓reduceIte, Nat.reduceEqDiff, Nat.reduceAdd, Nat.reduceLeDiff, Nat.reduceMul, Nat.reduceSub, Nat.reduceLT]; rfl) ?_; refine awA_nil (by simp only [applyUps, List.nil_append, List.cons_append, S0, S2]; rfl) ?_; refine ⟨rfl, late_S (by simp (disch := omega) only [go_sem, ↓reduceIte, Nat.reduceEqDiff, Nat.reduceAdd, Nat.reduceLeDiff, Nat.reduceMul, Nat.reduceSub, Nat.reduceLT]; rfl) ⟨by simp, awS_S rfl rfl rfl rfl (by simp (disch := omega) only [go_sem, ↓reduceIte, Nat.reduceEqDiff, Nat.reduceAdd, Nat.reduceLeDiff, Nat.reduceMul, Nat.reduceSub, Nat.reduceLT]; rfl) <| trivial, ?_⟩⟩; simp only [List.drop_succ_cons, List.drop_zero])
    | refine AW.seqK fun K hK => ?_
    | (refine hK _ _ ?_; clear hK K)
    | refine AW.region ?_
    | refine AW.any (id := 8) mix 2 (by decide +kernel) ?_
    | refine awL_call rfl (by first | exact ent20) (by simp only [go_sem, ↓reduceIte, Nat.reduceEqDiff, Nat.reduceAdd, Nat.reduceLeDiff, Nat.reduceMul, Nat.reduceSub, Nat.reduceLT]; rfl) (by first | exact all_spec _ _) rfl ?_
    | refine awA_nil (by simp only [applyUps, List.nil_append, List.cons_append, S0, S2]; rfl) ?_
    | refine awL_nil ?_
    | (refine awL_gno rfl ?_ rfl ?_; focus (simp only [S0, ↓reduceIte, Nat.reduceEqDiff, Bool.not_true, Bool.not_false]; done))
    | (refine awL_gyes rfl ?_ ?_; focus (simp only [S0, ↓reduceIte, Nat.reduceEqDiff, Bool.not_true, Bool.not_false]; done))
    | refine awL_hole rfl rfl rfl rfl ?_
    | (refine awL_gcase rfl rfl (fun hg => ?_) (fun hg => ?_) <;> (rw [hg]; (try simp only [Int.ofNat_inj, not_true_eq_false, not_false_eq_true, Bool.false_eq_true, Bool.true_eq_false, decide_eq_true_eq, decide_eq_false_iff_not, Bool.not_eq_true, Bool.not_eq_false, Bool.not_eq_true', Bool.not_eq_false', Int.not_lt, Int.not_le, ne_eq, Decidable.not_not, List.length_map, Bool.and_eq_true, Bool.or_eq_true, Bool.and_eq_false_imp, Int.ofNat_lt, Int.ofNat_le] at hg); try (exfalso; omega)))
    | refine awL_S1 rfl rfl (by simp (disch := omega) only [go_sem, ↓reduceIte, Nat.reduceEqDiff, Nat.reduceAdd, Nat.reduceLeDiff, Nat.reduceMul, Nat.reduceSub, Nat.reduceLT]; rfl) ?_
    | refine awA_call rfl (by first | exact ent20) (by simp only [go_sem, ↓reduceIte, Nat.reduceEqDiff, Nat.reduceAdd, Nat.reduceLeDiff, Nat.reduceMul, Nat.reduceSub, Nat.reduceLT]; rfl) (by first | exact all_spec _ _) rfl ?_
    | (refine awA_gno rfl ?_ rfl ?_; focus (simp only [S0, ↓reduceIte, Nat.reduceEqDiff, Bool.not_true, Bool.not_false]; done))
    | (refine awA_gyes rfl ?_ ?_; focus (simp only [S0, ↓reduceIte, Nat.reduceEqDiff, Bool.not_true, Bool.not_false]; done))
    | refine awA_hole rfl rfl rfl rfl ?_
    | (refine awA_gcase rfl rfl (fun hg => ?_) (fun hg => ?_) <;> (rw [hg]; (try simp only [Int.ofNat_inj, not_true_eq_false, not_false_eq_true, Bool.false_eq_true, Bool.true_eq_false, decide_eq_true_eq, decide_eq_false_iff_not, Bool.not_eq_true, Bool.not_eq_false, Bool.not_eq_true', Bool.not_eq_false', Int.not_lt, Int.not_le, ne_eq, Decidable.not_not, List.length_map, Bool.and_eq_true, Bool.or_eq_true, Bool.and_eq_false_imp, Int.ofNat_lt, Int.ofNat_le] at hg); try (exfalso; omega)))
    | refine awA_S1 rfl rfl (by simp (disch := omega) only [go_sem, ↓reduceIte, Nat.reduceEqDiff, Nat.reduceAdd, Nat.reduceLeDiff, Nat.reduceMul, Nat.reduceSub, Nat.reduceLT]; rfl) ?_
    | (refine AW.condK _ rfl (fun hb => ?_) (fun hb => ?_) <;> (try simp only [Int.ofNat_inj, not_true_eq_false, not_false_eq_true, Bool.false_eq_true, Bool.true_eq_false, decide_eq_true_eq, decide_eq_false_iff_not, Bool.not_eq_true, Bool.not_eq_false, Bool.not_eq_true', Bool.not_eq_false', Int.not_lt, Int.not_le, ne_eq, Decidable.not_not, List.length_map, Bool.and_eq_true, Bool.or_eq_true, Bool.and_eq_false_imp, Int.ofNat_lt, Int.ofNat_le] at hb) <;> try (exfalso; omega))
    | refine AW.block ?_
    | refine bq_s ?_
    | refine bq_o rfl ?_
    | refine tq_e ?_
    | refine AW.exit ?_
    | refine AW.skip ?_
    | refine useK (by assumption) ?_
    | (refine AW.tok 39 4 ?_; rw [List.append_assoc]; refine AW.pre (Env.le_refl _ _) (StLe.app (l' := [.box 23 [.nil], .box 26 [.int .i64 0, .int .i64 0], .box 23 [.sl [] (some (st.length + 3))], .tok 39 4 0]) (show OLe _ [_, _, _, _] [_, _, _, _] from ⟨O.le_refl _ _, O.le_refl _ _, O.le_box (show CLe _ [_] [_] from ⟨V.le_nil_tok (by rw [st_get]; rfl), trivial⟩), O.le_refl _ _, trivial⟩)) ?_; refine AW.rangeFn ((allL s).map encY) (fun n st' => (n ≤ (allL s).length ∧ ∀ x ∈ (allL s).take n, x.2.1 = 0) ∧ st' = st ++ [.box 23 [.nil], .box 26 [.int .i64 0, .int .i64 0], .box 23 [.sl (((allL s).take n).map fun x => encK x.1) (some (st.length + 3))], .tok 39 4 (((allL s).take n).map fun x => encK x.1).length]) (fun c st' => c = .ret ∧ ∃ y l', st' = st ++ .box 23 [.nil] :: .box 26 [.int .i64 y.1, .int .i64 y.2] :: l' ∧ lexT s = ([], y)) rfl ent32 (by intro v hv; rw [List.mem_singleton.1 hv]; exact ⟨PureV.dptr _, rfl⟩) (by intro p hp; simp only [List.mem_cons, List.not_mem_nil, or_false] at hp; rcases hp with rfl | rfl <;> exact Nat.le_of_ble_eq_true rfl) (by intro x hx; obtain ⟨y, _, rfl⟩ := List.mem_map.1 hx; rfl) (all1_spec s (by omega)) ⟨⟨Nat.zero_le _, by intro x hx; cases hx⟩, rfl⟩ (fun lp n x st1 hx hI => ?_) (fun st' hI => ?_) (fun c st' hX => ?_))
    | (refine AW.ret ?_; show (_ ∧ _); refine ⟨rfl, (e, p), _, rfl, lexT_bad (by omega) hall hy (by assumption)⟩)
    | (refine AW.ret ?_; show (_ ∨ _) ∧ _; refine ⟨.inr rfl, ?_⟩; show resP _ _ _ [.cell 2 23, .cell 3 26] _; simp (disch := omega) only [go_sem, lay23, lay26, ↓reduceIte, Nat.reduceEqDiff, Nat.reduceAdd, Nat.reduceLeDiff, Nat.reduceMul, Nat.reduceSub, Nat.reduceLT]; refine ⟨_, _, _, Nat.le_refl _, nil_tup _ _, StLe.refl _, ?_⟩; simp (disch := omega) only [hst.trim, hst.trim_append, go_sem])
    | (refine AW.ret ?_; show (_ ∨ _) ∧ _; refine ⟨.inr rfl, ?_⟩; show resP _ _ _ [.cell 2 23, .cell 3 26] _; simp (disch := omega) only [go_sem, ↓reduceIte, Nat.reduceEqDiff, Nat.reduceAdd, Nat.reduceLeDiff, Nat.reduceMul, Nat.reduceSub, Nat.reduceLT]; refine ⟨_, _, _, Nat.le_refl _, V.le_refl _ _, StLe.refl _, ?_⟩; (try simp (disch := omega) only [go_sem, ↓reduceIte, Nat.reduceEqDiff, Nat.reduceAdd, Nat.reduceLeDiff, Nat.reduceMul, Nat.reduceSub, Nat.reduceLT, hst.trim, hst.trim_append]))
  · rw [lexT_big (by omega)]; rfl
  · show (∃ k st', _)
    refine ⟨st.length + 4, _, by simp, ?_, ⟨(List.getElem?_eq_some_iff.1 hy).1, ?_⟩, rfl⟩
    · refine StLe.of_eq ?_
      rw [trimS_app hst (by simp), take_step hy]
      simp [O.trim, V.trim, encK]
    · intro x hx
      rw [take_step hy] at hx
      rcases List.mem_append.1 hx with hx | hx
      · exact hall x hx
      · rw [List.mem_singleton.1 hx]; exact hb
  · rw [lexT_ok (by omega) (by rw [List.length_map, List.take_length] at hall; exact hall), List.take_length]; simp only [encTk, List.map_map]; rfl
  · rw [hl]; rfl

set_option maxRecDepth 100000 in
set_option maxHeartbeats 8000000 in
theorem ljoin_spec (l : List Tok) (hn : l.length ≤ 65537) (hlen : (Lib.join (txts l) [32]).length ≤ 140737488355328) (st : List O) : Duo.Call Tryd.prog Tryd.gl 17 [.sl (l.map encK) none] st (fun v st' => v = .str (Lib.join (txts l) [32]) ∧ st' = st) := by
  refine Duo.Call.clo fun hst => ?_
  refine Duo.Call.body 20 [(0, .sl (l.map encK) none)] Tryd.func17 rfl rfl ?_
  repeat' first
    | refine AW.seqK fun K hK => ?_
    | (refine hK _ _ ?_; clear hK K)
    | refine AW.region ?_
    | refine awL_call rfl (by first | exact ent31) (by simp only [go_sem, ↓reduceIte, Nat.reduceEqDiff, Nat.reduceAdd, Nat.reduceLeDiff, Nat.reduceMul, Nat.reduceSub, Nat.reduceLT]; rfl) (by first | exact Duo.Call.le1 (V.le_sl _ _ _) (by rw [List.take_of_length_le (by omega), txts_enc]; exact join_spec (txts l) _ (by rw [txts, List.length_map]; omega) hlen _)) rfl ?_
    | refine awL_nil ?_
    | (refine awL_gno rfl ?_ rfl ?_; focus (simp only [S0, ↓reduceIte, Nat.reduceEqDiff, Bool.not_true, Bool.not_false]; done))
    | (refine awL_gyes rfl ?_ ?_; focus (simp only [S0, ↓reduceIte, Nat.reduceEqDiff, Bool.not_true, Bool.not_false]; done))
    | refine awL_hole rfl rfl rfl rfl ?_
    | (refine awL_gcase rfl rfl (fun hg => ?_) (fun hg => ?_) <;> (rw [hg]; (try simp only [Int.ofNat_inj, not_true_eq_false, not_false_eq_true, Bool.false_eq_true, Bool.true_eq_false, decide_eq_true_eq, decide_eq_false_iff_not, Bool.not_eq_true, Bool.not_eq_false, Bool.not_eq_true', Bool.not_eq_false', Int.not_lt, Int.not_le, ne_eq, Decidable.not_not, List.length_map, Bool.and_eq_true, Bool.or_eq_true, Bool.and_eq_false_imp, Int.ofNat_lt, Int.ofNat_le] at hg); try (exfalso; omega)))
    | refine awL_S1 rfl rfl (by simp (disch := omega) only [go_sem, ↓reduceIte, Nat.reduceEqDiff, Nat.reduceAdd, Nat.reduceLeDiff, Nat.reduceMul, Nat.reduceSub, Nat.reduceLT]; rfl) ?_
    | (refine AW.condK _ rfl (fun hb => ?_) (fun hb => ?_) <;> (try simp only [Int.ofNat_inj, not_true_eq_false, not_false_eq_true, Bool.false_eq_true, Bool.true_eq_false, decide_eq_true_eq, decide_eq_false_iff_not, Bool.not_eq_true, Bool.not_eq_false, Bool.not_eq_true', Bool.not_eq_false', Int.not_lt, Int.not_le, ne_eq, Decidable.not_not, List.length_map, Bool.and_eq_true, Bool.or_eq_true, Bool.and_eq_false_imp, Int.ofNat_lt, Int.ofNat_le] at hb) <;> try (exfalso; omega))
    | refine AW.block ?_
    | refine bq_s ?_
    | refine bq_o rfl ?_
    | refine tq_e ?_
    | refine AW.exit ?_
    | refine AW.skip ?_
    | refine useK (by assumption) ?_
    | (refine AW.tok 9 1 ?_; refine AW.loopS (α := { i : Nat // i ≤ l.length }) 20 (fun i => [(3, .sl ((l.take i.1).map fun t => V.str t.text) (some st.length)), (6, .sl (l.map encK) none), (7, .int .i64 l.length), (8, .int .i64 (i.1 : Nat))]) (fun i => st ++ [.tok 9 1 ((l.take i.1).map fun t => V.str t.text).length]) (fun i => l.length - i.1) ⟨0, Nat.zero_le _⟩ rfl ?_ ?_ ?_; (focus (simp (disch := omega) only [go_sem, ↓reduceIte, Nat.reduceEqDiff, Nat.reduceAdd, Nat.reduceLeDiff, Nat.reduceMul, Nat.reduceSub, Nat.reduceLT, List.take_zero, List.map_nil, List.length_nil]; done)); (focus (simp (disch := omega) only [go_sem, ↓reduceIte, Nat.reduceEqDiff, Nat.reduceAdd, Nat.reduceLeDiff, Nat.reduceMul, Nat.reduceSub, Nat.reduceLT, List.take_zero, List.map_nil, List.length_nil]; done)); rintro ⟨i, hi⟩ hlc; dsimp only; have hnl : (l.take i).length ≤ 65537 := by (rw [List.length_take]; omega))
    | (refine ⟨⟨i + 1, by omega⟩, by simp only []; omega, _, Nat.le_refl _, Nat.le_of_ble_eq_true rfl, ?_, ?_⟩ <;> (simp (disch := omega) only [go_sem, ↓reduceIte, Nat.reduceEqDiff, Nat.reduceAdd, Nat.reduceLeDiff, Nat.reduceMul, Nat.reduceSub, Nat.reduceLT, take_at, List.map_cons, List.map_nil, List.length_append, List.length_cons, List.length_nil, List.length_append, hlc.trim, hlc.trim_append, trimS_app hst]))
    | (refine AW.ret ?_; show (_ ∨ _) ∧ _; refine ⟨.inr rfl, ?_⟩; show resP _ _ _ [.tmp 2] _; simp (disch := omega) only [go_sem, ↓reduceIte, Nat.reduceEqDiff, Nat.reduceAdd, Nat.reduceLeDiff, Nat.reduceMul, Nat.reduceSub, Nat.reduceLT]; refine ⟨_, _, _, Nat.le_refl _, V.le_refl _ _, StLe.refl _, ?_⟩; (try simp (disch := omega) only [go_sem, ↓reduceIte, Nat.reduceEqDiff, Nat.reduceAdd, Nat.reduceLeDiff, Nat.reduceMul, Nat.reduceSub, Nat.reduceLT, hst.trim, hst.trim_append]))
end Tryd
end Go.Proofs
