/-
  Walks of law 18.
-/
import Derived.Test.YtmjngcfigfkafaaDoorSLib
import Derived.Test.YtmjngcfigfkafaaDoorSFacts
import Derived.Test.YtmjngcfigfkafaaDoorDAwake
import Derived.Test.YtmjngcfigfkafaaDoorDTurns
import Derived.Test.YtmjngcfigfkafaaDoorDPB
import Derived.Test.YtmjngcfigfkafaaDoorSW9
import Derived.Test.YtmjngcfigfkafaaDoorSX2
set_option linter.all false
namespace Go.Proofs
open Go Go.Duo
namespace Tryd
attribute [local irreducible] awL awA AW
set_option maxRecDepth 100000 in
set_option maxHeartbeats 8000000 in
theorem turns_spec (l : List Th) (st : List O) : Duo.Call Tryd.prog Tryd.gl 8 [.sl (l.map encTh) none] st (fun v st' => v = .bool true ∧ st' = st) := by
  refine Duo.Call.clo fun hst => ?_
  refine Duo.Call.real fun hr => ?_
  have hrv := listL_rev_len (l.map threadL)
  have hcv := clashL_rev_len (l.map threadL)
  have hwv := waitL_rev_len (l.map threadL)
  refine Duo.Call.body 117 [(0, .sl (l.map encTh) none)] Tryd.func8 rfl rfl ?_
  repeat' first
    | refine AW.seqK fun K hK => ?_
    | (refine hK _ _ ?_; clear hK K)
    | refine AW.region ?_
    | refine AW.any (id := 22) mix 35 (by decide +kernel) ?_
    | refine AW.any (id := 25) mix 14 (by decide +kernel) ?_
    | refine awL_call rfl (by first | exact ent16 | exact ent17 | exact ent19 | exact ent22 | exact ent25) (by simp only [go_sem, ↓reduceIte, Nat.reduceEqDiff, Nat.reduceAdd, Nat.reduceLeDiff, Nat.reduceMul, Nat.reduceSub, Nat.reduceLT, encR_cells, encR_inj, List.length_reverse, toNat_sub11]; rfl) (by first | exact awake_spec _ | exact threads_spec _ (by omega) _ | exact plist_spec (l.map threadL) .nil rowOK.nil (by simp only [List.length_reverse, List.length_map]; omega) (hasT l) (chanT l) _ | exact pclash_spec (l.map threadL) .nil rowOK.nil (by simp only [List.length_reverse, List.length_map]; omega) (hasT l) (chanT l) _ | exact pwait_spec (l.map threadL) .nil rowOK.nil (by simp only [List.length_reverse, List.length_map]; omega) (hasT l) (chanT l) _ | exact Duo.Call.argle (bs := [.agg [.sl (((l.map threadL).reverse).map encP) none, .nil]]) (show CLe _ [_] [_] from ⟨le_agg2 _ _ _ _, trivial⟩) (plist_spec ((l.map threadL).reverse) .nil rowOK.nil (by simp only [List.length_reverse, List.length_map]; omega) (hasR l) (chanR l) _) | exact Duo.Call.argle (bs := [.agg [.sl (((l.map threadL).reverse).map encP) none, .nil]]) (show CLe _ [_] [_] from ⟨le_agg2 _ _ _ _, trivial⟩) (pclash_spec ((l.map threadL).reverse) .nil rowOK.nil (by simp only [List.length_reverse, List.length_map]; omega) (hasR l) (chanR l) _) | exact Duo.Call.argle (bs := [.agg [.sl (((l.map threadL).reverse).map encP) none, .nil]]) (show CLe _ [_] [_] from ⟨le_agg2 _ _ _ _, trivial⟩) (pwait_spec ((l.map threadL).reverse) .nil rowOK.nil (by simp only [List.length_reverse, List.length_map]; omega) (hasR l) (chanR l) _)) rfl ?_
    | refine awA_nil (by simp only [applyUps, List.nil_append, List.cons_append, S0, S2]; rfl) ?_
    | refine awL_nil ?_
    | (rcases Nat.eq_or_lt_of_le hj with rfl | hlt; rotate_left; focus (exfalso; omega))
    | (refine awL_gno rfl ?_ rfl ?_; focus (simp only [S0, ↓reduceIte, Nat.reduceEqDiff, Bool.not_true, Bool.not_false]; done))
    | (refine awL_gyes rfl ?_ ?_; focus (simp only [S0, ↓reduceIte, Nat.reduceEqDiff, Bool.not_true, Bool.not_false]; done))
    | refine awL_hole rfl rfl rfl rfl ?_
    | (refine awL_gcase rfl rfl (fun hg => ?_) (fun hg => ?_) <;> (rw [hg]; (try simp only [not_true_eq_false, not_false_eq_true, Bool.false_eq_true, Bool.true_eq_false, decide_eq_true_eq, decide_eq_false_iff_not, Bool.not_eq_true, Bool.not_eq_false, Bool.not_eq_true', Bool.not_eq_false', Int.not_lt, Int.not_le, ne_eq, Decidable.not_not, List.length_map, Bool.and_eq_true, Bool.or_eq_true, Bool.and_eq_false_imp, Int.ofNat_lt, Int.ofNat_le] at hg); try (exfalso; omega)))
    | refine awL_S1 rfl rfl (by simp (disch := first | omega | (simp only [List.length_drop, List.length_map]; omega)) only [go_sem, ↓reduceIte, Nat.reduceEqDiff, Nat.reduceAdd, Nat.reduceLeDiff, Nat.reduceMul, Nat.reduceSub, Nat.reduceLT, encR_cells, encR_inj, List.length_reverse, toNat_sub11]; rfl) ?_
    | refine awA_call rfl (by first | exact ent16 | exact ent17 | exact ent19 | exact ent22 | exact ent25) (by simp only [go_sem, ↓reduceIte, Nat.reduceEqDiff, Nat.reduceAdd, Nat.reduceLeDiff, Nat.reduceMul, Nat.reduceSub, Nat.reduceLT, encR_cells, encR_inj, List.length_reverse, toNat_sub11]; rfl) (by first | exact awake_spec _ | exact threads_spec _ (by omega) _ | exact plist_spec (l.map threadL) .nil rowOK.nil (by simp only [List.length_reverse, List.length_map]; omega) (hasT l) (chanT l) _ | exact pclash_spec (l.map threadL) .nil rowOK.nil (by simp only [List.length_reverse, List.length_map]; omega) (hasT l) (chanT l) _ | exact pwait_spec (l.map threadL) .nil rowOK.nil (by simp only [List.length_reverse, List.length_map]; omega) (hasT l) (chanT l) _ | exact Duo.Call.argle (bs := [.agg [.sl (((l.map threadL).reverse).map encP) none, .nil]]) (show CLe _ [_] [_] from ⟨le_agg2 _ _ _ _, trivial⟩) (plist_spec ((l.map threadL).reverse) .nil rowOK.nil (by simp only [List.length_reverse, List.length_map]; omega) (hasR l) (chanR l) _) | exact Duo.Call.argle (bs := [.agg [.sl (((l.map threadL).reverse).map encP) none, .nil]]) (show CLe _ [_] [_] from ⟨le_agg2 _ _ _ _, trivial⟩) (pclash_spec ((l.map threadL).reverse) .nil rowOK.nil (by simp only [List.length_reverse, List.length_map]; omega) (hasR l) (chanR l) _) | exact Duo.Call.argle (bs := [.agg [.sl (((l.map threadL).reverse).map encP) none, .nil]]) (show CLe _ [_] [_] from ⟨le_agg2 _ _ _ _, trivial⟩) (pwait_spec ((l.map threadL).reverse) .nil rowOK.nil (by simp only [List.length_reverse, List.length_map]; omega) (hasR l) (chanR l) _)) rfl ?_
    | (refine awA_gno rfl ?_ rfl ?_; focus (simp only [S0, ↓reduceIte, Nat.reduceEqDiff, Bool.not_true, Bool.not_false]; done))
    | (refine awA_gyes rfl ?_ ?_; focus (simp only [S0, ↓reduceIte, Nat.reduceEqDiff, Bool.not_true, Bool.not_false]; done))
    | refine awA_hole rfl rfl rfl rfl ?_
    | (refine awA_gcase rfl rfl (fun hg => ?_) (fun hg => ?_) <;> (rw [hg]; (try simp only [not_true_eq_false, not_false_eq_true, Bool.false_eq_true, Bool.true_eq_false, decide_eq_true_eq, decide_eq_false_iff_not, Bool.not_eq_true, Bool.not_eq_false, Bool.not_eq_true', Bool.not_eq_false', Int.not_lt, Int.not_le, ne_eq, Decidable.not_not, List.length_map, Bool.and_eq_true, Bool.or_eq_true, Bool.and_eq_false_imp, Int.ofNat_lt, Int.ofNat_le] at hg); try (exfalso; omega)))
    | refine awA_S1 rfl rfl (by simp (disch := first | omega | (simp only [List.length_drop, List.length_map]; omega)) only [go_sem, ↓reduceIte, Nat.reduceEqDiff, Nat.reduceAdd, Nat.reduceLeDiff, Nat.reduceMul, Nat.reduceSub, Nat.reduceLT, encR_cells, encR_inj, List.length_reverse, toNat_sub11]; rfl) ?_
    | (refine AW.condK _ rfl (fun hb => ?_) (fun hb => ?_) <;> (try simp only [not_true_eq_false, not_false_eq_true, Bool.false_eq_true, Bool.true_eq_false, decide_eq_true_eq, decide_eq_false_iff_not, Bool.not_eq_true, Bool.not_eq_false, Bool.not_eq_true', Bool.not_eq_false', Int.not_lt, Int.not_le, ne_eq, Decidable.not_not, List.length_map, Bool.and_eq_true, Bool.or_eq_true, Bool.and_eq_false_imp, Int.ofNat_lt, Int.ofNat_le] at hb) <;> try (exfalso; omega))
    | refine AW.block ?_
    | refine bq_s ?_
    | refine bq_o rfl ?_
    | refine tq_e ?_
    | refine AW.exit ?_
    | refine AW.skip ?_
    | refine useK (by assumption) ?_
    | (refine AW.tok 29 12 ?_; refine AW.loopS (α := { j : Nat // j ≤ l.length }) 117 (fun j => [(3, .sl ((l.map threadL).map encP) none), (4, .sl ((((l.map threadL).drop (l.length - j.1)).reverse).map encP) (some st.length)), (5, .int .i64 ((l.length : Int) - 1 - (j.1 : Nat)))]) (fun j => st ++ [.tok 29 12 (((l.map threadL).drop (l.length - j.1)).reverse).length]) (fun j => l.length - j.1) ⟨0, Nat.zero_le _⟩ rfl ?_ ?_ ?_; (focus (simp (disch := omega) only [go_sem, ↓reduceIte, Nat.reduceEqDiff, Nat.reduceAdd, Nat.reduceLeDiff, Nat.reduceMul, Nat.reduceSub, Nat.reduceLT, Nat.sub_zero, drop_all, List.reverse_nil, Int.sub_zero]; done)); (focus (simp (disch := omega) only [go_sem, ↓reduceIte, Nat.reduceEqDiff, Nat.reduceAdd, Nat.reduceLeDiff, Nat.reduceMul, Nat.reduceSub, Nat.reduceLT, Nat.sub_zero, drop_all, List.reverse_nil, Int.sub_zero]; done)); rintro ⟨j, hj⟩ hlc; dsimp only)
    | (have hp := rev_step (l := l.map threadL) (n := l.length) (j := j) (by simp only [List.length_map]) (by omega); refine ⟨⟨j + 1, by omega⟩, by simp only []; omega, _, Nat.le_refl _, Nat.le_of_ble_eq_true rfl, ?_, ?_⟩ <;> (simp (disch := omega) only [go_sem, ↓reduceIte, Nat.reduceEqDiff, Nat.reduceAdd, Nat.reduceLeDiff, Nat.reduceMul, Nat.reduceSub, Nat.reduceLT, turn_sub, List.length_reverse, hp, List.length_append, hlc.trim, hlc.trim_append, trimS_app hst]))
    | (refine AW.loopS (α := { i : Nat // i ≤ (listL (l.map threadL)).length }) 117 (fun i => [(3, .sl ((l.map threadL).map encP) none), (6, .ptr (st.length + 1) 0), (7, .ptr (st.length + 2) 0), (8, .sl ((listL (l.map threadL)).map encR) none), (9, .sl ((listL ((l.map threadL).reverse)).map encR) none), (10, .int .i64 (i.1 : Nat))]) (fun i => st ++ [.tok 29 12 l.length, .box 45 [.sl ((l.map threadL).map encP) none, .nil], .box 45 [.sl (((l.map threadL).reverse).map encP) (some st.length), .nil]]) (fun i => (listL (l.map threadL)).length - i.1) ⟨0, Nat.zero_le _⟩ rfl ?_ ?_ ?_; (focus (simp (disch := omega) only [go_sem, ↓reduceIte, Nat.reduceEqDiff, Nat.reduceAdd, Nat.reduceLeDiff, Nat.reduceMul, Nat.reduceSub, Nat.reduceLT]; done)); (focus (simp (disch := omega) only [go_sem, ↓reduceIte, Nat.reduceEqDiff, Nat.reduceAdd, Nat.reduceLeDiff, Nat.reduceMul, Nat.reduceSub, Nat.reduceLT]; done)); rintro ⟨i, hi⟩ hlc; dsimp only; have hq1 := listL_len (l := l.map threadL) (by simp only [List.length_map]; omega))
    | (refine ⟨⟨i + 1, by omega⟩, by simp only []; omega, _, Nat.le_refl _, Nat.le_of_ble_eq_true rfl, ?_, ?_⟩ <;> (simp (disch := omega) only [go_sem, ↓reduceIte, Nat.reduceEqDiff, Nat.reduceAdd, Nat.reduceLeDiff, Nat.reduceMul, Nat.reduceSub, Nat.reduceLT, List.length_append, hlc.trim, hlc.trim_append, trimS_app hst]))
    | (refine AW.loopS (α := { k : Nat // k ≤ (listL ((l.map threadL).reverse)).length }) 117 (fun k => [(3, .sl ((l.map threadL).map encP) none), (6, .ptr (st.length + 1) 0), (7, .ptr (st.length + 2) 0), (8, .sl ((listL (l.map threadL)).map encR) none), (9, .sl ((listL ((l.map threadL).reverse)).map encR) none), (10, .int .i64 (i : Nat)), (11, .bool (decide (flipR l.length ((listL (l.map threadL))[i]) ∈ (listL ((l.map threadL).reverse)).take k.1))), (12, .int .i64 (k.1 : Nat))]) (fun k => st ++ [.tok 29 12 l.length, .box 45 [.sl ((l.map threadL).map encP) none, .nil], .box 45 [.sl (((l.map threadL).reverse).map encP) (some st.length), .nil]]) (fun k => (listL ((l.map threadL).reverse)).length - k.1) ⟨0, Nat.zero_le _⟩ rfl ?_ ?_ ?_; (focus (simp (disch := omega) only [go_sem, ↓reduceIte, Nat.reduceEqDiff, Nat.reduceAdd, Nat.reduceLeDiff, Nat.reduceMul, Nat.reduceSub, Nat.reduceLT, List.take_zero, List.not_mem_nil]; done)); (focus (simp (disch := omega) only [go_sem, ↓reduceIte, Nat.reduceEqDiff, Nat.reduceAdd, Nat.reduceLeDiff, Nat.reduceMul, Nat.reduceSub, Nat.reduceLT, List.take_zero, List.not_mem_nil]; done)); rintro ⟨k, hk⟩ hlc; dsimp only; have hbd := listL_bnd (l := l) (k := i) (by assumption))
    | (have hp := found_yes (k := k) (by assumption); refine ⟨⟨k + 1, by omega⟩, by simp only []; omega, _, Nat.le_refl _, Nat.le_of_ble_eq_true rfl, ?_, ?_⟩ <;> (simp (disch := omega) only [go_sem, ↓reduceIte, Nat.reduceEqDiff, Nat.reduceAdd, Nat.reduceLeDiff, Nat.reduceMul, Nat.reduceSub, Nat.reduceLT, hp, List.length_append, hlc.trim, hlc.trim_append, trimS_app hst]; done))
    | (have hp := found_no (k := k) (n := l.length) (by assumption) (by assumption); refine ⟨⟨k + 1, by omega⟩, by simp only []; omega, _, Nat.le_refl _, Nat.le_of_ble_eq_true rfl, ?_, ?_⟩ <;> (simp (disch := omega) only [go_sem, ↓reduceIte, Nat.reduceEqDiff, Nat.reduceAdd, Nat.reduceLeDiff, Nat.reduceMul, Nat.reduceSub, Nat.reduceLT, hp, List.length_append, hlc.trim, hlc.trim_append, trimS_app hst]))
    | (refine AW.ret ?_; show (_ ∨ _) ∧ _; refine ⟨.inr rfl, ?_⟩; show resP _ _ _ [.tmp 2] _; simp (disch := first | omega | (simp only [List.length_drop, List.length_map]; omega)) only [go_sem, ↓reduceIte, Nat.reduceEqDiff, Nat.reduceAdd, Nat.reduceLeDiff, Nat.reduceMul, Nat.reduceSub, Nat.reduceLT, encR_cells, encR_inj, List.length_reverse, toNat_sub11]; refine ⟨_, _, _, Nat.le_refl _, V.le_refl _ _, StLe.refl _, ?_⟩; simp (disch := omega) only [go_sem, ↓reduceIte, Nat.reduceEqDiff, Nat.reduceAdd, Nat.reduceLeDiff, Nat.reduceMul, Nat.reduceSub, Nat.reduceLT, encR_cells, encR_inj, List.length_reverse, toNat_sub11, hst.trim, hst.trim_append])
  · exact absurd (found_all (by assumption) (by assumption)) (by assumption)
  · rw [hwv]; simp
end Tryd
end Go.Proofs
