/-
  Walks of law 18.
-/
import Derived.Test.YtmjngcfigfkafaaDoorSLib
import Derived.Test.YtmjngcfigfkafaaDoorSFacts
import Derived.Test.YtmjngcfigfkafaaDoorDAwake
import Derived.Test.YtmjngcfigfkafaaDoorDApart
import Derived.Test.YtmjngcfigfkafaaDoorDBund
import Derived.Test.YtmjngcfigfkafaaDoorDS
import Derived.Test.YtmjngcfigfkafaaDoorSW9
import Derived.Test.YtmjngcfigfkafaaDoorSX2
set_option linter.all false
namespace Go.Proofs
open Go Go.Duo
namespace Tryd
attribute [local go_sem] PB
attribute [local irreducible] awL awA AW
set_option maxRecDepth 100000 in
set_option maxHeartbeats 8000000 in
theorem apart_spec (l : List Th) (st : List O) : Duo.Call Tryd.prog Tryd.gl 7 [.sl (l.map encTh) none] st (fun v st' => v = .bool true ∧ st' = st) := by
  refine Duo.Call.clo fun hst => ?_
  refine Duo.Call.real fun hr => ?_
  refine Duo.Call.body 174 [(0, .sl (l.map encTh) none)] Tryd.func7 rfl rfl ?_
  repeat' first
    | refine AW.seqK fun K hK => ?_
    | (refine hK _ _ ?_; clear hK K)
    | refine AW.region ?_
    | refine AW.any (id := 12) mix 27 (by decide +kernel) ?_
    | refine AW.any (id := 17) mix 47 (by decide +kernel) ?_
    | refine AW.any (id := 19) mix 52 (by decide +kernel) ?_
    | refine awL_call rfl (by first | exact ent16 | exact ent17 | exact ent19 | exact ent22 | exact ent31) (by simp only [go_sem, ↓reduceIte, Nat.reduceEqDiff, Nat.reduceAdd, Nat.reduceLeDiff, Nat.reduceMul, Nat.reduceSub, Nat.reduceLT, encR_cells, encD_cells, encD_inj, turnF1, turnF2]; rfl) (by first | exact awake_spec _ | exact threads_spec _ (by omega) _ | exact plist_spec (l.map threadL) .nil rowOK.nil (by simp only [List.length_map]; omega) (hasT l) (chanT l) _ | exact pclash_spec (l.map threadL) .nil rowOK.nil (by simp only [List.length_map]; omega) (hasT l) (chanT l) _ | exact twice_spec _ _) rfl ?_
    | refine awA_nil (by simp only [applyUps, List.nil_append, List.cons_append, S0, S2]; rfl) ?_
    | refine awL_nil ?_
    | (refine awL_gno rfl ?_ rfl ?_; focus (simp only [S0, ↓reduceIte, Nat.reduceEqDiff, Bool.not_true, Bool.not_false]; done))
    | (refine awL_gyes rfl ?_ ?_; focus (simp only [S0, ↓reduceIte, Nat.reduceEqDiff, Bool.not_true, Bool.not_false]; done))
    | refine awL_hole rfl rfl rfl rfl ?_
    | (refine awL_gcase rfl rfl (fun hg => ?_) (fun hg => ?_) <;> (rw [hg]; (try simp only [Bool.false_eq_true, Bool.true_eq_false, decide_eq_true_eq, decide_eq_false_iff_not, Bool.not_eq_true, Bool.not_eq_false, Bool.not_eq_true', Bool.not_eq_false', Int.not_lt, Int.not_le, ne_eq, Decidable.not_not, List.length_map, Bool.and_eq_true, Bool.or_eq_true, Bool.and_eq_false_imp, Int.ofNat_lt, Int.ofNat_le] at hg); try (exfalso; omega)))
    | refine awL_S1 rfl rfl (by simp (disch := omega) only [go_sem, ↓reduceIte, Nat.reduceEqDiff, Nat.reduceAdd, Nat.reduceLeDiff, Nat.reduceMul, Nat.reduceSub, Nat.reduceLT, encR_cells, encD_cells, encD_inj, turnF1, turnF2]; rfl) ?_
    | refine awA_call rfl (by first | exact ent16 | exact ent17 | exact ent19 | exact ent22 | exact ent31) (by simp only [go_sem, ↓reduceIte, Nat.reduceEqDiff, Nat.reduceAdd, Nat.reduceLeDiff, Nat.reduceMul, Nat.reduceSub, Nat.reduceLT, encR_cells, encD_cells, encD_inj, turnF1, turnF2]; rfl) (by first | exact awake_spec _ | exact threads_spec _ (by omega) _ | exact plist_spec (l.map threadL) .nil rowOK.nil (by simp only [List.length_map]; omega) (hasT l) (chanT l) _ | exact pclash_spec (l.map threadL) .nil rowOK.nil (by simp only [List.length_map]; omega) (hasT l) (chanT l) _ | exact twice_spec _ _) rfl ?_
    | (refine awA_gno rfl ?_ rfl ?_; focus (simp only [S0, ↓reduceIte, Nat.reduceEqDiff, Bool.not_true, Bool.not_false]; done))
    | (refine awA_gyes rfl ?_ ?_; focus (simp only [S0, ↓reduceIte, Nat.reduceEqDiff, Bool.not_true, Bool.not_false]; done))
    | refine awA_hole rfl rfl rfl rfl ?_
    | (refine awA_gcase rfl rfl (fun hg => ?_) (fun hg => ?_) <;> (rw [hg]; (try simp only [Bool.false_eq_true, Bool.true_eq_false, decide_eq_true_eq, decide_eq_false_iff_not, Bool.not_eq_true, Bool.not_eq_false, Bool.not_eq_true', Bool.not_eq_false', Int.not_lt, Int.not_le, ne_eq, Decidable.not_not, List.length_map, Bool.and_eq_true, Bool.or_eq_true, Bool.and_eq_false_imp, Int.ofNat_lt, Int.ofNat_le] at hg); try (exfalso; omega)))
    | refine awA_S1 rfl rfl (by simp (disch := omega) only [go_sem, ↓reduceIte, Nat.reduceEqDiff, Nat.reduceAdd, Nat.reduceLeDiff, Nat.reduceMul, Nat.reduceSub, Nat.reduceLT, encR_cells, encD_cells, encD_inj, turnF1, turnF2]; rfl) ?_
    | (refine AW.condK _ rfl (fun hb => ?_) (fun hb => ?_) <;> (try simp only [Bool.false_eq_true, Bool.true_eq_false, decide_eq_true_eq, decide_eq_false_iff_not, Bool.not_eq_true, Bool.not_eq_false, Bool.not_eq_true', Bool.not_eq_false', Int.not_lt, Int.not_le, ne_eq, Decidable.not_not, List.length_map, Bool.and_eq_true, Bool.or_eq_true, Bool.and_eq_false_imp, Int.ofNat_lt, Int.ofNat_le] at hb) <;> try (exfalso; omega))
    | refine AW.block ?_
    | refine bq_s ?_
    | refine bq_o rfl ?_
    | refine tq_e ?_
    | refine AW.exit ?_
    | refine AW.skip ?_
    | refine useK (by assumption) ?_
    | (refine AW.loopS (α := { i : Nat // i ≤ (listL (l.map threadL)).length }) 174 (fun i => [(0, .sl (l.map encTh) none), (4, .sl ((listL (l.map threadL)).map encR) none), (5, .sl ((clashL (l.map threadL)).map encD) none), (6, .int .i64 (i.1 : Nat))]) (fun i => st ++ [.box 45 [.sl ((l.map threadL).map encP) none, .nil]]) (fun i => (listL (l.map threadL)).length - i.1) ⟨0, Nat.zero_le _⟩ rfl ?_ ?_ ?_; (focus (simp (disch := omega) only [go_sem, ↓reduceIte, Nat.reduceEqDiff, Nat.reduceAdd, Nat.reduceLeDiff, Nat.reduceMul, Nat.reduceSub, Nat.reduceLT]; done)); (focus (simp (disch := omega) only [go_sem, ↓reduceIte, Nat.reduceEqDiff, Nat.reduceAdd, Nat.reduceLeDiff, Nat.reduceMul, Nat.reduceSub, Nat.reduceLT]; done)); rintro ⟨i, hi⟩ hlc; dsimp only; have hq1 := listL_len (l := l.map threadL) (by simp only [List.length_map]; omega); have hq2 := clashL_len (l := l.map threadL) (by simp only [List.length_map]; omega))
    | (refine ⟨⟨i + 1, by omega⟩, by simp only []; omega, _, Nat.le_refl _, Nat.le_of_ble_eq_true rfl, ?_, ?_⟩ <;> (simp (disch := omega) only [go_sem, ↓reduceIte, Nat.reduceEqDiff, Nat.reduceAdd, Nat.reduceLeDiff, Nat.reduceMul, Nat.reduceSub, Nat.reduceLT, List.length_append, hlc.trim, hlc.trim_append, trimS_app hst]))
    | (refine AW.loopS (α := { k : Nat // k ≤ (clashL (l.map threadL)).length }) 174 (fun k => [(0, .sl (l.map encTh) none), (4, .sl ((listL (l.map threadL)).map encR) none), (5, .sl ((clashL (l.map threadL)).map encD) none), (6, .int .i64 (i : Nat)), (7, .int .i64 (k.1 : Nat))]) (fun k => st ++ [.box 45 [.sl ((l.map threadL).map encP) none, .nil]]) (fun k => (clashL (l.map threadL)).length - k.1) ⟨0, Nat.zero_le _⟩ rfl ?_ ?_ ?_; (focus (simp (disch := omega) only [go_sem, ↓reduceIte, Nat.reduceEqDiff, Nat.reduceAdd, Nat.reduceLeDiff, Nat.reduceMul, Nat.reduceSub, Nat.reduceLT]; done)); (focus (simp (disch := omega) only [go_sem, ↓reduceIte, Nat.reduceEqDiff, Nat.reduceAdd, Nat.reduceLeDiff, Nat.reduceMul, Nat.reduceSub, Nat.reduceLT]; done)); rintro ⟨k, hk⟩ hlc; dsimp only)
    | (refine ⟨⟨k + 1, by omega⟩, by simp only []; omega, _, Nat.le_refl _, Nat.le_of_ble_eq_true rfl, ?_, ?_⟩ <;> (simp (disch := omega) only [go_sem, ↓reduceIte, Nat.reduceEqDiff, Nat.reduceAdd, Nat.reduceLeDiff, Nat.reduceMul, Nat.reduceSub, Nat.reduceLT, List.length_append, hlc.trim, hlc.trim_append, trimS_app hst]))
    | (refine AW.loopS (α := { k : Nat // k ≤ i }) 174 (fun k => [(0, .sl (l.map encTh) none), (4, .sl ((listL (l.map threadL)).map encR) none), (5, .sl ((clashL (l.map threadL)).map encD) none), (6, .int .i64 (i : Nat)), (8, .int .i64 (k.1 : Nat))]) (fun k => st ++ [.box 45 [.sl ((l.map threadL).map encP) none, .nil]]) (fun k => i - k.1) ⟨0, Nat.zero_le _⟩ rfl ?_ ?_ ?_; (focus (simp (disch := omega) only [go_sem, ↓reduceIte, Nat.reduceEqDiff, Nat.reduceAdd, Nat.reduceLeDiff, Nat.reduceMul, Nat.reduceSub, Nat.reduceLT]; done)); (focus (simp (disch := omega) only [go_sem, ↓reduceIte, Nat.reduceEqDiff, Nat.reduceAdd, Nat.reduceLeDiff, Nat.reduceMul, Nat.reduceSub, Nat.reduceLT]; done)); rintro ⟨k, hk⟩ hlc; dsimp only)
    | (refine ⟨⟨k + 1, by omega⟩, by simp only []; omega, _, Nat.le_refl _, Nat.le_of_ble_eq_true rfl, ?_, ?_⟩ <;> (simp (disch := omega) only [go_sem, ↓reduceIte, Nat.reduceEqDiff, Nat.reduceAdd, Nat.reduceLeDiff, Nat.reduceMul, Nat.reduceSub, Nat.reduceLT, List.length_append, hlc.trim, hlc.trim_append, trimS_app hst]))
    | (refine AW.ret ?_; show (_ ∨ _) ∧ _; refine ⟨.inr rfl, ?_⟩; show resP _ _ _ [.tmp 2] _; simp (disch := omega) only [go_sem, ↓reduceIte, Nat.reduceEqDiff, Nat.reduceAdd, Nat.reduceLeDiff, Nat.reduceMul, Nat.reduceSub, Nat.reduceLT, encR_cells, encD_cells, encD_inj, turnF1, turnF2]; refine ⟨_, _, _, Nat.le_refl _, V.le_refl _ _, StLe.refl _, ?_⟩; simp (disch := omega) only [go_sem, ↓reduceIte, Nat.reduceEqDiff, Nat.reduceAdd, Nat.reduceLeDiff, Nat.reduceMul, Nat.reduceSub, Nat.reduceLT, encR_cells, encD_cells, encD_inj, turnF1, turnF2, hst.trim, hst.trim_append])
  all_goals exfalso
  · refine apart_clash (l := l.map threadL) (i := i) (k := k) (by assumption) (by assumption) ?_
    obtain ⟨h1, h2⟩ := hb
    refine Prod.ext (h1.trans ?_) (h2.trans ?_) <;> (dsimp only; split <;> omega)
  all_goals
    have h1 := apart_pairs (l := l.map threadL) (i := i) (k := k) (by omega) (by omega)
    have h2 := fun h => apart_once (l := l) h (i := i) (k := k) (by omega) (by omega)
    simp_all
end Tryd
end Go.Proofs
