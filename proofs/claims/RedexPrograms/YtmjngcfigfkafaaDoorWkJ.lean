/-
  A part of the proof.
-/
import Derived.Test.YtmjngcfigfkafaaDoorLib
import Derived.Test.YtmjngcfigfkafaaDoorSW3
import Derived.Test.YtmjngcfigfkafaaDoorDat2
import Derived.Test.YtmjngcfigfkafaaDoorWkFacts
import Derived.Test.YtmjngcfigfkafaaDoorDS3
import Derived.Test.YtmjngcfigfkafaaDoorDLate3
import Derived.Test.YtmjngcfigfkafaaDoorWkG
set_option linter.all false
namespace Go.Proofs
open Go Go.Duo
namespace Tryd
attribute [local irreducible] awL awA awT AW
set_option maxRecDepth 100000 in
set_option maxHeartbeats 8000000 in
theorem check_spec (p : Pg) (hp : okPg p) (hs : smPg p) (st : List O) : Duo.Call Tryd.prog Tryd.gl 50 [encPg p] st (fun v st' => v = .tuple [.int .i64 (checkL p).1, .int .i64 (checkL p).2] ∧ st' = st) := by
  refine Duo.Call.clo fun hst => ?_
  have hl := hs.len
  have hm := hs.main
  have hfl := findI_lt p.defs
  have hmd := Pr.dp_le p.main
  refine Duo.Call.body 114 [(0, encPg p)] Tryd.func50 rfl rfl ?_
  repeat' first
    | refine AW.seqK fun K hK => ?_
    | (refine hK _ _ ?_; clear hK K)
    | refine AW.region ?_
    | refine AW.any (id := 16) mix 12 (by decide +kernel) ?_
    | refine AW.any (id := 26) mix 8 (by decide +kernel) ?_
    | refine AW.any (id := 29) mix 8 (by decide +kernel) ?_
    | refine awL_call rfl (by first | exact ent75 | exact ent76 | exact ent77) (by simp only [go_sem, ↓reduceIte, Nat.reduceEqDiff, Nat.reduceAdd, Nat.reduceLeDiff, Nat.reduceMul, Nat.reduceSub, Nat.reduceLT, List.length_map]; rfl) (by first | exact progE_spec p hp hs _ | exact find_spec p _ (by omega) _ | exact Duo.Call.argle (by repeat' (first | exact trivial | exact V.le_refl _ _ | exact V.le_sl _ _ _ | exact V.le_nil _ | (refine V.leS ?_; simp only [List.map_append, List.map_cons, List.map_nil]; done) | (refine V.le_aggL ?_) | refine ⟨?_, ?_⟩)) (nodeC_spec p (by omega) (p.defs[i2]).body (((p.defs[i2]).params.take k2).map Pm.name) false hu.2.1 (by omega) (by rw [List.length_map]; omega) _) | exact Duo.Call.argle (by repeat' (first | exact trivial | exact V.le_refl _ _ | exact V.le_sl _ _ _ | exact V.le_nil _ | (refine V.leS ?_; simp only [List.map_append, List.map_cons, List.map_nil]; done) | (refine V.le_aggL ?_) | refine ⟨?_, ?_⟩)) (nodeC_spec p (by omega) p.main [] true hp.main (by omega) (by simp; omega) _)) rfl ?_
    | refine awA_nil (by simp only [applyUps, List.nil_append, List.cons_append, S0, S2]; rfl) ?_
    | refine awL_nil ?_
    | ((fail_if_success (clear hjq)); (rcases Nat.lt_or_ge i p.defs.length with hq | hq; rotate_left; focus (exfalso; omega)); have hjq : True := trivial; have hd := hs.defs _ (List.getElem_mem hq); have hw := hs.wz (List.getElem_mem hq); have hu := hp.defs _ (List.getElem_mem hq))
    | ((fail_if_success (clear hjq)); (rcases Nat.lt_or_ge i2 p.defs.length with hq | hq; rotate_left; focus (exfalso; omega)); have hjq : True := trivial; have hd := hs.defs _ (List.getElem_mem hq); have hw := hs.wz (List.getElem_mem hq); have hu := hp.defs _ (List.getElem_mem hq); have hbd := Pr.dp_le (p.defs[i2]).body)
    | ((fail_if_success (clear hjq2)); (rcases Nat.lt_or_ge k (p.defs[i]).params.length with hq | hq; rotate_left; focus (exfalso; omega)); have hjq2 : True := trivial; have hq2 := hq)
    | ((fail_if_success (clear hjq4)); (rcases Nat.lt_or_ge k2 (p.defs[i2]).params.length with hq | hq; rotate_left; focus (exfalso; omega)); have hjq4 : True := trivial; have hq4 := hq)
    | refine awL_S1 rfl rfl (by simp (disch := omega) only [go_sem, ↓reduceIte, Nat.reduceEqDiff, Nat.reduceAdd, Nat.reduceLeDiff, Nat.reduceMul, Nat.reduceSub, Nat.reduceLT, List.length_map]; rfl) ?_
    | refine awA_call rfl (by first | exact ent75 | exact ent76 | exact ent77) (by simp only [go_sem, ↓reduceIte, Nat.reduceEqDiff, Nat.reduceAdd, Nat.reduceLeDiff, Nat.reduceMul, Nat.reduceSub, Nat.reduceLT, List.length_map]; rfl) (by first | exact progE_spec p hp hs _ | exact find_spec p _ (by omega) _ | exact Duo.Call.argle (by repeat' (first | exact trivial | exact V.le_refl _ _ | exact V.le_sl _ _ _ | exact V.le_nil _ | (refine V.leS ?_; simp only [List.map_append, List.map_cons, List.map_nil]; done) | (refine V.le_aggL ?_) | refine ⟨?_, ?_⟩)) (nodeC_spec p (by omega) (p.defs[i2]).body (((p.defs[i2]).params.take k2).map Pm.name) false hu.2.1 (by omega) (by rw [List.length_map]; omega) _) | exact Duo.Call.argle (by repeat' (first | exact trivial | exact V.le_refl _ _ | exact V.le_sl _ _ _ | exact V.le_nil _ | (refine V.leS ?_; simp only [List.map_append, List.map_cons, List.map_nil]; done) | (refine V.le_aggL ?_) | refine ⟨?_, ?_⟩)) (nodeC_spec p (by omega) p.main [] true hp.main (by omega) (by simp; omega) _)) rfl ?_
    | refine awA_S1 rfl rfl (by simp (disch := omega) only [go_sem, ↓reduceIte, Nat.reduceEqDiff, Nat.reduceAdd, Nat.reduceLeDiff, Nat.reduceMul, Nat.reduceSub, Nat.reduceLT, List.length_map]; rfl) ?_
    | (refine AW.condK _ rfl (fun hb => ?_) (fun hb => ?_) <;> (try simp only [Int.ofNat_inj, not_true_eq_false, not_false_eq_true, Bool.false_eq_true, Bool.true_eq_false, decide_eq_true_eq, decide_eq_false_iff_not, Bool.not_eq_true, Bool.not_eq_false, Bool.not_eq_true', Bool.not_eq_false', Int.not_lt, Int.not_le, ne_eq, Decidable.not_not, List.length_map, Bool.and_eq_true, Bool.or_eq_true, Bool.and_eq_false_imp, Int.ofNat_lt, Int.ofNat_le] at hb) <;> try (exfalso; omega))
    | refine AW.block ?_
    | refine bq_s ?_
    | refine bq_o rfl ?_
    | refine tq_e ?_
    | refine AW.exit ?_
    | refine AW.skip ?_
    | refine useK (by assumption) ?_
    | (refine AW.loopS (α := { i : Nat // i ≤ p.defs.length ∧ ∀ j, j < i → dupD p j = false }) 114 (fun i => [(1, .ptr st.length 0), (5, .int .i64 (i.1 : Nat))]) (fun i => st ++ [.box 62 (encPg p).cells]) (fun i => p.defs.length - i.1) ⟨0, Nat.zero_le _, by intro j hj; omega⟩ rfl ?_ ?_ ?_; (focus (simp (disch := omega) only [go_sem, ↓reduceIte, Nat.reduceEqDiff, Nat.reduceAdd, Nat.reduceLeDiff, Nat.reduceMul, Nat.reduceSub, Nat.reduceLT]; done)); (focus (simp (disch := omega) only [go_sem, ↓reduceIte, Nat.reduceEqDiff, Nat.reduceAdd, Nat.reduceLeDiff, Nat.reduceMul, Nat.reduceSub, Nat.reduceLT]; done)); rintro ⟨i, hi, hpre⟩ hlc; dsimp only)
    | (refine ⟨⟨i + 1, by omega, fun j hj => by rcases Nat.lt_or_eq_of_le (Nat.le_of_lt_succ hj) with h | h; exact hpre j h; subst h; exact dup_no (by assumption) (by omega) (fun b hb a ha => hpre3 b hb (by omega) a ha)⟩, by simp only []; omega, _, Nat.le_refl _, Nat.le_of_ble_eq_true rfl, ?_, ?_⟩ <;> (simp (disch := omega) only [go_sem, ↓reduceIte, Nat.reduceEqDiff, Nat.reduceAdd, Nat.reduceLeDiff, Nat.reduceMul, Nat.reduceSub, Nat.reduceLT, List.length_append, hlc.trim, hlc.trim_append, trimS_app hst]))
    | (refine AW.loopS (α := { k : Nat // k ≤ (p.defs[i]).params.length ∧ ∀ (b : Nat) (hb : b < (p.defs[i]).params.length), b < k → ∀ (a : Nat) (ha : a < b), ¬ ((p.defs[i]).params[a]'(by omega)).name = (p.defs[i]).params[b].name }) 114 (fun k => [(1, .ptr st.length 0), (5, .int .i64 (i : Nat)), (6, .ptr (st.length + 1) 0), (7, .int .i64 (k.1 : Nat))]) (fun k => st ++ [.box 62 (encPg p).cells, .box 114 (encDf (p.defs[i])).cells]) (fun k => (p.defs[i]).params.length - k.1) ⟨0, Nat.zero_le _, by intro b hb hb2; omega⟩ rfl ?_ ?_ ?_; (focus (simp (disch := omega) only [go_sem, ↓reduceIte, Nat.reduceEqDiff, Nat.reduceAdd, Nat.reduceLeDiff, Nat.reduceMul, Nat.reduceSub, Nat.reduceLT]; done)); (focus (simp (disch := omega) only [go_sem, ↓reduceIte, Nat.reduceEqDiff, Nat.reduceAdd, Nat.reduceLeDiff, Nat.reduceMul, Nat.reduceSub, Nat.reduceLT]; done)); rintro ⟨k, hk, hpre3⟩ hlc; dsimp only)
    | (refine ⟨⟨k + 1, by omega, fun b hb hb2 => by rcases Nat.lt_or_eq_of_le (Nat.le_of_lt_succ hb2) with h | h; exact hpre3 b hb h; subst h; exact fun a ha => hpre4 a (by omega)⟩, by simp only []; omega, _, Nat.le_refl _, Nat.le_of_ble_eq_true rfl, ?_, ?_⟩ <;> (simp (disch := omega) only [go_sem, ↓reduceIte, Nat.reduceEqDiff, Nat.reduceAdd, Nat.reduceLeDiff, Nat.reduceMul, Nat.reduceSub, Nat.reduceLT, List.length_append, hlc.trim, hlc.trim_append, trimS_app hst]))
    | (refine AW.loopS (α := { j : Nat // ∃ hj : j ≤ k, ∀ (a : Nat) (ha : a < j), ¬ ((p.defs[i]).params[a]'(by omega)).name = (p.defs[i]).params[k].name }) 114 (fun j => [(1, .ptr st.length 0), (5, .int .i64 (i : Nat)), (6, .ptr (st.length + 1) 0), (7, .int .i64 (k : Nat)), (8, .int .i64 (j.1 : Nat))]) (fun j => st ++ [.box 62 (encPg p).cells, .box 114 (encDf (p.defs[i])).cells]) (fun j => k - j.1) ⟨0, Nat.zero_le _, by intro a ha; omega⟩ rfl ?_ ?_ ?_; (focus (simp (disch := omega) only [go_sem, ↓reduceIte, Nat.reduceEqDiff, Nat.reduceAdd, Nat.reduceLeDiff, Nat.reduceMul, Nat.reduceSub, Nat.reduceLT]; done)); (focus (simp (disch := omega) only [go_sem, ↓reduceIte, Nat.reduceEqDiff, Nat.reduceAdd, Nat.reduceLeDiff, Nat.reduceMul, Nat.reduceSub, Nat.reduceLT]; done)); rintro ⟨j, hj, hpre4⟩ hlc; dsimp only)
    | (refine ⟨⟨j + 1, by omega, fun a ha => by rcases Nat.lt_or_eq_of_le (Nat.le_of_lt_succ ha) with h | h; exact hpre4 a h; subst h; assumption⟩, by simp only []; omega, _, Nat.le_refl _, Nat.le_of_ble_eq_true rfl, ?_, ?_⟩ <;> (simp (disch := omega) only [go_sem, ↓reduceIte, Nat.reduceEqDiff, Nat.reduceAdd, Nat.reduceLeDiff, Nat.reduceMul, Nat.reduceSub, Nat.reduceLT, List.length_append, hlc.trim, hlc.trim_append, trimS_app hst]))
    | (refine AW.loopS (α := { i : Nat // i ≤ p.defs.length ∧ ∀ j, j < i → bodyE p j = 0 }) 114 (fun i => [(1, .ptr st.length 0), (9, .int .i64 (i.1 : Nat))]) (fun i => st ++ [.box 62 (encPg p).cells]) (fun i => p.defs.length - i.1) ⟨0, Nat.zero_le _, by intro j hj; omega⟩ rfl ?_ ?_ ?_; (focus (simp (disch := omega) only [go_sem, ↓reduceIte, Nat.reduceEqDiff, Nat.reduceAdd, Nat.reduceLeDiff, Nat.reduceMul, Nat.reduceSub, Nat.reduceLT]; done)); (focus (simp (disch := omega) only [go_sem, ↓reduceIte, Nat.reduceEqDiff, Nat.reduceAdd, Nat.reduceLeDiff, Nat.reduceMul, Nat.reduceSub, Nat.reduceLT]; done)); rintro ⟨i2, hi2, hpre2⟩ hlc; dsimp only)
    | (refine ⟨⟨i2 + 1, by omega, fun j hj => by rcases Nat.lt_or_eq_of_le (Nat.le_of_lt_succ hj) with h | h; exact hpre2 j h; subst h; rw [bodyE_take (by assumption) (show (p.defs[j]).params.length ≤ k2 by omega)]; assumption⟩, by simp only []; omega, _, Nat.le_refl _, Nat.le_of_ble_eq_true rfl, ?_, ?_⟩ <;> (simp (disch := omega) only [go_sem, ↓reduceIte, Nat.reduceEqDiff, Nat.reduceAdd, Nat.reduceLeDiff, Nat.reduceMul, Nat.reduceSub, Nat.reduceLT, List.length_append, hlc.trim, hlc.trim_append, trimS_app hst]))
    | (refine AW.tok 9 1 ?_; rw [List.append_assoc]; simp only [List.cons_append, List.nil_append]; refine AW.loopS (α := { k : Nat // k ≤ (p.defs[i2]).params.length }) 114 (fun k => [(1, .ptr st.length 0), (9, .int .i64 (i2 : Nat)), (10, .sl ((((p.defs[i2]).params.take k.1).map Pm.name).map .str) (some (st.length + 1))), (11, .int .i64 (k.1 : Nat))]) (fun k => st ++ [.box 62 (encPg p).cells, .tok 9 1 (((p.defs[i2]).params.take k.1).map Pm.name).length]) (fun k => (p.defs[i2]).params.length - k.1) ⟨0, Nat.zero_le _⟩ rfl ?_ ?_ ?_; (focus (simp (disch := omega) only [go_sem, ↓reduceIte, Nat.reduceEqDiff, Nat.reduceAdd, Nat.reduceLeDiff, Nat.reduceMul, Nat.reduceSub, Nat.reduceLT, List.take_zero, List.map_nil, List.length_nil]; done)); (focus ((try simp (disch := first | omega | assumption) only [List.take_zero, List.map_nil, List.length_nil]); refine StLe.app ?_; repeat' (first | exact trivial | exact O.le_refl _ _ | refine O.le_box ?_ | exact V.le_refl _ _ | exact V.le_sl _ _ _ | exact V.le_nil _ | exact V.le_nil_tok (by rw [st_get]; rfl) | exact V.le_nil_ref (by rw [st_get]; rfl) | exact V.le_nil_ref (by rw [st_get0]; rfl) | refine CLe.app ?_ | refine ⟨?_, ?_⟩))); rintro ⟨k2, hk2⟩ hlc; dsimp only; have hnl : ((p.defs[i2]).params.take k2).length ≤ 20 := (by rw [List.length_take]; omega))
    | (refine ⟨⟨k2 + 1, by omega⟩, by simp only []; omega, _, Nat.le_refl _, Nat.le_of_ble_eq_true rfl, ?_, ?_⟩ <;> (simp (disch := omega) only [go_sem, ↓reduceIte, Nat.reduceEqDiff, Nat.reduceAdd, Nat.reduceLeDiff, Nat.reduceMul, Nat.reduceSub, Nat.reduceLT, take_at, List.map_cons, List.map_nil, List.length_append, List.length_cons, List.length_nil, List.length_map, List.length_append, hlc.trim, hlc.trim_append, trimS_app hst]))
    | (refine AW.ret ?_; show (_ ∨ _) ∧ _; refine ⟨.inr rfl, ?_⟩; show resP _ _ _ [.tmp 2, .tmp 3] _; simp (disch := omega) only [go_sem, ↓reduceIte, Nat.reduceEqDiff, Nat.reduceAdd, Nat.reduceLeDiff, Nat.reduceMul, Nat.reduceSub, Nat.reduceLT, List.length_map]; refine ⟨_, _, _, Nat.le_refl _, V.le_refl _ _, StLe.refl _, ?_⟩; (try simp (disch := omega) only [go_sem, ↓reduceIte, Nat.reduceEqDiff, Nat.reduceAdd, Nat.reduceLeDiff, Nat.reduceMul, Nat.reduceSub, Nat.reduceLT, List.length_map, hst.trim, hst.trim_append]))
  all_goals first
    | (rw [check_1 (by assumption)]; done)
    | (rw [check_2 (by assumption) (by assumption) hpre (dup_1 (by assumption) (by assumption))]; done)
    | (rw [check_2 (by assumption) (by assumption) hpre (dup_2 (by assumption) (by assumption) (by assumption) (by assumption))]; done)
    | (rw [check_3 (by assumption) (show p.defs.length ≤ i by omega) hpre (by assumption) hpre2 (by rw [bodyE_take (by assumption) (show (p.defs[i2]).params.length ≤ k2 by omega)]; assumption), bodyE_take (by assumption) (show (p.defs[i2]).params.length ≤ k2 by omega)]; done)
    | (rw [check_4 (by assumption) (show p.defs.length ≤ i by omega) hpre (show p.defs.length ≤ i2 by omega) hpre2]; done)
    | skip
set_option maxRecDepth 100000 in
set_option maxHeartbeats 8000000 in
theorem right_spec (p : Pg) (m : Int) (h0 : 0 ≤ m) (h1 : m ≤ 1000) (hp : okPg p) (st : List O) : Duo.Call Tryd.prog Tryd.gl 27 [encPg p, .int .i64 m] st (fun v st' => v = .bool (rightPg p m) ∧ st' = st) := by
  refine Duo.Call.clo fun hst => ?_
  refine Duo.Call.body 18 [(0, encPg p), (1, .int .i64 m)] Tryd.func27 rfl rfl ?_
  repeat' first
    | refine AW.seqK fun K hK => ?_
    | (refine hK _ _ ?_; clear hK K)
    | refine AW.region ?_
    | refine awL_call rfl (by first | exact ent49 | exact ent50) (by simp only [go_sem, ↓reduceIte, Nat.reduceEqDiff, Nat.reduceAdd, Nat.reduceLeDiff, Nat.reduceMul, Nat.reduceSub, Nat.reduceLT]; rfl) (by first | exact little_spec p m h0 (by omega) hp _ | exact check_spec p hp (little_sm h0 h1 (by assumption)) _) rfl ?_
    | refine awL_nil ?_
    | refine awL_S1 rfl rfl (by simp (disch := omega) only [go_sem, ↓reduceIte, Nat.reduceEqDiff, Nat.reduceAdd, Nat.reduceLeDiff, Nat.reduceMul, Nat.reduceSub, Nat.reduceLT]; rfl) ?_
    | (refine AW.condK _ rfl (fun hb => ?_) (fun hb => ?_) <;> (try simp only [Int.ofNat_inj, not_true_eq_false, not_false_eq_true, Bool.false_eq_true, Bool.true_eq_false, decide_eq_true_eq, decide_eq_false_iff_not, Bool.not_eq_true, Bool.not_eq_false, Bool.not_eq_true', Bool.not_eq_false', Int.not_lt, Int.not_le, ne_eq, Decidable.not_not, List.length_map, Bool.and_eq_true, Bool.or_eq_true, Bool.and_eq_false_imp, Int.ofNat_lt, Int.ofNat_le] at hb) <;> try (exfalso; omega))
    | refine AW.skip ?_
    | refine useK (by assumption) ?_
    | (refine AW.ret ?_; show (_ ∨ _) ∧ _; refine ⟨.inr rfl, ?_⟩; show resP _ _ _ [.tmp 4] _; simp (disch := omega) only [go_sem, ↓reduceIte, Nat.reduceEqDiff, Nat.reduceAdd, Nat.reduceLeDiff, Nat.reduceMul, Nat.reduceSub, Nat.reduceLT]; refine ⟨_, _, _, Nat.le_refl _, V.le_refl _ _, StLe.refl _, ?_⟩; (try simp (disch := omega) only [go_sem, ↓reduceIte, Nat.reduceEqDiff, Nat.reduceAdd, Nat.reduceLeDiff, Nat.reduceMul, Nat.reduceSub, Nat.reduceLT, hst.trim, hst.trim_append]))
  all_goals simp_all [rightPg]
end Tryd
end Go.Proofs
