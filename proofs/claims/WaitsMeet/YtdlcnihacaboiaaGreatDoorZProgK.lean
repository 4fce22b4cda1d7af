/-
  A part of the proof.
-/
import Derived.Test.YtdlcnihacaboiaaGreatDoorSubLib
import Derived.Test.YtdlcnihacaboiaaGreatDoorGP
import Derived.Test.YtdlcnihacaboiaaGreatDoorDS3
import Derived.Test.YtdlcnihacaboiaaGreatDoorDLate3
import Derived.Test.YtdlcnihacaboiaaGreatDoorGM
import Derived.Test.YtdlcnihacaboiaaGreatDoorGR
import Derived.Test.YtdlcnihacaboiaaGreatDoorZProgI
import Derived.Test.YtdlcnihacaboiaaGreatDoorZProgF
set_option linter.all false
namespace Go.Proofs
open Go Go.Duo
namespace Tryz
attribute [local irreducible] awL awA awT AW
set_option maxRecDepth 100000 in
set_option maxHeartbeats 8000000 in
theorem rapply_spec (t : Pr) (ns : List Str) (vs : List Vl) (hnv : ns.length = vs.length) (hnd : ns.Nodup) (hns : ns.length ≤ 1000000) (hvo : ∀ x ∈ vs, okV x) (h : t.sz ≤ 1000) (hl : smLP t) (st : List O) : Duo.Call Tryz.prog Tryz.gl 102 [encP t, .sl (ns.map .str) none, .sl (vs.map encV) none] st (fun v st' => v = .tuple [encP (putP ns vs t []), .int .i64 0] ∧ st' = st) := by
  refine Duo.Call.clo fun hst => ?_
  have hdp := Pr.dp_le t
  refine Duo.Call.body 34 [(0, encP t), (1, .sl (ns.map .str) none), (2, .sl (vs.map encV) none)] Tryz.func102 rfl rfl ?_
  repeat' first
    | refine AW.seqK fun K hK => ?_
    | (refine hK _ _ ?_; clear hK K)
    | refine AW.region ?_
    | refine awL_call rfl (by first | exact ent147 | exact ent148) (by simp only [go_sem, ↓reduceIte, Nat.reduceEqDiff, Nat.reduceAdd, Nat.reduceLeDiff, Nat.reduceMul, Nat.reduceSub, Nat.reduceLT]; rfl) (by first | exact idx_spec _ _ (by omega) _ | exact Duo.Call.argle (by repeat' (first | exact trivial | exact V.le_refl _ _ | exact V.le_sl _ _ _ | exact V.le_nil _ | (refine V.leS ?_; simp only [List.map_append, List.map_cons, List.map_nil]; done) | (refine V.le_aggL ?_) | refine ⟨?_, ?_⟩)) (putO_plain trivial (putO_spec ns vs hnv hns hvo t [] (by omega) hl (by simp; omega) _))) rfl ?_
    | refine awL_nil ?_
    | ((fail_if_success (clear hjq)); (rcases Nat.lt_or_ge i ns.length with hq | hq; rotate_left; focus (exfalso; omega)); have hjq : True := trivial; have hix := idxI_nodup hnd hq)
    | refine awL_S1 rfl rfl (by simp (disch := omega) only [go_sem, ↓reduceIte, Nat.reduceEqDiff, Nat.reduceAdd, Nat.reduceLeDiff, Nat.reduceMul, Nat.reduceSub, Nat.reduceLT]; rfl) ?_
    | (refine AW.condK _ rfl (fun hb => ?_) (fun hb => ?_) <;> (try simp only [Int.ofNat_inj, not_true_eq_false, not_false_eq_true, Bool.false_eq_true, Bool.true_eq_false, decide_eq_true_eq, decide_eq_false_iff_not, Bool.not_eq_true, Bool.not_eq_false, Bool.not_eq_true', Bool.not_eq_false', Int.not_lt, Int.not_le, ne_eq, Decidable.not_not, List.length_map, Bool.and_eq_true, Bool.or_eq_true, Bool.and_eq_false_imp, Int.ofNat_lt, Int.ofNat_le] at hb) <;> try (exfalso; omega))
    | refine AW.block ?_
    | refine bq_s ?_
    | refine bq_o rfl ?_
    | refine tq_e ?_
    | refine AW.exit ?_
    | refine AW.skip ?_
    | refine useK (by assumption) ?_
    | (refine AW.loopC (α := { i : Nat // i ≤ ns.length }) 34 (fun i => [(1, .sl (ns.map .str) none), (2, .sl (vs.map encV) none), (3, .ptr st.length 0), (6, .ptr (st.length + 1) 0), (8, .int .i64 (i.1 : Nat))]) (fun i => ns.length - i.1) ⟨0, Nat.zero_le _⟩ rfl ?_ ?_; (focus (simp (disch := omega) only [go_sem, ↓reduceIte, Nat.reduceEqDiff, Nat.reduceAdd, Nat.reduceLeDiff, Nat.reduceMul, Nat.reduceSub, Nat.reduceLT]; done)); rintro ⟨i, hi⟩ hlc; dsimp only)
    | (refine ⟨⟨i + 1, by omega⟩, by simp only []; omega, _, Nat.le_refl _, Nat.le_of_ble_eq_true rfl, ?_, ?_⟩ <;> (simp (disch := omega) only [go_sem, ↓reduceIte, Nat.reduceEqDiff, Nat.reduceAdd, Nat.reduceLeDiff, Nat.reduceMul, Nat.reduceSub, Nat.reduceLT, List.length_append, hlc.trim, hlc.trim_append, trimS_app hst]))
    | (refine AW.ret ?_; show (_ ∨ _) ∧ _; refine ⟨.inr rfl, ?_⟩; show resP _ _ _ [.cell 6 29, .tmp 7] _; simp (disch := omega) only [go_sem, ↓reduceIte, Nat.reduceEqDiff, Nat.reduceAdd, Nat.reduceLeDiff, Nat.reduceMul, Nat.reduceSub, Nat.reduceLT]; refine ⟨_, _, _, Nat.le_refl _, V.le_refl _ _, StLe.refl _, ?_⟩; (try simp (disch := omega) only [go_sem, ↓reduceIte, Nat.reduceEqDiff, Nat.reduceAdd, Nat.reduceLeDiff, Nat.reduceMul, Nat.reduceSub, Nat.reduceLT, hst.trim, hst.trim_append]))
  trace_state
set_option maxRecDepth 100000 in
set_option maxHeartbeats 8000000 in
theorem vname_spec (s : Str) (st : List O) : Duo.Call Tryz.prog Tryz.gl 114 [.str s] st (fun v st' => v = encV ⟨1, s, 0⟩ ∧ st' = st) := by
  refine Duo.Call.clo fun hst => ?_
  refine Duo.Call.body 5 [(0, .str s)] Tryz.func114 rfl rfl ?_
  repeat' first
    | refine AW.seqK fun K hK => ?_
    | (refine hK _ _ ?_; clear hK K)
    | refine AW.region ?_
    | refine awL_nil ?_
    | refine awL_S1 rfl rfl (by simp (disch := omega) only [go_sem, ↓reduceIte, Nat.reduceEqDiff, Nat.reduceAdd, Nat.reduceLeDiff, Nat.reduceMul, Nat.reduceSub, Nat.reduceLT]; rfl) ?_
    | (refine AW.condK _ rfl (fun hb => ?_) (fun hb => ?_) <;> (try simp only [Int.ofNat_inj, not_true_eq_false, not_false_eq_true, Bool.false_eq_true, Bool.true_eq_false, decide_eq_true_eq, decide_eq_false_iff_not, Bool.not_eq_true, Bool.not_eq_false, Bool.not_eq_true', Bool.not_eq_false', Int.not_lt, Int.not_le, ne_eq, Decidable.not_not, List.length_map, Bool.and_eq_true, Bool.or_eq_true, Bool.and_eq_false_imp, Int.ofNat_lt, Int.ofNat_le] at hb) <;> try (exfalso; omega))
    | refine AW.skip ?_
    | refine useK (by assumption) ?_
    | (refine AW.ret ?_; show (_ ∨ _) ∧ _; refine ⟨.inr rfl, ?_⟩; show resP _ _ _ [.cell 2 36] _; simp (disch := omega) only [go_sem, ↓reduceIte, Nat.reduceEqDiff, Nat.reduceAdd, Nat.reduceLeDiff, Nat.reduceMul, Nat.reduceSub, Nat.reduceLT]; refine ⟨_, _, _, Nat.le_refl _, V.le_refl _ _, StLe.refl _, ?_⟩; (try simp (disch := omega) only [go_sem, ↓reduceIte, Nat.reduceEqDiff, Nat.reduceAdd, Nat.reduceLeDiff, Nat.reduceMul, Nat.reduceSub, Nat.reduceLT, hst.trim, hst.trim_append]))
  rfl
set_option maxRecDepth 100000 in
set_option maxHeartbeats 8000000 in
theorem inst_spec (p : Pg) (s : Str) (vs : List Vl) (hw : p.defs.length ≤ 1000000) (i : Nat) (hi : i < p.defs.length) (hf : findI p.defs s = i) (hpl : (p.defs[i]).params.length = vs.length) (hns : vs.length ≤ 1000000) (hvo : ∀ x ∈ vs, okV x) (h : (p.defs[i]).body.sz ≤ 1000) (hl : smLP (p.defs[i]).body) (st : List O) : Duo.Call Tryz.prog Tryz.gl 116 [encPg p, .str s, .sl (vs.map encV) none] st (fun v st' => v = .tuple [encP (putP ((p.defs[i]).params.map Pm.name) vs (p.defs[i]).body []), .int .i64 0] ∧ st' = st) := by
  refine Duo.Call.clo fun hst => ?_
  have hdp := Pr.dp_le (p.defs[i]).body
  refine Duo.Call.body 56 [(0, encPg p), (1, .str s), (2, .sl (vs.map encV) none)] Tryz.func116 rfl rfl ?_
  repeat' first
    | refine AW.seqK fun K hK => ?_
    | (refine hK _ _ ?_; clear hK K)
    | refine AW.region ?_
    | refine awL_call rfl (by first | exact ent110 | exact ent148) (by simp only [go_sem, ↓reduceIte, Nat.reduceEqDiff, Nat.reduceAdd, Nat.reduceLeDiff, Nat.reduceMul, Nat.reduceSub, Nat.reduceLT, List.length_map, hf, hpl]; rfl) (by first | exact find_spec p _ (by omega) _ | exact Duo.Call.argle (by repeat' (first | exact trivial | exact V.le_refl _ _ | exact V.le_sl _ _ _ | exact V.le_nil _ | (refine V.leS ?_; simp only [List.map_append, List.map_cons, List.map_nil]; done) | (refine V.le_aggL ?_) | refine ⟨?_, ?_⟩)) (putO_plain trivial (putO_spec (((p.defs[i]).params.take k).map Pm.name) vs (by rw [List.length_map, List.length_take]; omega) (by rw [List.length_map, List.length_take]; omega) hvo (p.defs[i]).body [] (by omega) hl (by simp; omega) _))) rfl ?_
    | refine awL_nil ?_
    | refine awL_S1 rfl rfl (by simp (disch := omega) only [go_sem, ↓reduceIte, Nat.reduceEqDiff, Nat.reduceAdd, Nat.reduceLeDiff, Nat.reduceMul, Nat.reduceSub, Nat.reduceLT, List.length_map, hf, hpl]; rfl) ?_
    | (refine AW.condK _ rfl (fun hb => ?_) (fun hb => ?_) <;> (try simp only [Int.ofNat_inj, not_true_eq_false, not_false_eq_true, Bool.false_eq_true, Bool.true_eq_false, decide_eq_true_eq, decide_eq_false_iff_not, Bool.not_eq_true, Bool.not_eq_false, Bool.not_eq_true', Bool.not_eq_false', Int.not_lt, Int.not_le, ne_eq, Decidable.not_not, List.length_map, Bool.and_eq_true, Bool.or_eq_true, Bool.and_eq_false_imp, Int.ofNat_lt, Int.ofNat_le] at hb) <;> try (exfalso; omega))
    | refine AW.block ?_
    | refine bq_s ?_
    | refine bq_o rfl ?_
    | refine tq_e ?_
    | refine AW.exit ?_
    | refine AW.skip ?_
    | refine useK (by assumption) ?_
    | (refine AW.tok 9 1 ?_; rw [List.append_assoc]; simp only [List.cons_append, List.nil_append]; refine AW.loopS (α := { k : Nat // k ≤ vs.length }) 56 (fun k => [(2, .sl (vs.map encV) none), (3, .ptr st.length 0), (6, .ptr (st.length + 1) 0), (8, .int .i64 (i : Nat)), (9, .sl ((((p.defs[i]).params.take k.1).map Pm.name).map .str) (some (st.length + 2))), (10, .int .i64 (k.1 : Nat))]) (fun k => st ++ [.box 48 (encPg p).cells, .box 29 ZP, .tok 9 1 (((p.defs[i]).params.take k.1).map Pm.name).length]) (fun k => vs.length - k.1) ⟨0, Nat.zero_le _⟩ rfl ?_ ?_ ?_; (focus (simp (disch := omega) only [go_sem, ↓reduceIte, Nat.reduceEqDiff, Nat.reduceAdd, Nat.reduceLeDiff, Nat.reduceMul, Nat.reduceSub, Nat.reduceLT, List.take_zero, List.map_nil, List.length_nil]; done)); (focus ((try simp (disch := first | omega | assumption) only [List.take_zero, List.map_nil, List.length_nil, zpE]); refine StLe.app ?_; repeat' (first | exact trivial | exact O.le_refl _ _ | refine O.le_box ?_ | exact V.le_refl _ _ | exact V.le_sl _ _ _ | exact V.le_nil _ | exact V.le_nil_tok (by rw [st_get]; rfl) | exact V.le_nil_ref (by rw [st_get]; rfl) | exact V.le_nil_ref (by rw [st_get0]; rfl) | refine CLe.app ?_ | refine ⟨?_, ?_⟩))); rintro ⟨k, hk⟩ hlc; dsimp only; have hnl : ((p.defs[i]).params.take k).length ≤ 1000000 := (by rw [List.length_take]; omega))
    | (refine ⟨⟨k + 1, by omega⟩, by simp only []; omega, _, Nat.le_refl _, Nat.le_of_ble_eq_true rfl, ?_, ?_⟩ <;> (simp (disch := omega) only [go_sem, ↓reduceIte, Nat.reduceEqDiff, Nat.reduceAdd, Nat.reduceLeDiff, Nat.reduceMul, Nat.reduceSub, Nat.reduceLT, take_at, List.map_cons, List.map_nil, List.length_append, List.length_cons, List.length_nil, List.length_map, List.length_append, hlc.trim, hlc.trim_append, trimS_app hst]))
    | (refine AW.ret ?_; show (_ ∨ _) ∧ _; refine ⟨.inr rfl, ?_⟩; show resP _ _ _ [.cell 6 29, .tmp 7] _; simp (disch := omega) only [go_sem, ↓reduceIte, Nat.reduceEqDiff, Nat.reduceAdd, Nat.reduceLeDiff, Nat.reduceMul, Nat.reduceSub, Nat.reduceLT, List.length_map, hf, hpl]; refine ⟨_, _, _, Nat.le_refl _, V.le_refl _ _, StLe.refl _, ?_⟩; (try simp (disch := omega) only [go_sem, ↓reduceIte, Nat.reduceEqDiff, Nat.reduceAdd, Nat.reduceLeDiff, Nat.reduceMul, Nat.reduceSub, Nat.reduceLT, List.length_map, hf, hpl, hst.trim, hst.trim_append]))
  rw [List.take_of_length_le (show (p.defs[i]).params.length ≤ k by omega)]
end Tryz
end Go.Proofs
