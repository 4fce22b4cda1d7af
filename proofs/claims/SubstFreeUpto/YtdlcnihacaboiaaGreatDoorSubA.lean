/-
  A part of the proof.
-/
import Derived.Test.YtdlcnihacaboiaaGreatDoorSubLib
import Derived.Test.YtdlcnihacaboiaaGreatDoorGO
import Derived.Test.YtdlcnihacaboiaaGreatDoorDS3
import Derived.Test.YtdlcnihacaboiaaGreatDoorDLate3
import Derived.Test.YtdlcnihacaboiaaGreatDoorGP
import Derived.Test.YtdlcnihacaboiaaGreatDoorGM
import Derived.Test.YtdlcnihacaboiaaGreatDoorGI
import Derived.Lib.QuietBelow
set_option linter.all false
namespace Go.Proofs
open Go Go.Duo
namespace Tryz
attribute [local irreducible] awL awA awT AW
set_option maxRecDepth 100000 in
set_option maxHeartbeats 8000000 in
theorem mapV_spec (kf : Nat) (t : Tb) (l : List Vl) (g : Vl → Vl) (hn : l.length ≤ 2000000) (hent : ent Tryz.prog kf = true) (h : ∀ x ∈ l, ∀ st, Duo.Call Tryz.prog Tryz.gl kf [.pmap (keysT t) (valsT t), encV x] st (fun v st' => v = encV (g x) ∧ st' = st)) (st : List O) : Duo.Call Tryz.prog Tryz.gl 98 [.sl (l.map encV) none, .func (.func kf) [.pmap (keysT t) (valsT t)] []] st (fun v st' => v = .sl ((l.map g).map encV) none ∧ st' = st) := by
  refine Duo.Call.clo fun hst => ?_
  refine Duo.Call.body 22 [(0, .sl (l.map encV) none), (1, .func (.func kf) [.pmap (keysT t) (valsT t)] [])] Tryz.func98 rfl rfl ?_
  repeat' first
    | refine AW.seqK fun K hK => ?_
    | (refine hK _ _ ?_; clear hK K)
    | refine AW.region ?_
    | refine awL_call rfl (by first | exact hent) (by simp only [go_sem, ↓reduceIte, Nat.reduceEqDiff, Nat.reduceAdd, Nat.reduceLeDiff, Nat.reduceMul, Nat.reduceSub, Nat.reduceLT, List.append_nil, List.length_map]; rfl) (by first | exact h _ (List.getElem_mem (by assumption)) _) rfl ?_
    | refine awL_nil ?_
    | refine awL_S1 rfl rfl (by simp (disch := omega) only [go_sem, ↓reduceIte, Nat.reduceEqDiff, Nat.reduceAdd, Nat.reduceLeDiff, Nat.reduceMul, Nat.reduceSub, Nat.reduceLT, List.append_nil, List.length_map]; rfl) ?_
    | (refine AW.condK _ rfl (fun hb => ?_) (fun hb => ?_) <;> (try simp only [Int.ofNat_inj, not_true_eq_false, not_false_eq_true, Bool.false_eq_true, Bool.true_eq_false, decide_eq_true_eq, decide_eq_false_iff_not, Bool.not_eq_true, Bool.not_eq_false, Bool.not_eq_true', Bool.not_eq_false', Int.not_lt, Int.not_le, ne_eq, Decidable.not_not, List.length_map, Bool.and_eq_true, Bool.or_eq_true, Bool.and_eq_false_imp, Int.ofNat_lt, Int.ofNat_le] at hb) <;> try (exfalso; omega))
    | refine AW.block ?_
    | refine bq_s ?_
    | refine bq_o rfl ?_
    | refine tq_e ?_
    | refine AW.exit ?_
    | refine AW.skip ?_
    | refine useK (by assumption) ?_
    | (refine AW.tok 36 3 ?_; refine AW.loopS (α := { i : Nat // i ≤ l.length }) 22 (fun i => [(1, .func (.func kf) [.pmap (keysT t) (valsT t)] []), (5, .sl ((l.take i.1).map fun x => encV (g x)) (some st.length)), (8, .sl (l.map encV) none), (9, .int .i64 l.length), (10, .int .i64 (i.1 : Nat))]) (fun i => st ++ [.tok 36 3 ((l.take i.1).map fun x => encV (g x)).length]) (fun i => l.length - i.1) ⟨0, Nat.zero_le _⟩ rfl ?_ ?_ ?_; (focus (simp (disch := omega) only [go_sem, ↓reduceIte, Nat.reduceEqDiff, Nat.reduceAdd, Nat.reduceLeDiff, Nat.reduceMul, Nat.reduceSub, Nat.reduceLT, List.take_zero, List.map_nil, List.length_nil, List.length_map]; done)); (focus (simp (disch := omega) only [go_sem, ↓reduceIte, Nat.reduceEqDiff, Nat.reduceAdd, Nat.reduceLeDiff, Nat.reduceMul, Nat.reduceSub, Nat.reduceLT, List.take_zero, List.map_nil, List.length_nil, List.length_map]; done)); rintro ⟨i, hi⟩ hlc; dsimp only; have hnl : (l.take i).length ≤ 2000000 := (by rw [List.length_take]; omega))
    | (refine ⟨⟨i + 1, by omega⟩, by simp only []; omega, _, Nat.le_refl _, Nat.le_of_ble_eq_true rfl, ?_, ?_⟩ <;> (simp (disch := omega) only [go_sem, ↓reduceIte, Nat.reduceEqDiff, Nat.reduceAdd, Nat.reduceLeDiff, Nat.reduceMul, Nat.reduceSub, Nat.reduceLT, take_at, List.map_append, List.map_cons, List.map_nil, List.length_append, List.length_cons, List.length_nil, List.length_map, List.length_append, hlc.trim, hlc.trim_append, trimS_app hst]))
    | (refine AW.ret ?_; show (_ ∨ _) ∧ _; refine ⟨.inr rfl, ?_⟩; show resP _ _ _ [.tmp 4] _; simp (disch := omega) only [go_sem, ↓reduceIte, Nat.reduceEqDiff, Nat.reduceAdd, Nat.reduceLeDiff, Nat.reduceMul, Nat.reduceSub, Nat.reduceLT, List.append_nil, List.length_map]; refine ⟨_, _, _, Nat.le_refl _, V.le_refl _ _, StLe.refl _, ?_⟩; (try simp (disch := omega) only [go_sem, ↓reduceIte, Nat.reduceEqDiff, Nat.reduceAdd, Nat.reduceLeDiff, Nat.reduceMul, Nat.reduceSub, Nat.reduceLT, List.append_nil, List.length_map, hst.trim, hst.trim_append]))
  all_goals (obtain rfl : i = l.length := by omega)
  all_goals simp [List.take_of_length_le, List.map_map, Function.comp_def]
set_option maxRecDepth 100000 in
set_option maxHeartbeats 8000000 in
theorem mapP_spec (kf : Nat) (t : Tb) (l : List Pr) (g : Pr → Pr) (hn : l.length ≤ 2000000) (hent : ent Tryz.prog kf = true) (h : ∀ x ∈ l, ∀ st, Duo.Call Tryz.prog Tryz.gl kf [.pmap (keysT t) (valsT t), encP x] st (fun v st' => v = encP (g x) ∧ st' = st)) (st : List O) : Duo.Call Tryz.prog Tryz.gl 100 [.sl (l.map encP) none, .func (.func kf) [.pmap (keysT t) (valsT t)] []] st (fun v st' => v = .sl ((l.map g).map encP) none ∧ st' = st) := by
  refine Duo.Call.clo fun hst => ?_
  refine Duo.Call.body 22 [(0, .sl (l.map encP) none), (1, .func (.func kf) [.pmap (keysT t) (valsT t)] [])] Tryz.func100 rfl rfl ?_
  repeat' first
    | refine AW.seqK fun K hK => ?_
    | (refine hK _ _ ?_; clear hK K)
    | refine AW.region ?_
    | refine awL_call rfl (by first | exact hent) (by simp only [go_sem, ↓reduceIte, Nat.reduceEqDiff, Nat.reduceAdd, Nat.reduceLeDiff, Nat.reduceMul, Nat.reduceSub, Nat.reduceLT, List.append_nil, List.length_map]; rfl) (by first | exact h _ (List.getElem_mem (by assumption)) _) rfl ?_
    | refine awL_nil ?_
    | refine awL_S1 rfl rfl (by simp (disch := omega) only [go_sem, ↓reduceIte, Nat.reduceEqDiff, Nat.reduceAdd, Nat.reduceLeDiff, Nat.reduceMul, Nat.reduceSub, Nat.reduceLT, List.append_nil, List.length_map]; rfl) ?_
    | (refine AW.condK _ rfl (fun hb => ?_) (fun hb => ?_) <;> (try simp only [Int.ofNat_inj, not_true_eq_false, not_false_eq_true, Bool.false_eq_true, Bool.true_eq_false, decide_eq_true_eq, decide_eq_false_iff_not, Bool.not_eq_true, Bool.not_eq_false, Bool.not_eq_true', Bool.not_eq_false', Int.not_lt, Int.not_le, ne_eq, Decidable.not_not, List.length_map, Bool.and_eq_true, Bool.or_eq_true, Bool.and_eq_false_imp, Int.ofNat_lt, Int.ofNat_le] at hb) <;> try (exfalso; omega))
    | refine AW.block ?_
    | refine bq_s ?_
    | refine bq_o rfl ?_
    | refine tq_e ?_
    | refine AW.exit ?_
    | refine AW.skip ?_
    | refine useK (by assumption) ?_
    | (refine AW.tok 29 12 ?_; refine AW.loopS (α := { i : Nat // i ≤ l.length }) 22 (fun i => [(1, .func (.func kf) [.pmap (keysT t) (valsT t)] []), (5, .sl ((l.take i.1).map fun x => encP (g x)) (some st.length)), (8, .sl (l.map encP) none), (9, .int .i64 l.length), (10, .int .i64 (i.1 : Nat))]) (fun i => st ++ [.tok 29 12 ((l.take i.1).map fun x => encP (g x)).length]) (fun i => l.length - i.1) ⟨0, Nat.zero_le _⟩ rfl ?_ ?_ ?_; (focus (simp (disch := omega) only [go_sem, ↓reduceIte, Nat.reduceEqDiff, Nat.reduceAdd, Nat.reduceLeDiff, Nat.reduceMul, Nat.reduceSub, Nat.reduceLT, List.take_zero, List.map_nil, List.length_nil, List.length_map]; done)); (focus (simp (disch := omega) only [go_sem, ↓reduceIte, Nat.reduceEqDiff, Nat.reduceAdd, Nat.reduceLeDiff, Nat.reduceMul, Nat.reduceSub, Nat.reduceLT, List.take_zero, List.map_nil, List.length_nil, List.length_map]; done)); rintro ⟨i, hi⟩ hlc; dsimp only; have hnl : (l.take i).length ≤ 2000000 := (by rw [List.length_take]; omega))
    | (refine ⟨⟨i + 1, by omega⟩, by simp only []; omega, _, Nat.le_refl _, Nat.le_of_ble_eq_true rfl, ?_, ?_⟩ <;> (simp (disch := omega) only [go_sem, ↓reduceIte, Nat.reduceEqDiff, Nat.reduceAdd, Nat.reduceLeDiff, Nat.reduceMul, Nat.reduceSub, Nat.reduceLT, take_at, List.map_append, List.map_cons, List.map_nil, List.length_append, List.length_cons, List.length_nil, List.length_map, List.length_append, hlc.trim, hlc.trim_append, trimS_app hst]))
    | (refine AW.ret ?_; show (_ ∨ _) ∧ _; refine ⟨.inr rfl, ?_⟩; show resP _ _ _ [.tmp 4] _; simp (disch := omega) only [go_sem, ↓reduceIte, Nat.reduceEqDiff, Nat.reduceAdd, Nat.reduceLeDiff, Nat.reduceMul, Nat.reduceSub, Nat.reduceLT, List.append_nil, List.length_map]; refine ⟨_, _, _, Nat.le_refl _, V.le_refl _ _, StLe.refl _, ?_⟩; (try simp (disch := omega) only [go_sem, ↓reduceIte, Nat.reduceEqDiff, Nat.reduceAdd, Nat.reduceLeDiff, Nat.reduceMul, Nat.reduceSub, Nat.reduceLT, List.append_nil, List.length_map, hst.trim, hst.trim_append]))
  all_goals (obtain rfl : i = l.length := by omega)
  all_goals simp [List.take_of_length_le, List.map_map, Function.comp_def]
set_option maxRecDepth 100000 in
set_option maxHeartbeats 8000000 in
theorem prefix_spec (p : Pr) (st : List O) : Duo.Call Tryz.prog Tryz.gl 94 [encP p] st (fun v st' => v = .bool (preK p.kind) ∧ st' = st) := by
  refine Duo.Call.clo fun hst => ?_
  refine Duo.Call.body 11 [(0, encP p)] Tryz.func94 rfl rfl ?_
  repeat' first
    | refine AW.seqK fun K hK => ?_
    | (refine hK _ _ ?_; clear hK K)
    | refine AW.region ?_
    | refine awL_nil ?_
    | (refine awL_gno rfl ?_ rfl ?_; focus (simp only [S0, ↓reduceIte, Nat.reduceEqDiff, Bool.not_true, Bool.not_false]; done))
    | (refine awL_gyes rfl ?_ ?_; focus (simp only [S0, ↓reduceIte, Nat.reduceEqDiff, Bool.not_true, Bool.not_false]; done))
    | refine awL_hole rfl rfl rfl rfl ?_
    | (refine awL_gcase rfl rfl (fun hg => ?_) (fun hg => ?_) <;> (rw [hg]; (try simp only [Int.ofNat_inj, not_true_eq_false, not_false_eq_true, Bool.false_eq_true, Bool.true_eq_false, decide_eq_true_eq, decide_eq_false_iff_not, Bool.not_eq_true, Bool.not_eq_false, Bool.not_eq_true', Bool.not_eq_false', Int.not_lt, Int.not_le, ne_eq, Decidable.not_not, List.length_map, Bool.and_eq_true, Bool.or_eq_true, Bool.and_eq_false_imp, Int.ofNat_lt, Int.ofNat_le] at hg); try (exfalso; omega)))
    | refine awL_S1 rfl rfl (by simp (disch := omega) only [go_sem, ↓reduceIte, Nat.reduceEqDiff, Nat.reduceAdd, Nat.reduceLeDiff, Nat.reduceMul, Nat.reduceSub, Nat.reduceLT]; rfl) ?_
    | (refine AW.condK _ rfl (fun hb => ?_) (fun hb => ?_) <;> (try simp only [Int.ofNat_inj, not_true_eq_false, not_false_eq_true, Bool.false_eq_true, Bool.true_eq_false, decide_eq_true_eq, decide_eq_false_iff_not, Bool.not_eq_true, Bool.not_eq_false, Bool.not_eq_true', Bool.not_eq_false', Int.not_lt, Int.not_le, ne_eq, Decidable.not_not, List.length_map, Bool.and_eq_true, Bool.or_eq_true, Bool.and_eq_false_imp, Int.ofNat_lt, Int.ofNat_le] at hb) <;> try (exfalso; omega))
    | refine AW.skip ?_
    | refine useK (by assumption) ?_
    | (refine AW.ret ?_; show (_ ∨ _) ∧ _; refine ⟨.inr rfl, ?_⟩; show resP _ _ _ [.tmp 2] _; simp (disch := omega) only [go_sem, ↓reduceIte, Nat.reduceEqDiff, Nat.reduceAdd, Nat.reduceLeDiff, Nat.reduceMul, Nat.reduceSub, Nat.reduceLT]; refine ⟨_, _, _, Nat.le_refl _, V.le_refl _ _, StLe.refl _, ?_⟩; (try simp (disch := omega) only [go_sem, ↓reduceIte, Nat.reduceEqDiff, Nat.reduceAdd, Nat.reduceLeDiff, Nat.reduceMul, Nat.reduceSub, Nat.reduceLT, hst.trim, hst.trim_append]))
  all_goals simp_all [preK]; try omega
@[go_sem] theorem mapTt : mapT Tryz.prog 97 = some (.string, 36) := by
  kernel_rfl
@[go_sem] theorem zroVv : zroV Tryz.prog 36 = some (encV Vl.zero) := by
  kernel_rfl
set_option maxRecDepth 100000 in
set_option maxHeartbeats 8000000 in
theorem fmtBoolI_spec (b : Bool) (st : List O) : Duo.Call Tryz.prog Tryz.gl 221 [.bool b] st (fun v st' => v = .str (Lib.formatBool b) ∧ st' = st) := by
  refine Duo.Call.clo fun hst => ?_
  refine Duo.Call.body 4 [(0, .bool b)] Tryz.func221 rfl rfl ?_
  repeat' first
    | refine AW.seqK fun K hK => ?_
    | (refine hK _ _ ?_; clear hK K)
    | refine AW.region ?_
    | refine awL_nil ?_
    | refine awL_S1 rfl rfl (by simp (disch := omega) only [go_sem, ↓reduceIte, Nat.reduceEqDiff, Nat.reduceAdd, Nat.reduceLeDiff, Nat.reduceMul, Nat.reduceSub, Nat.reduceLT]; rfl) ?_
    | (refine AW.condK _ rfl (fun hb => ?_) (fun hb => ?_) <;> (try simp only [Int.ofNat_inj, not_true_eq_false, not_false_eq_true, Bool.false_eq_true, Bool.true_eq_false, decide_eq_true_eq, decide_eq_false_iff_not, Bool.not_eq_true, Bool.not_eq_false, Bool.not_eq_true', Bool.not_eq_false', Int.not_lt, Int.not_le, ne_eq, Decidable.not_not, List.length_map, Bool.and_eq_true, Bool.or_eq_true, Bool.and_eq_false_imp, Int.ofNat_lt, Int.ofNat_le] at hb) <;> try (exfalso; omega))
    | refine AW.skip ?_
    | refine useK (by assumption) ?_
    | (refine AW.ret ?_; show (_ ∨ _) ∧ _; refine ⟨.inr rfl, ?_⟩; show resP _ _ _ [.tmp 2] _; simp (disch := omega) only [go_sem, ↓reduceIte, Nat.reduceEqDiff, Nat.reduceAdd, Nat.reduceLeDiff, Nat.reduceMul, Nat.reduceSub, Nat.reduceLT]; refine ⟨_, _, _, Nat.le_refl _, V.le_refl _ _, StLe.refl _, ?_⟩; (try simp (disch := omega) only [go_sem, ↓reduceIte, Nat.reduceEqDiff, Nat.reduceAdd, Nat.reduceLeDiff, Nat.reduceMul, Nat.reduceSub, Nat.reduceLT, hst.trim, hst.trim_append]))
  all_goals simp_all [Lib.formatBool]
  all_goals decide
set_option maxRecDepth 100000 in
set_option maxHeartbeats 8000000 in
theorem fmtBool_spec (b : Bool) (st : List O) : Duo.Call Tryz.prog Tryz.gl 190 [.bool b] st (fun v st' => v = .str (Lib.formatBool b) ∧ st' = st) := by
  refine Duo.Call.clo fun hst => ?_
  refine Duo.Call.body 5 [(0, .bool b)] Tryz.func190 rfl rfl ?_
  repeat' first
    | refine AW.seqK fun K hK => ?_
    | (refine hK _ _ ?_; clear hK K)
    | refine AW.region ?_
    | refine awL_call rfl (by first | exact ent221) (by simp only [go_sem, ↓reduceIte, Nat.reduceEqDiff, Nat.reduceAdd, Nat.reduceLeDiff, Nat.reduceMul, Nat.reduceSub, Nat.reduceLT]; rfl) (by first | exact fmtBoolI_spec _ _) rfl ?_
    | refine awL_nil ?_
    | refine awL_S1 rfl rfl (by simp (disch := omega) only [go_sem, ↓reduceIte, Nat.reduceEqDiff, Nat.reduceAdd, Nat.reduceLeDiff, Nat.reduceMul, Nat.reduceSub, Nat.reduceLT]; rfl) ?_
    | (refine AW.condK _ rfl (fun hb => ?_) (fun hb => ?_) <;> (try simp only [Int.ofNat_inj, not_true_eq_false, not_false_eq_true, Bool.false_eq_true, Bool.true_eq_false, decide_eq_true_eq, decide_eq_false_iff_not, Bool.not_eq_true, Bool.not_eq_false, Bool.not_eq_true', Bool.not_eq_false', Int.not_lt, Int.not_le, ne_eq, Decidable.not_not, List.length_map, Bool.and_eq_true, Bool.or_eq_true, Bool.and_eq_false_imp, Int.ofNat_lt, Int.ofNat_le] at hb) <;> try (exfalso; omega))
    | refine AW.skip ?_
    | refine useK (by assumption) ?_
    | (refine AW.ret ?_; show (_ ∨ _) ∧ _; refine ⟨.inr rfl, ?_⟩; show resP _ _ _ [.tmp 2] _; simp (disch := omega) only [go_sem, ↓reduceIte, Nat.reduceEqDiff, Nat.reduceAdd, Nat.reduceLeDiff, Nat.reduceMul, Nat.reduceSub, Nat.reduceLT]; refine ⟨_, _, _, Nat.le_refl _, V.le_refl _ _, StLe.refl _, ?_⟩; (try simp (disch := omega) only [go_sem, ↓reduceIte, Nat.reduceEqDiff, Nat.reduceAdd, Nat.reduceLeDiff, Nat.reduceMul, Nat.reduceSub, Nat.reduceLT, hst.trim, hst.trim_append]))
set_option maxRecDepth 100000 in
set_option maxHeartbeats 8000000 in
theorem cloneS_spec (l : List Str) (hn : l.length ≤ 2000000) (st : List O) : Duo.Call Tryz.prog Tryz.gl 144 [.sl (l.map .str) none] st (fun v st' => v = .sl (l.map .str) none ∧ st' = st) := by
  refine Duo.Call.clo fun hst => ?_
  refine Duo.Call.body 8 [(0, .sl (l.map .str) none)] Tryz.func144 rfl rfl ?_
  repeat' first
    | (refine AW.seqK fun K hK => ?_; refine AW.regionNil (v := .sl (l.map .str) none) rfl rfl elt22 (Nat.le_of_ble_eq_true rfl) (Nat.le_of_ble_eq_true rfl) fun b hq => ?_; (cases b; rotate_left; (obtain rfl : l = [] := by (cases l with | nil => rfl | cons a l => exact absurd (hq rfl) (by simp [rowEs, V.cells, V.str]))))) 
    | refine AW.seqK fun K hK => ?_
    | (refine hK _ _ ?_; clear hK K)
    | refine AW.region ?_
    | refine awL_nil ?_
    | refine awL_S1 rfl rfl (by simp (disch := omega) only [go_sem, ↓reduceIte, Nat.reduceEqDiff, Nat.reduceAdd, Nat.reduceLeDiff, Nat.reduceMul, Nat.reduceSub, Nat.reduceLT, List.length_map]; rfl) ?_
    | (refine AW.condK _ rfl (fun hb => ?_) (fun hb => ?_) <;> (try simp only [Int.ofNat_inj, not_true_eq_false, not_false_eq_true, Bool.false_eq_true, Bool.true_eq_false, decide_eq_true_eq, decide_eq_false_iff_not, Bool.not_eq_true, Bool.not_eq_false, Bool.not_eq_true', Bool.not_eq_false', Int.not_lt, Int.not_le, ne_eq, Decidable.not_not, List.length_map, Bool.and_eq_true, Bool.or_eq_true, Bool.and_eq_false_imp, Int.ofNat_lt, Int.ofNat_le] at hb) <;> try (exfalso; omega))
    | refine AW.skip ?_
    | refine useK (by assumption) ?_
    | (refine AW.ret ?_; show (_ ∨ _) ∧ _; refine ⟨.inr rfl, ?_⟩; show resP _ _ _ [.tmp 2] _; simp (disch := omega) only [go_sem, ↓reduceIte, Nat.reduceEqDiff, Nat.reduceAdd, Nat.reduceLeDiff, Nat.reduceMul, Nat.reduceSub, Nat.reduceLT]; refine ⟨_, _, _, Nat.le_refl _, V.le_nil _, StLe.refl _, ?_⟩; refine ⟨rfl, ?_⟩; simp (disch := omega) only [go_sem, hst.trim, hst.trim_append]; done)
    | (refine AW.ret ?_; show (_ ∨ _) ∧ _; refine ⟨.inr rfl, ?_⟩; show resP _ _ _ [.tmp 2] _; simp (disch := omega) only [go_sem, ↓reduceIte, Nat.reduceEqDiff, Nat.reduceAdd, Nat.reduceLeDiff, Nat.reduceMul, Nat.reduceSub, Nat.reduceLT, List.length_map]; refine ⟨_, _, _, Nat.le_refl _, V.le_refl _ _, StLe.refl _, ?_⟩; (try simp (disch := omega) only [go_sem, ↓reduceIte, Nat.reduceEqDiff, Nat.reduceAdd, Nat.reduceLeDiff, Nat.reduceMul, Nat.reduceSub, Nat.reduceLT, List.length_map, hst.trim, hst.trim_append]))
  all_goals trace_state
set_option maxRecDepth 100000 in
set_option maxHeartbeats 8000000 in
theorem cloneV_spec (l : List Vl) (hn : l.length ≤ 2000000) (st : List O) : Duo.Call Tryz.prog Tryz.gl 145 [.sl (l.map encV) none] st (fun v st' => v = .sl (l.map encV) none ∧ st' = st) := by
  refine Duo.Call.clo fun hst => ?_
  refine Duo.Call.body 8 [(0, .sl (l.map encV) none)] Tryz.func145 rfl rfl ?_
  repeat' first
    | (refine AW.seqK fun K hK => ?_; refine AW.regionNil (v := .sl (l.map encV) none) rfl rfl elt23 (Nat.le_of_ble_eq_true rfl) (Nat.le_of_ble_eq_true rfl) fun b hq => ?_; (cases b; rotate_left; (obtain rfl : l = [] := by (cases l with | nil => rfl | cons a l => exact absurd (hq rfl) (by simp [rowEs, V.cells, encV]))))) 
    | refine AW.seqK fun K hK => ?_
    | (refine hK _ _ ?_; clear hK K)
    | refine AW.region ?_
    | refine awL_nil ?_
    | refine awL_S1 rfl rfl (by simp (disch := omega) only [go_sem, ↓reduceIte, Nat.reduceEqDiff, Nat.reduceAdd, Nat.reduceLeDiff, Nat.reduceMul, Nat.reduceSub, Nat.reduceLT, List.length_map]; rfl) ?_
    | (refine AW.condK _ rfl (fun hb => ?_) (fun hb => ?_) <;> (try simp only [Int.ofNat_inj, not_true_eq_false, not_false_eq_true, Bool.false_eq_true, Bool.true_eq_false, decide_eq_true_eq, decide_eq_false_iff_not, Bool.not_eq_true, Bool.not_eq_false, Bool.not_eq_true', Bool.not_eq_false', Int.not_lt, Int.not_le, ne_eq, Decidable.not_not, List.length_map, Bool.and_eq_true, Bool.or_eq_true, Bool.and_eq_false_imp, Int.ofNat_lt, Int.ofNat_le] at hb) <;> try (exfalso; omega))
    | refine AW.skip ?_
    | refine useK (by assumption) ?_
    | (refine AW.ret ?_; show (_ ∨ _) ∧ _; refine ⟨.inr rfl, ?_⟩; show resP _ _ _ [.tmp 2] _; simp (disch := omega) only [go_sem, ↓reduceIte, Nat.reduceEqDiff, Nat.reduceAdd, Nat.reduceLeDiff, Nat.reduceMul, Nat.reduceSub, Nat.reduceLT]; refine ⟨_, _, _, Nat.le_refl _, V.le_nil _, StLe.refl _, ?_⟩; refine ⟨rfl, ?_⟩; simp (disch := omega) only [go_sem, hst.trim, hst.trim_append]; done)
    | (refine AW.ret ?_; show (_ ∨ _) ∧ _; refine ⟨.inr rfl, ?_⟩; show resP _ _ _ [.tmp 2] _; simp (disch := omega) only [go_sem, ↓reduceIte, Nat.reduceEqDiff, Nat.reduceAdd, Nat.reduceLeDiff, Nat.reduceMul, Nat.reduceSub, Nat.reduceLT, List.length_map]; refine ⟨_, _, _, Nat.le_refl _, V.le_refl _ _, StLe.refl _, ?_⟩; (try simp (disch := omega) only [go_sem, ↓reduceIte, Nat.reduceEqDiff, Nat.reduceAdd, Nat.reduceLeDiff, Nat.reduceMul, Nat.reduceSub, Nat.reduceLT, List.length_map, hst.trim, hst.trim_append]))
  all_goals trace_state
@[go_sem] theorem getT0 (t : Tb) (s : Str) : getK (.str s) (keysT t) (valsT t) (encV Vl.zero) = encV ((tget t s).getD Vl.zero) := by
  rw [getT]
  cases tget t s <;> rfl
@[go_sem] theorem encVt (k : Nat) (x : Vl) : V.trim k (encV x) = encV x := rfl
theorem encVp (x : Vl) : PureV (encV x) := PureV.agg (by
  intro c hc
  simp only [List.mem_cons, List.not_mem_nil, or_false] at hc
  rcases hc with rfl | rfl | rfl
  · exact PureV.int _ _
  · exact PureV.str _
  · exact PureV.int _ _)
attribute [go_sem] hasT delT setT keysT_all
set_option maxRecDepth 100000 in
set_option maxHeartbeats 8000000 in
theorem showval_spec (x : Vl) (ho : okV x) (st : List O) : Duo.Call Tryz.prog Tryz.gl 142 [encV x] st (fun v st' => v = .str (valueS x) ∧ st' = st) := by
  refine Duo.Call.clo fun hst => ?_
  obtain ⟨ho1, ho2, ho3⟩ := ho
  unfold inI at ho1 ho3
  refine Duo.Call.body 18 [(0, encV x)] Tryz.func142 rfl rfl ?_
  repeat' first
    | refine AW.seqK fun K hK => ?_
    | (refine hK _ _ ?_; clear hK K)
    | refine AW.region ?_
    | refine awL_call rfl (by first | exact ent189 | exact ent190) (by simp only [go_sem, ↓reduceIte, Nat.reduceEqDiff, Nat.reduceAdd, Nat.reduceLeDiff, Nat.reduceMul, Nat.reduceSub, Nat.reduceLT]; rfl) (by first | exact fmtInt_spec _ ho3.1 ho3.2 _ | exact fmtBool_spec _ _) rfl ?_
    | refine awL_nil ?_
    | refine awL_S1 rfl rfl (by simp (disch := omega) only [go_sem, ↓reduceIte, Nat.reduceEqDiff, Nat.reduceAdd, Nat.reduceLeDiff, Nat.reduceMul, Nat.reduceSub, Nat.reduceLT]; rfl) ?_
    | (refine AW.condK _ rfl (fun hb => ?_) (fun hb => ?_) <;> (try simp only [Int.ofNat_inj, not_true_eq_false, not_false_eq_true, Bool.false_eq_true, Bool.true_eq_false, decide_eq_true_eq, decide_eq_false_iff_not, Bool.not_eq_true, Bool.not_eq_false, Bool.not_eq_true', Bool.not_eq_false', Int.not_lt, Int.not_le, ne_eq, Decidable.not_not, List.length_map, Bool.and_eq_true, Bool.or_eq_true, Bool.and_eq_false_imp, Int.ofNat_lt, Int.ofNat_le] at hb) <;> try (exfalso; omega))
    | refine AW.block ?_
    | refine bq_s ?_
    | refine bq_o rfl ?_
    | refine tq_e ?_
    | refine AW.exit ?_
    | refine AW.skip ?_
    | refine useK (by assumption) ?_
    | (refine AW.ret ?_; show (_ ∨ _) ∧ _; refine ⟨.inr rfl, ?_⟩; show resP _ _ _ [.tmp 2] _; simp (disch := omega) only [go_sem, ↓reduceIte, Nat.reduceEqDiff, Nat.reduceAdd, Nat.reduceLeDiff, Nat.reduceMul, Nat.reduceSub, Nat.reduceLT]; refine ⟨_, _, _, Nat.le_refl _, V.le_refl _ _, StLe.refl _, ?_⟩; (try simp (disch := omega) only [go_sem, ↓reduceIte, Nat.reduceEqDiff, Nat.reduceAdd, Nat.reduceLeDiff, Nat.reduceMul, Nat.reduceSub, Nat.reduceLT, hst.trim, hst.trim_append]))
  all_goals simp_all [valueS, Lib.formatBool]
  split <;> decide
set_option maxRecDepth 100000 in
set_option maxHeartbeats 8000000 in
theorem tabval_spec (t : Tb) (x : Vl) (st : List O) : Duo.Call Tryz.prog Tryz.gl 99 [.pmap (keysT t) (valsT t), encV x] st (fun v st' => v = encV (valS t x) ∧ st' = st) := by
  refine Duo.Call.clo fun hst => ?_
  refine Duo.Call.body 22 [(0, .pmap (keysT t) (valsT t)), (1, encV x)] Tryz.func99 rfl rfl ?_
  repeat' first
    | refine AW.seqK fun K hK => ?_
    | (refine hK _ _ ?_; clear hK K)
    | refine AW.region ?_
    | refine awL_nil ?_
    | (refine awL_gno rfl ?_ rfl ?_; focus (simp only [S0, ↓reduceIte, Nat.reduceEqDiff, Bool.not_true, Bool.not_false]; done))
    | (refine awL_gyes rfl ?_ ?_; focus (simp only [S0, ↓reduceIte, Nat.reduceEqDiff, Bool.not_true, Bool.not_false]; done))
    | refine awL_hole rfl rfl rfl rfl ?_
    | (refine awL_gcase rfl rfl (fun hg => ?_) (fun hg => ?_) <;> (rw [hg]; (try simp only [Int.ofNat_inj, not_true_eq_false, not_false_eq_true, Bool.false_eq_true, Bool.true_eq_false, decide_eq_true_eq, decide_eq_false_iff_not, Bool.not_eq_true, Bool.not_eq_false, Bool.not_eq_true', Bool.not_eq_false', Int.not_lt, Int.not_le, ne_eq, Decidable.not_not, List.length_map, Bool.and_eq_true, Bool.or_eq_true, Bool.and_eq_false_imp, Int.ofNat_lt, Int.ofNat_le] at hg); try (exfalso; omega)))
    | refine awL_S1 rfl rfl (by simp (disch := omega) only [go_sem, ↓reduceIte, Nat.reduceEqDiff, Nat.reduceAdd, Nat.reduceLeDiff, Nat.reduceMul, Nat.reduceSub, Nat.reduceLT]; rfl) ?_
    | (refine AW.condK _ rfl (fun hb => ?_) (fun hb => ?_) <;> (try simp only [Int.ofNat_inj, not_true_eq_false, not_false_eq_true, Bool.false_eq_true, Bool.true_eq_false, decide_eq_true_eq, decide_eq_false_iff_not, Bool.not_eq_true, Bool.not_eq_false, Bool.not_eq_true', Bool.not_eq_false', Int.not_lt, Int.not_le, ne_eq, Decidable.not_not, List.length_map, Bool.and_eq_true, Bool.or_eq_true, Bool.and_eq_false_imp, Int.ofNat_lt, Int.ofNat_le] at hb) <;> try (exfalso; omega))
    | refine AW.skip ?_
    | refine useK (by assumption) ?_
    | (refine AW.ret ?_; show (_ ∨ _) ∧ _; refine ⟨.inr rfl, ?_⟩; show resP _ _ _ [.cell 4 36] _; simp (disch := omega) only [go_sem, ↓reduceIte, Nat.reduceEqDiff, Nat.reduceAdd, Nat.reduceLeDiff, Nat.reduceMul, Nat.reduceSub, Nat.reduceLT]; refine ⟨_, _, _, Nat.le_refl _, V.le_refl _ _, StLe.refl _, ?_⟩; (try simp (disch := omega) only [go_sem, ↓reduceIte, Nat.reduceEqDiff, Nat.reduceAdd, Nat.reduceLeDiff, Nat.reduceMul, Nat.reduceSub, Nat.reduceLT, hst.trim, hst.trim_append]))
  all_goals (unfold valS; cases hq : tget t x.name <;> simp_all)
set_option maxRecDepth 100000 in
set_option maxHeartbeats 8000000 in
theorem channel_spec (t : Tb) (s : Str) (ho : ∀ v, tget t s = some v → okV v) (st : List O) : Duo.Call Tryz.prog Tryz.gl 95 [.pmap (keysT t) (valsT t), .str s] st (fun v st' => v = .str (chanS t s) ∧ st' = st) := by
  refine Duo.Call.clo fun hst => ?_
  refine Duo.Call.body 18 [(0, .pmap (keysT t) (valsT t)), (1, .str s)] Tryz.func95 rfl rfl ?_
  repeat' first
    | refine AW.seqK fun K hK => ?_
    | (refine hK _ _ ?_; clear hK K)
    | refine AW.region ?_
    | refine awL_call rfl (by first | exact ent142) (by simp only [go_sem, ↓reduceIte, Nat.reduceEqDiff, Nat.reduceAdd, Nat.reduceLeDiff, Nat.reduceMul, Nat.reduceSub, Nat.reduceLT]; rfl) (by first | exact showval_spec _ (by cases hq : tget t s with | none => simp_all | some v => exact ho v hq) _) rfl ?_
    | refine awL_nil ?_
    | refine awL_S1 rfl rfl (by simp (disch := omega) only [go_sem, ↓reduceIte, Nat.reduceEqDiff, Nat.reduceAdd, Nat.reduceLeDiff, Nat.reduceMul, Nat.reduceSub, Nat.reduceLT]; rfl) ?_
    | (refine AW.condK _ rfl (fun hb => ?_) (fun hb => ?_) <;> (try simp only [Int.ofNat_inj, not_true_eq_false, not_false_eq_true, Bool.false_eq_true, Bool.true_eq_false, decide_eq_true_eq, decide_eq_false_iff_not, Bool.not_eq_true, Bool.not_eq_false, Bool.not_eq_true', Bool.not_eq_false', Int.not_lt, Int.not_le, ne_eq, Decidable.not_not, List.length_map, Bool.and_eq_true, Bool.or_eq_true, Bool.and_eq_false_imp, Int.ofNat_lt, Int.ofNat_le] at hb) <;> try (exfalso; omega))
    | refine AW.skip ?_
    | refine useK (by assumption) ?_
    | (refine AW.ret ?_; show (_ ∨ _) ∧ _; refine ⟨.inr rfl, ?_⟩; show resP _ _ _ [.tmp 4] _; simp (disch := omega) only [go_sem, ↓reduceIte, Nat.reduceEqDiff, Nat.reduceAdd, Nat.reduceLeDiff, Nat.reduceMul, Nat.reduceSub, Nat.reduceLT]; refine ⟨_, _, _, Nat.le_refl _, V.le_refl _ _, StLe.refl _, ?_⟩; (try simp (disch := omega) only [go_sem, ↓reduceIte, Nat.reduceEqDiff, Nat.reduceAdd, Nat.reduceLeDiff, Nat.reduceMul, Nat.reduceSub, Nat.reduceLT, hst.trim, hst.trim_append]))
  all_goals (unfold chanS; cases hq : tget t s <;> simp_all)
def tdels (t : Tb) (l : List Str) : Tb := l.foldl tdel t
theorem tdels_at (t : Tb) {l : List Str} {i : Nat} (h : i < l.length) : tdels t (l.take (i + 1)) = tdel (tdels t (l.take i)) l[i] := by
  unfold tdels; rw [take_at h, List.foldl_append]; rfl
theorem tdels_0 (t : Tb) : tdels t [] = t := rfl
theorem map_all {xs : List V} (h : ∀ x ∈ xs, ∀ k, V.trim k x = x) (k : Nat) : xs.map (V.trim k) = xs := map_id' fun x hx => h x hx k
@[go_sem] theorem valsT_trim (k : Nat) (t : Tb) : (valsT t).map (V.trim k) = valsT t := map_all (fun x hx k => by
  obtain ⟨p, _, rfl⟩ := List.mem_map.1 hx; rfl) k
set_option maxRecDepth 100000 in
set_option maxHeartbeats 8000000 in
theorem withoutO_spec (t : Tb) (l : List Str) (hn : l.length ≤ 1000000) (st : List O) : Duo.Call Tryz.prog Tryz.gl 96 [.pmap (keysT t) (valsT t), .sl (l.map .str) none] st (fun v st' => v = .map st.length ∧ st' = st ++ [.map (keysT (tdels t l)) (valsT (tdels t l))]) := by
  refine Duo.Call.clo fun hst => ?_
  refine Duo.Call.body 20 [(0, .pmap (keysT t) (valsT t)), (1, .sl (l.map .str) none)] Tryz.func96 rfl rfl ?_
  repeat' first
    | refine AW.seqK fun K hK => ?_
    | (refine hK _ _ ?_; clear hK K)
    | refine AW.region ?_
    | refine awL_call rfl (by first | exact ent143) (by simp only [go_sem, ↓reduceIte, Nat.reduceEqDiff, Nat.reduceAdd, Nat.reduceLeDiff, Nat.reduceMul, Nat.reduceSub, Nat.reduceLT, List.length_map]; rfl) (by first | exact cloneM_spec _ _ _) rfl ?_
    | refine awL_nil ?_
    | refine awL_S1 rfl rfl (by simp (disch := omega) only [go_sem, ↓reduceIte, Nat.reduceEqDiff, Nat.reduceAdd, Nat.reduceLeDiff, Nat.reduceMul, Nat.reduceSub, Nat.reduceLT, List.length_map]; rfl) ?_
    | (refine AW.condK _ rfl (fun hb => ?_) (fun hb => ?_) <;> (try simp only [Int.ofNat_inj, not_true_eq_false, not_false_eq_true, Bool.false_eq_true, Bool.true_eq_false, decide_eq_true_eq, decide_eq_false_iff_not, Bool.not_eq_true, Bool.not_eq_false, Bool.not_eq_true', Bool.not_eq_false', Int.not_lt, Int.not_le, ne_eq, Decidable.not_not, List.length_map, Bool.and_eq_true, Bool.or_eq_true, Bool.and_eq_false_imp, Int.ofNat_lt, Int.ofNat_le] at hb) <;> try (exfalso; omega))
    | refine AW.block ?_
    | refine bq_s ?_
    | refine bq_o rfl ?_
    | refine tq_e ?_
    | refine AW.exit ?_
    | refine AW.skip ?_
    | refine useK (by assumption) ?_
    | (refine AW.loopS (α := { i : Nat // i ≤ l.length }) 20 (fun i => [(5, .map st.length), (10, .sl (l.map .str) none), (11, .int .i64 l.length), (12, .int .i64 (i.1 : Nat))]) (fun i => st ++ [.map (keysT (tdels t (l.take i.1))) (valsT (tdels t (l.take i.1)))]) (fun i => l.length - i.1) ⟨0, Nat.zero_le _⟩ rfl ?_ ?_ ?_; (focus (simp (disch := omega) only [go_sem, ↓reduceIte, Nat.reduceEqDiff, Nat.reduceAdd, Nat.reduceLeDiff, Nat.reduceMul, Nat.reduceSub, Nat.reduceLT, List.take_zero, tdels_0]; done)); (focus (simp (disch := omega) only [go_sem, ↓reduceIte, Nat.reduceEqDiff, Nat.reduceAdd, Nat.reduceLeDiff, Nat.reduceMul, Nat.reduceSub, Nat.reduceLT, List.take_zero, tdels_0]; done)); rintro ⟨i, hi⟩ hlc; dsimp only)
    | (refine ⟨⟨i + 1, by omega⟩, by simp only []; omega, _, Nat.le_refl _, Nat.le_of_ble_eq_true rfl, ?_, ?_⟩ <;> (simp (disch := omega) only [go_sem, ↓reduceIte, Nat.reduceEqDiff, Nat.reduceAdd, Nat.reduceLeDiff, Nat.reduceMul, Nat.reduceSub, Nat.reduceLT, tdels_at, List.length_append, hlc.trim, hlc.trim_append, trimS_app hst]))
    | (refine AW.ret ?_; show (_ ∨ _) ∧ _; refine ⟨.inr rfl, ?_⟩; show resP _ _ _ [.tmp 4] _; simp (disch := omega) only [go_sem, ↓reduceIte, Nat.reduceEqDiff, Nat.reduceAdd, Nat.reduceLeDiff, Nat.reduceMul, Nat.reduceSub, Nat.reduceLT, List.length_map]; refine ⟨st.length + 1, _, _, Nat.le_add_right _ _, V.le_refl _ _, StLe.refl _, ?_⟩; (try simp (disch := omega) only [go_sem, ↓reduceIte, Nat.reduceEqDiff, Nat.reduceAdd, Nat.reduceLeDiff, Nat.reduceMul, Nat.reduceSub, Nat.reduceLT, List.length_map, hst.trim, hst.trim_append]))
  all_goals (obtain rfl : i = l.length := by omega)
  all_goals (rw [trimS_app hst (by omega)]; simp [O.trim, valsT_trim])
theorem without_spec (t : Tb) (l : List Str) (hn : l.length ≤ 1000000) (st : List O) : Duo.Call Tryz.prog Tryz.gl 96 [.pmap (keysT t) (valsT t), .sl (l.map .str) none] st (fun v st' => v = .pmap (keysT (tdels t l)) (valsT (tdels t l)) ∧ st' = st) := by
  refine Duo.Call.clo fun hst => ?_
  have h1 := Duo.Call.fm st.length (keysT (tdels t l)) (valsT (tdels t l)) (by simp) (fun c hc => by
    obtain ⟨p, _, rfl⟩ := List.mem_map.1 hc
    exact ⟨encVp _, rfl⟩) (withoutO_spec t l hn st)
  have h2 := Duo.Call.forget st.length (Nat.le_refl _) h1
  refine Duo.Call.mono h2 ?_
  rintro v st' ⟨rfl, rfl⟩
  refine ⟨by simp [V.fm, V.trim], ?_⟩
  rw [fm_st0 hst]
  exact hst.trim_append _
theorem without1_spec (t : Tb) (s : Str) (tk : Option Nat) (st : List O) : Duo.Call Tryz.prog Tryz.gl 96 [.pmap (keysT t) (valsT t), .sl [.str s] tk] st (fun v st' => v = .pmap (keysT (tdel t s)) (valsT (tdel t s)) ∧ st' = st) :=
  Duo.Call.argle (show CLe _ [_, _] [_, _] from ⟨V.le_refl _ _, V.le_sl _ _ _, trivial⟩) (without_spec t [s] (by simp) st)
theorem without2_spec (t : Tb) (s u : Str) (tk : Option Nat) (st : List O) : Duo.Call Tryz.prog Tryz.gl 96 [.pmap (keysT t) (valsT t), .sl [.str s, .str u] tk] st (fun v st' => v = .pmap (keysT (tdel (tdel t s) u)) (valsT (tdel (tdel t s) u)) ∧ st' = st) :=
  Duo.Call.argle (show CLe _ [_, _] [_, _] from ⟨V.le_refl _ _, V.le_sl _ _ _, trivial⟩) (without_spec t [s, u] (by simp) st)
set_option maxRecDepth 100000 in
set_option maxHeartbeats 8000000 in
theorem tmapped_spec (kf : Nat) (t : Ty) (hz : t.sz ≤ 1000000) (hl : t.labels.length ≤ 2000000) (hent : ent Tryz.prog kf = true) (h : ∀ x ∈ t.kids, ∀ st, Duo.Call Tryz.prog Tryz.gl kf [encT x] st (fun v st' => v = encT x ∧ st' = st)) (st : List O) : Duo.Call Tryz.prog Tryz.gl 192 [encT t, .func (.func kf) [] []] st (fun v st' => v = encT t ∧ st' = st) := by
  refine Duo.Call.clo fun hst => ?_
  have hzl := Ty.szs_len t.kids
  have hzz := Ty.sz_eq t
  refine Duo.Call.body 29 [(0, encT t), (1, .func (.func kf) [] [])] Tryz.func192 rfl rfl ?_
  repeat' first
    | refine AW.seqK fun K hK => ?_
    | (refine hK _ _ ?_; clear hK K)
    | refine AW.region ?_
    | refine awL_call rfl (by first | exact ent144 | exact hent) (by simp only [go_sem, ↓reduceIte, Nat.reduceEqDiff, Nat.reduceAdd, Nat.reduceLeDiff, Nat.reduceMul, Nat.reduceSub, Nat.reduceLT, List.append_nil, List.length_map, encT_cells' t]; rfl) (by first | exact cloneS_spec _ hl _ | exact h _ (List.getElem_mem (by assumption)) _) rfl ?_
    | refine awL_nil ?_
    | refine awL_S1 rfl rfl (by simp (disch := omega) only [go_sem, ↓reduceIte, Nat.reduceEqDiff, Nat.reduceAdd, Nat.reduceLeDiff, Nat.reduceMul, Nat.reduceSub, Nat.reduceLT, List.append_nil, List.length_map, encT_cells' t]; rfl) ?_
    | (refine AW.condK _ rfl (fun hb => ?_) (fun hb => ?_) <;> (try simp only [Int.ofNat_inj, not_true_eq_false, not_false_eq_true, Bool.false_eq_true, Bool.true_eq_false, decide_eq_true_eq, decide_eq_false_iff_not, Bool.not_eq_true, Bool.not_eq_false, Bool.not_eq_true', Bool.not_eq_false', Int.not_lt, Int.not_le, ne_eq, Decidable.not_not, List.length_map, Bool.and_eq_true, Bool.or_eq_true, Bool.and_eq_false_imp, Int.ofNat_lt, Int.ofNat_le] at hb) <;> try (exfalso; omega))
    | refine AW.block ?_
    | refine bq_s ?_
    | refine bq_o rfl ?_
    | refine tq_e ?_
    | refine AW.exit ?_
    | refine AW.skip ?_
    | refine useK (by assumption) ?_
    | (refine AW.tok 26 6 ?_; rw [List.append_assoc]; simp only [List.cons_append, List.nil_append]; refine AW.loopS (α := { i : Nat // i ≤ t.kids.length }) 29 (fun i => [(1, .func (.func kf) [] []), (2, .ptr st.length 0), (4, .ptr (st.length + 1) 0), (5, .sl ((t.kids.take i.1).map encT) (some (st.length + 2))), (13, .sl (t.kids.map encT) none), (14, .int .i64 t.kids.length), (15, .int .i64 (i.1 : Nat))]) (fun i => st ++ [.box 26 [.int .i64 t.kind, .int .i64 t.prio, .str t.name, .int .i64 t.shift, .sl (t.labels.map .str) none, .sl (t.kids.map encT) none], .box 26 [.int .i64 0, .int .i64 0, .str [], .int .i64 0, .nil, .nil], .tok 26 6 ((t.kids.take i.1).map encT).length]) (fun i => t.kids.length - i.1) ⟨0, Nat.zero_le _⟩ rfl ?_ ?_ ?_; (focus (simp (disch := omega) only [go_sem, ↓reduceIte, Nat.reduceEqDiff, Nat.reduceAdd, Nat.reduceLeDiff, Nat.reduceMul, Nat.reduceSub, Nat.reduceLT, List.take_zero, List.map_nil, List.length_nil, List.length_map]; done)); (focus (simp (disch := omega) only [go_sem, ↓reduceIte, Nat.reduceEqDiff, Nat.reduceAdd, Nat.reduceLeDiff, Nat.reduceMul, Nat.reduceSub, Nat.reduceLT, List.take_zero, List.map_nil, List.length_nil, List.length_map]; done)); rintro ⟨i, hi⟩ hlc; dsimp only; have hnl : (t.kids.take i).length ≤ 1000000 := (by rw [List.length_take]; omega))
    | (refine ⟨⟨i + 1, by omega⟩, by simp only []; omega, _, Nat.le_refl _, Nat.le_of_ble_eq_true rfl, ?_, ?_⟩ <;> (simp (disch := omega) only [go_sem, ↓reduceIte, Nat.reduceEqDiff, Nat.reduceAdd, Nat.reduceLeDiff, Nat.reduceMul, Nat.reduceSub, Nat.reduceLT, take_at, List.map_append, List.map_cons, List.map_nil, List.length_append, List.length_cons, List.length_nil, List.length_map, List.length_append, hlc.trim, hlc.trim_append, trimS_app hst]))
    | (refine AW.ret ?_; show (_ ∨ _) ∧ _; refine ⟨.inr rfl, ?_⟩; show resP _ _ _ [.cell 4 26] _; simp (disch := omega) only [go_sem, ↓reduceIte, Nat.reduceEqDiff, Nat.reduceAdd, Nat.reduceLeDiff, Nat.reduceMul, Nat.reduceSub, Nat.reduceLT, List.append_nil, List.length_map, encT_cells' t]; refine ⟨_, _, _, Nat.le_refl _, V.le_refl _ _, StLe.refl _, ?_⟩; (try simp (disch := omega) only [go_sem, ↓reduceIte, Nat.reduceEqDiff, Nat.reduceAdd, Nat.reduceLeDiff, Nat.reduceMul, Nat.reduceSub, Nat.reduceLT, List.append_nil, List.length_map, encT_cells' t, hst.trim, hst.trim_append]))
  all_goals (rw [List.take_of_length_le (by omega)]; exact (encT_all t).symm)
set_option maxRecDepth 100000 in
set_option maxHeartbeats 8000000 in
theorem tcopy_spec : ∀ (t : Ty) (hz : t.sz ≤ 1000000) (hs : smU t) (st : List O), Duo.Call Tryz.prog Tryz.gl 146 [encT t] st (fun v st' => v = encT t ∧ st' = st) := Ty.ind' fun t ih => by
  intro hz hs st
  refine Duo.Call.clo fun hst => ?_
  refine Duo.Call.body 5 [(0, encT t)] Tryz.func146 rfl rfl ?_
  repeat' first
    | refine AW.seqK fun K hK => ?_
    | (refine hK _ _ ?_; clear hK K)
    | refine AW.region ?_
    | refine awL_call rfl (by first | exact ent192) (by simp only [go_sem, ↓reduceIte, Nat.reduceEqDiff, Nat.reduceAdd, Nat.reduceLeDiff, Nat.reduceMul, Nat.reduceSub, Nat.reduceLT]; rfl) (by first | exact tmapped_spec 146 t hz ((smU_iff t).1 hs).1 ent146 (fun x hx st => ih x hx (by have := Ty.szs_mem hx; have := Ty.sz_eq t; omega) (((smU_iff t).1 hs).2 x hx) st) _) rfl ?_
    | refine awL_nil ?_
    | refine awL_S1 rfl rfl (by simp (disch := omega) only [go_sem, ↓reduceIte, Nat.reduceEqDiff, Nat.reduceAdd, Nat.reduceLeDiff, Nat.reduceMul, Nat.reduceSub, Nat.reduceLT]; rfl) ?_
    | (refine AW.condK _ rfl (fun hb => ?_) (fun hb => ?_) <;> (try simp only [Int.ofNat_inj, not_true_eq_false, not_false_eq_true, Bool.false_eq_true, Bool.true_eq_false, decide_eq_true_eq, decide_eq_false_iff_not, Bool.not_eq_true, Bool.not_eq_false, Bool.not_eq_true', Bool.not_eq_false', Int.not_lt, Int.not_le, ne_eq, Decidable.not_not, List.length_map, Bool.and_eq_true, Bool.or_eq_true, Bool.and_eq_false_imp, Int.ofNat_lt, Int.ofNat_le] at hb) <;> try (exfalso; omega))
    | refine AW.skip ?_
    | refine useK (by assumption) ?_
    | (refine AW.ret ?_; show (_ ∨ _) ∧ _; refine ⟨.inr rfl, ?_⟩; show resP _ _ _ [.cell 2 26] _; simp (disch := omega) only [go_sem, ↓reduceIte, Nat.reduceEqDiff, Nat.reduceAdd, Nat.reduceLeDiff, Nat.reduceMul, Nat.reduceSub, Nat.reduceLT]; refine ⟨_, _, _, Nat.le_refl _, V.le_refl _ _, StLe.refl _, ?_⟩; (try simp (disch := omega) only [go_sem, ↓reduceIte, Nat.reduceEqDiff, Nat.reduceAdd, Nat.reduceLeDiff, Nat.reduceMul, Nat.reduceSub, Nat.reduceLT, hst.trim, hst.trim_append]))
set_option maxRecDepth 100000 in
set_option maxHeartbeats 8000000 in
theorem pcopy_spec : ∀ (t : Pr) (hz : t.sz ≤ 1000000) (ht : tyS t) (ha : smA t) (st : List O), Duo.Call Tryz.prog Tryz.gl 97 [encP t] st (fun v st' => v = encP t ∧ st' = st) := Pr.ind' fun t ih => by
  intro hz ht ha st
  refine Duo.Call.clo fun hst => ?_
  have ha2 := (smA_iff t).1 ha
  have hzl := Pr.szs_len t.kids
  have hzz := Pr.sz_eq t
  have ht2 := (tyS_iff t).1 ht
  refine Duo.Call.body 34 [(0, encP t)] Tryz.func97 rfl rfl ?_
  repeat' first
    | refine AW.seqK fun K hK => ?_
    | (refine hK _ _ ?_; clear hK K)
    | refine AW.region ?_
    | refine AW.any (id := 1) mix 10 (by decide +kernel) ?_
    | refine awL_call rfl (by first | exact ent144 | exact ent145 | exact ent146 | exact ent97) (by simp only [go_sem, ↓reduceIte, Nat.reduceEqDiff, Nat.reduceAdd, Nat.reduceLeDiff, Nat.reduceMul, Nat.reduceSub, Nat.reduceLT, List.length_map, cellsP t]; rfl) (by first | exact cloneS_spec _ ha2.1 _ | exact cloneV_spec _ ha2.2.1 _ | exact tcopy_spec _ (by omega) ha2.2.2.1 _ | exact ih _ (List.getElem_mem (by assumption)) (by have := kidP_sz (t := t) (by assumption); omega) (ht2.2 _ (List.getElem_mem (by assumption))) (ha2.2.2.2 _ (List.getElem_mem (by assumption))) _) rfl ?_
    | refine awA_nil (by simp only [applyUps, List.nil_append, List.cons_append, S0, S2]; rfl) ?_
    | refine awL_nil ?_
    | refine awL_S1 rfl rfl (by simp (disch := omega) only [go_sem, ↓reduceIte, Nat.reduceEqDiff, Nat.reduceAdd, Nat.reduceLeDiff, Nat.reduceMul, Nat.reduceSub, Nat.reduceLT, List.length_map, cellsP t]; rfl) ?_
    | refine awA_call rfl (by first | exact ent144 | exact ent145 | exact ent146 | exact ent97) (by simp only [go_sem, ↓reduceIte, Nat.reduceEqDiff, Nat.reduceAdd, Nat.reduceLeDiff, Nat.reduceMul, Nat.reduceSub, Nat.reduceLT, List.length_map, cellsP t]; rfl) (by first | exact cloneS_spec _ ha2.1 _ | exact cloneV_spec _ ha2.2.1 _ | exact tcopy_spec _ (by omega) ha2.2.2.1 _ | exact ih _ (List.getElem_mem (by assumption)) (by have := kidP_sz (t := t) (by assumption); omega) (ht2.2 _ (List.getElem_mem (by assumption))) (ha2.2.2.2 _ (List.getElem_mem (by assumption))) _) rfl ?_
    | refine awA_S1 rfl rfl (by simp (disch := omega) only [go_sem, ↓reduceIte, Nat.reduceEqDiff, Nat.reduceAdd, Nat.reduceLeDiff, Nat.reduceMul, Nat.reduceSub, Nat.reduceLT, List.length_map, cellsP t]; rfl) ?_
    | (refine AW.condK _ rfl (fun hb => ?_) (fun hb => ?_) <;> (try simp only [Int.ofNat_inj, not_true_eq_false, not_false_eq_true, Bool.false_eq_true, Bool.true_eq_false, decide_eq_true_eq, decide_eq_false_iff_not, Bool.not_eq_true, Bool.not_eq_false, Bool.not_eq_true', Bool.not_eq_false', Int.not_lt, Int.not_le, ne_eq, Decidable.not_not, List.length_map, Bool.and_eq_true, Bool.or_eq_true, Bool.and_eq_false_imp, Int.ofNat_lt, Int.ofNat_le] at hb) <;> try (exfalso; omega))
    | refine AW.block ?_
    | refine bq_s ?_
    | refine bq_o rfl ?_
    | refine tq_e ?_
    | refine AW.exit ?_
    | refine AW.skip ?_
    | refine useK (by assumption) ?_
    | (refine AW.tok 29 12 ?_; rw [List.append_assoc]; simp only [List.cons_append, List.nil_append]; refine AW.loopS (α := { i : Nat // i ≤ t.kids.length }) 34 (fun i => [(1, .ptr st.length 0), (2, .ptr (st.length + 1) 0), (3, .sl ((t.kids.take i.1).map encP) (some (st.length + 2))), (19, .sl (t.kids.map encP) none), (20, .int .i64 t.kids.length), (21, .int .i64 (i.1 : Nat))]) (fun i => st ++ [.box 29 (.int .i64 t.kind :: .str t.chan :: .str t.var :: .sl (t.labels.map .str) none :: .sl (t.args.map encV) none :: ((encT t.typ).cells ++ [.sl (t.kids.map encP) none])), .box 29 ZP, .tok 29 12 ((t.kids.take i.1).map encP).length]) (fun i => t.kids.length - i.1) ⟨0, Nat.zero_le _⟩ rfl ?_ ?_ ?_; (focus (simp (disch := omega) only [go_sem, ↓reduceIte, Nat.reduceEqDiff, Nat.reduceAdd, Nat.reduceLeDiff, Nat.reduceMul, Nat.reduceSub, Nat.reduceLT, List.take_zero, List.map_nil, List.length_nil, List.length_map]; done)); (focus (simp (disch := omega) only [go_sem, ↓reduceIte, Nat.reduceEqDiff, Nat.reduceAdd, Nat.reduceLeDiff, Nat.reduceMul, Nat.reduceSub, Nat.reduceLT, List.take_zero, List.map_nil, List.length_nil, List.length_map]; done)); rintro ⟨i, hi⟩ hlc; dsimp only; have hnl : (t.kids.take i).length ≤ 1000000 := (by rw [List.length_take]; omega))
    | (refine ⟨⟨i + 1, by omega⟩, by simp only []; omega, _, Nat.le_refl _, Nat.le_of_ble_eq_true rfl, ?_, ?_⟩ <;> (simp (disch := omega) only [go_sem, ↓reduceIte, Nat.reduceEqDiff, Nat.reduceAdd, Nat.reduceLeDiff, Nat.reduceMul, Nat.reduceSub, Nat.reduceLT, take_at, List.map_append, List.map_cons, List.map_nil, List.length_append, List.length_cons, List.length_nil, List.length_map, List.length_append, hlc.trim, hlc.trim_append, trimS_app hst]))
    | (refine AW.ret ?_; show (_ ∨ _) ∧ _; refine ⟨.inr rfl, ?_⟩; show resP _ _ _ [.cell 2 29] _; simp (disch := omega) only [go_sem, ↓reduceIte, Nat.reduceEqDiff, Nat.reduceAdd, Nat.reduceLeDiff, Nat.reduceMul, Nat.reduceSub, Nat.reduceLT, List.length_map, cellsP t]; refine ⟨_, _, _, Nat.le_refl _, V.le_refl _ _, StLe.refl _, ?_⟩; (try simp (disch := omega) only [go_sem, ↓reduceIte, Nat.reduceEqDiff, Nat.reduceAdd, Nat.reduceLeDiff, Nat.reduceMul, Nat.reduceSub, Nat.reduceLT, List.length_map, cellsP t, hst.trim, hst.trim_append]))
  all_goals (rw [List.take_of_length_le (by omega)]; exact foldP t)
theorem pcopyN_spec (k : Int) (c v : Str) (l : List Str) (a : List Vl) (ty : Ty) (hz : ty.sz ≤ 300) (hl : l.length ≤ 2000000) (ha : a.length ≤ 2000000) (hs : smU ty) (st : List O) : Duo.Call Tryz.prog Tryz.gl 97 [.agg (.int .i64 k :: .str c :: .str v :: .sl (l.map .str) none :: .sl (a.map encV) none :: ((encT ty).cells ++ [.nil]))] st (fun w st' => w = .agg (.int .i64 k :: .str c :: .str v :: .sl (l.map .str) none :: .sl (a.map encV) none :: ((encT ty).cells ++ [.sl [] none])) ∧ st' = st) := by
  have h := pcopy_spec (.mk k c v l a ty []) (by rw [Pr.sz_eq]; simp [Pr.kids, Pr.szs]) ((tyS_iff _).2 ⟨hz, by simp [Pr.kids]⟩) ((smA_iff _).2 ⟨hl, ha, hs, by simp [Pr.kids]⟩) st
  rw [encP_mk] at h
  exact Duo.Call.argle (show CLe _ [_] [_] from ⟨V.le_aggL (CLe_last (.int .i64 k :: .str c :: .str v :: .sl (l.map .str) none :: .sl (a.map encV) none :: (encT ty).cells) (V.le_nil _)), trivial⟩) h
set_option maxRecDepth 100000 in
set_option maxHeartbeats 8000000 in
theorem sub_spec : ∀ (p : Pr) (t : Tb) (hz : p.sz ≤ 1000000) (ht : tyS p) (ha : smA p) (ho : okTb t) (st : List O), Duo.Call Tryz.prog Tryz.gl 59 [.pmap (keysT t) (valsT t), encP p] st (fun v st' => v = encP (subP t p) ∧ st' = st) := Pr.ind' fun p ih => by
  intro t hz ht ha ho st
  refine Duo.Call.clo fun hst => ?_
  have hzl := Pr.szs_len p.kids
  have hzz := Pr.sz_eq p
  have ht2 := (tyS_iff p).1 ht
  have ha2 := (smA_iff p).1 ha
  refine Duo.Call.body 52 [(0, .pmap (keysT t) (valsT t)), (1, encP p)] Tryz.func59 rfl rfl ?_
  repeat' first
    | refine AW.seqK fun K hK => ?_
    | (refine hK _ _ ?_; clear hK K)
    | refine AW.region ?_
    | refine awL_call rfl (by first | exact ent94 | exact ent95 | exact ent96 | exact ent97 | exact ent98 | exact ent100) (by simp only [go_sem, ↓reduceIte, Nat.reduceEqDiff, Nat.reduceAdd, Nat.reduceLeDiff, Nat.reduceMul, Nat.reduceSub, Nat.reduceLT, cellsP p, foldP p, List.append_nil]; rfl) (by first | exact prefix_spec p _ | exact channel_spec t p.chan (fun v hv => ho.get hv) _ | exact without1_spec t _ _ _ | exact without2_spec t _ _ _ _ | exact pcopyN_spec _ _ _ _ _ _ ht2.1 ha2.1 ha2.2.1 ha2.2.2.1 _ | exact mapV_spec 99 t p.args (valS t) ha2.2.1 ent99 (fun x _ st => tabval_spec t x st) _ | exact mapP_spec 59 (t) p.kids (subP (t)) (by omega) ent59 (fun x hx st => ih x hx (t) (by have := Pr.szs_mem hx; omega) (ht2.2 x hx) (ha2.2.2.2 x hx) (ho) st) _ | exact mapP_spec 59 (tdel t p.var) p.kids (subP (tdel t p.var)) (by omega) ent59 (fun x hx st => ih x hx (tdel t p.var) (by have := Pr.szs_mem hx; omega) (ht2.2 x hx) (ha2.2.2.2 x hx) (ho.del _) st) _ | exact mapP_spec 59 (tdel (tdel t p.chan) p.var) p.kids (subP (tdel (tdel t p.chan) p.var)) (by omega) ent59 (fun x hx st => ih x hx (tdel (tdel t p.chan) p.var) (by have := Pr.szs_mem hx; omega) (ht2.2 x hx) (ha2.2.2.2 x hx) ((ho.del _).del _) st) _) rfl ?_
    | refine awL_nil ?_
    | refine awL_S1 rfl rfl (by simp (disch := omega) only [go_sem, ↓reduceIte, Nat.reduceEqDiff, Nat.reduceAdd, Nat.reduceLeDiff, Nat.reduceMul, Nat.reduceSub, Nat.reduceLT, cellsP p, foldP p, List.append_nil]; rfl) ?_
    | (refine AW.condK _ rfl (fun hb => ?_) (fun hb => ?_) <;> (try simp only [Int.ofNat_inj, not_true_eq_false, not_false_eq_true, Bool.false_eq_true, Bool.true_eq_false, decide_eq_true_eq, decide_eq_false_iff_not, Bool.not_eq_true, Bool.not_eq_false, Bool.not_eq_true', Bool.not_eq_false', Int.not_lt, Int.not_le, ne_eq, Decidable.not_not, List.length_map, Bool.and_eq_true, Bool.or_eq_true, Bool.and_eq_false_imp, Int.ofNat_lt, Int.ofNat_le] at hb) <;> try (exfalso; omega))
    | refine AW.block ?_
    | refine bq_s ?_
    | refine bq_o rfl ?_
    | refine tq_e ?_
    | refine AW.exit ?_
    | refine AW.skip ?_
    | refine useK (by assumption) ?_
    | (refine AW.ret ?_; show (_ ∨ _) ∧ _; refine ⟨.inr rfl, ?_⟩; show resP _ _ _ [.cell 4 29] _; simp (disch := omega) only [go_sem, ↓reduceIte, Nat.reduceEqDiff, Nat.reduceAdd, Nat.reduceLeDiff, Nat.reduceMul, Nat.reduceSub, Nat.reduceLT, cellsP p, foldP p, List.append_nil]; refine ⟨_, _, _, Nat.le_refl _, V.le_refl _ _, StLe.refl _, ?_⟩; (try simp (disch := omega) only [go_sem, ↓reduceIte, Nat.reduceEqDiff, Nat.reduceAdd, Nat.reduceLeDiff, Nat.reduceMul, Nat.reduceSub, Nat.reduceLT, cellsP p, foldP p, List.append_nil, hst.trim, hst.trim_append]))
  all_goals (rw [subP_eq, encP_mk]; simp_all [innerS])
theorem valsT_pure (t : Tb) : ∀ c ∈ valsT t, PureV c ∧ c.bare = c := fun c hc => by
  obtain ⟨p, _, rfl⟩ := List.mem_map.1 hc
  exact ⟨encVp _, rfl⟩
@[go_sem] theorem setK0 (k v : V) : setK k v [] [] = .map [k] [v] := rfl
end Tryz
end Go.Proofs
