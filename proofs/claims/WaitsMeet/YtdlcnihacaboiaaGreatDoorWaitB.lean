/-
  A part of the proof.
-/
import Derived.Test.YtdlcnihacaboiaaGreatDoorWaitLib
import Derived.Test.YtdlcnihacaboiaaGreatDoorGO
import Derived.Test.YtdlcnihacaboiaaGreatDoorDS3
import Derived.Test.YtdlcnihacaboiaaGreatDoorGJ
import Derived.Test.YtdlcnihacaboiaaGreatDoorGP
import Derived.Test.YtdlcnihacaboiaaGreatDoorSubD
set_option linter.all false
namespace Go.Proofs
open Go Go.Duo
namespace Tryz
attribute [local irreducible] awL awA awT AW
set_option maxRecDepth 100000 in
set_option maxHeartbeats 8000000 in
theorem rname_spec (k : Int) (p : Bool) (h0 : 0 ≤ k) (h1 : k ≤ 9223372036854775807) (st : List O) : Duo.Call Tryz.prog Tryz.gl2 67 [.int .i64 k, .bool p] st (fun v st' => v = .str (nameL k p) ∧ st' = st) := by
  refine Duo.Call.clo fun hst => ?_
  have hl := Lib.itoa_length_le k (by omega) h1
  refine Duo.Call.body 12 [(0, .int .i64 k), (1, .bool p)] Tryz.func67 rfl rfl ?_
  repeat' first
    | refine AW.seqK fun K hK => ?_
    | (refine hK _ _ ?_; clear hK K)
    | refine AW.region ?_
    | refine awL_call rfl (by first | exact ent17) (by simp only [go_sem, ↓reduceIte, Nat.reduceEqDiff, Nat.reduceAdd, Nat.reduceLeDiff, Nat.reduceMul, Nat.reduceSub, Nat.reduceLT]; rfl) (by first | exact up (decimal_spec _ (by omega) (by omega) _)) rfl ?_
    | refine awL_nil ?_
    | refine awL_S1 rfl rfl (by simp (disch := omega) only [go_sem, ↓reduceIte, Nat.reduceEqDiff, Nat.reduceAdd, Nat.reduceLeDiff, Nat.reduceMul, Nat.reduceSub, Nat.reduceLT]; rfl) ?_
    | (refine AW.condK _ rfl (fun hb => ?_) (fun hb => ?_) <;> (try simp only [Int.ofNat_inj, not_true_eq_false, not_false_eq_true, Bool.false_eq_true, Bool.true_eq_false, decide_eq_true_eq, decide_eq_false_iff_not, Bool.not_eq_true, Bool.not_eq_false, Bool.not_eq_true', Bool.not_eq_false', Int.not_lt, Int.not_le, ne_eq, Decidable.not_not, List.length_map, Bool.and_eq_true, Bool.or_eq_true, Bool.and_eq_false_imp, Int.ofNat_lt, Int.ofNat_le] at hb) <;> try (exfalso; omega))
    | refine AW.skip ?_
    | refine useK (by assumption) ?_
    | (refine AW.ret ?_; show (_ ∨ _) ∧ _; refine ⟨.inr rfl, ?_⟩; show resP _ _ _ [.tmp 4] _; simp (disch := omega) only [go_sem, ↓reduceIte, Nat.reduceEqDiff, Nat.reduceAdd, Nat.reduceLeDiff, Nat.reduceMul, Nat.reduceSub, Nat.reduceLT]; refine ⟨_, _, _, Nat.le_refl _, V.le_refl _ _, StLe.refl _, ?_⟩; (try simp (disch := omega) only [go_sem, ↓reduceIte, Nat.reduceEqDiff, Nat.reduceAdd, Nat.reduceLeDiff, Nat.reduceMul, Nat.reduceSub, Nat.reduceLT, hst.trim, hst.trim_append]))
  all_goals (unfold nameL; simp_all)
set_option maxRecDepth 100000 in
set_option maxHeartbeats 8000000 in
theorem pname_spec (k : Int) (p : Bool) (h0 : -9223372036854775808 ≤ k) (h1 : k ≤ 9223372036854775807) (st : List O) : Duo.Call Tryz.prog Tryz.gl2 76 [.int .i64 k, .bool p] st (fun v st' => v = .str (nameL k p) ∧ st' = st) := by
  refine Duo.Call.clo fun hst => ?_
  have hl := Lib.itoa_length_le k (by omega) h1
  refine Duo.Call.body 12 [(0, .int .i64 k), (1, .bool p)] Tryz.func76 rfl rfl ?_
  repeat' first
    | refine AW.seqK fun K hK => ?_
    | (refine hK _ _ ?_; clear hK K)
    | refine AW.region ?_
    | refine awL_call rfl (by first | exact ent108) (by simp only [go_sem, ↓reduceIte, Nat.reduceEqDiff, Nat.reduceAdd, Nat.reduceLeDiff, Nat.reduceMul, Nat.reduceSub, Nat.reduceLT]; rfl) (by first | exact itoa_spec _ (by omega) (by omega) _) rfl ?_
    | refine awL_nil ?_
    | refine awL_S1 rfl rfl (by simp (disch := omega) only [go_sem, ↓reduceIte, Nat.reduceEqDiff, Nat.reduceAdd, Nat.reduceLeDiff, Nat.reduceMul, Nat.reduceSub, Nat.reduceLT]; rfl) ?_
    | (refine AW.condK _ rfl (fun hb => ?_) (fun hb => ?_) <;> (try simp only [Int.ofNat_inj, not_true_eq_false, not_false_eq_true, Bool.false_eq_true, Bool.true_eq_false, decide_eq_true_eq, decide_eq_false_iff_not, Bool.not_eq_true, Bool.not_eq_false, Bool.not_eq_true', Bool.not_eq_false', Int.not_lt, Int.not_le, ne_eq, Decidable.not_not, List.length_map, Bool.and_eq_true, Bool.or_eq_true, Bool.and_eq_false_imp, Int.ofNat_lt, Int.ofNat_le] at hb) <;> try (exfalso; omega))
    | refine AW.skip ?_
    | refine useK (by assumption) ?_
    | (refine AW.ret ?_; show (_ ∨ _) ∧ _; refine ⟨.inr rfl, ?_⟩; show resP _ _ _ [.tmp 4] _; simp (disch := omega) only [go_sem, ↓reduceIte, Nat.reduceEqDiff, Nat.reduceAdd, Nat.reduceLeDiff, Nat.reduceMul, Nat.reduceSub, Nat.reduceLT]; refine ⟨_, _, _, Nat.le_refl _, V.le_refl _ _, StLe.refl _, ?_⟩; (try simp (disch := omega) only [go_sem, ↓reduceIte, Nat.reduceEqDiff, Nat.reduceAdd, Nat.reduceLeDiff, Nat.reduceMul, Nat.reduceSub, Nat.reduceLT, hst.trim, hst.trim_append]))
  all_goals (unfold nameL; simp_all)
theorem u8dec (x : UInt8) : decide ((x.toNat : Int) = 43) = decide (x = 43) := by
  refine decide_eq_decide.2 ⟨fun h => UInt8.toNat.inj (by simpa using (show x.toNat = 43 by omega)), fun h => by rw [h]; rfl⟩
theorem fold0 : ((foldD 0 ([] : Str) : Nat) : Int) = 0 := rfl
set_option maxRecDepth 100000 in
set_option maxHeartbeats 8000000 in
theorem rendpoint_spec (s : Str) (hs : s.length ≤ 9223372036854775807) (st : List O) : Duo.Call Tryz.prog Tryz.gl2 74 [.str s] st (fun v st' => v = epV s ∧ st' = st) := by
  refine Duo.Call.clo fun hst => ?_
  refine Duo.Call.body 61 [(0, .str s)] Tryz.func74 rfl rfl ?_
  repeat' first
    | refine AW.seqK fun K hK => ?_
    | (refine hK _ _ ?_; clear hK K)
    | refine AW.region ?_
    | refine AW.any (id := 12) mix 8 (by decide +kernel) ?_
    | refine awL_call rfl (by first | exact ent67) (by simp only [go_sem, ↓reduceIte, Nat.reduceEqDiff, Nat.reduceAdd, Nat.reduceLeDiff, Nat.reduceMul, Nat.reduceSub, Nat.reduceLT]; rfl) (by first | exact rname_spec _ _ (by omega) (by omega) _) rfl ?_
    | refine awA_nil (by simp only [applyUps, List.nil_append, List.cons_append, S0, S2]; rfl) ?_
    | refine awL_nil ?_
    | (refine awL_gno rfl ?_ rfl ?_; focus (simp only [S0, ↓reduceIte, Nat.reduceEqDiff, Bool.not_true, Bool.not_false]; done))
    | (refine awL_gyes rfl ?_ ?_; focus (simp only [S0, ↓reduceIte, Nat.reduceEqDiff, Bool.not_true, Bool.not_false]; done))
    | refine awL_hole rfl rfl rfl rfl ?_
    | (refine awL_gcase rfl rfl (fun hg => ?_) (fun hg => ?_) <;> (rw [hg]; (try simp only [Int.ofNat_inj, not_true_eq_false, not_false_eq_true, Bool.false_eq_true, Bool.true_eq_false, decide_eq_true_eq, decide_eq_false_iff_not, Bool.not_eq_true, Bool.not_eq_false, Bool.not_eq_true', Bool.not_eq_false', Int.not_lt, Int.not_le, ne_eq, Decidable.not_not, List.length_map, Bool.and_eq_true, Bool.or_eq_true, Bool.and_eq_false_imp, Int.ofNat_lt, Int.ofNat_le] at hg); try (exfalso; omega)))
    | refine awL_S1 rfl rfl (by simp (disch := omega) only [go_sem, ↓reduceIte, Nat.reduceEqDiff, Nat.reduceAdd, Nat.reduceLeDiff, Nat.reduceMul, Nat.reduceSub, Nat.reduceLT]; rfl) ?_
    | refine awA_call rfl (by first | exact ent67) (by simp only [go_sem, ↓reduceIte, Nat.reduceEqDiff, Nat.reduceAdd, Nat.reduceLeDiff, Nat.reduceMul, Nat.reduceSub, Nat.reduceLT]; rfl) (by first | exact rname_spec _ _ (by omega) (by omega) _) rfl ?_
    | refine awA_S1 rfl rfl (by simp (disch := omega) only [go_sem, ↓reduceIte, Nat.reduceEqDiff, Nat.reduceAdd, Nat.reduceLeDiff, Nat.reduceMul, Nat.reduceSub, Nat.reduceLT]; rfl) ?_
    | (refine AW.condK _ rfl (fun hb => ?_) (fun hb => ?_) <;> (try simp only [Int.ofNat_inj, not_true_eq_false, not_false_eq_true, Bool.false_eq_true, Bool.true_eq_false, decide_eq_true_eq, decide_eq_false_iff_not, Bool.not_eq_true, Bool.not_eq_false, Bool.not_eq_true', Bool.not_eq_false', Int.not_lt, Int.not_le, ne_eq, Decidable.not_not, List.length_map, Bool.and_eq_true, Bool.or_eq_true, Bool.and_eq_false_imp, Int.ofNat_lt, Int.ofNat_le] at hb) <;> try (exfalso; omega))
    | refine AW.block ?_
    | refine bq_s ?_
    | refine bq_o rfl ?_
    | refine tq_e ?_
    | refine AW.exit ?_
    | refine AW.skip ?_
    | refine useK (by assumption) ?_
    | (refine AW.loopS (α := { i : Nat // i ≤ s.length - 1 ∧ ∀ c ∈ s.take i, dig c = true }) 61 (fun i => [(0, .str s), (5, .int .i64 (foldD 0 (s.take i.1) : Nat)), (6, .int .i64 (i.1 : Nat))]) (fun i => st) (fun i => s.length - i.1) ⟨0, Nat.zero_le _, by simp⟩ rfl ?_ ?_ ?_; (focus (simp (disch := omega) only [go_sem, ↓reduceIte, Nat.reduceEqDiff, Nat.reduceAdd, Nat.reduceLeDiff, Nat.reduceMul, Nat.reduceSub, Nat.reduceLT, fold0, List.take_zero]; done)); (focus (simp (disch := omega) only [go_sem, ↓reduceIte, Nat.reduceEqDiff, Nat.reduceAdd, Nat.reduceLeDiff, Nat.reduceMul, Nat.reduceSub, Nat.reduceLT, fold0, List.take_zero]; done)); rintro ⟨i, hi, hpre⟩ hlc; dsimp only; have hbd := foldD_bound hpre (by rw [List.length_take]; omega))
    | (have hlt : i < s.length := (by omega); have huk := foldD_take hlt; have hp : ((foldD 0 (s.take (i + 1)) : Nat) : Int) = 10 * (foldD 0 (s.take i) : Nat) + (s[i].toNat : Int) - 48 := (by omega); refine ⟨⟨i + 1, by omega, dig_take (by omega) hpre (by omega) (by omega)⟩, by simp only []; omega, _, Nat.le_refl _, Nat.le_of_ble_eq_true rfl, ?_, ?_⟩ <;> (simp (disch := omega) only [go_sem, ↓reduceIte, Nat.reduceEqDiff, Nat.reduceAdd, Nat.reduceLeDiff, Nat.reduceMul, Nat.reduceSub, Nat.reduceLT, hp, List.length_append, hlc.trim, hlc.trim_append, trimS_app hst]))
    | (refine AW.ret ?_; show (_ ∨ _) ∧ _; refine ⟨.inr rfl, ?_⟩; show resP _ _ _ [.tmp 2, .tmp 3, .tmp 4] _; simp (disch := omega) only [go_sem, ↓reduceIte, Nat.reduceEqDiff, Nat.reduceAdd, Nat.reduceLeDiff, Nat.reduceMul, Nat.reduceSub, Nat.reduceLT]; refine ⟨_, _, _, Nat.le_refl _, V.le_refl _ _, StLe.refl _, ?_⟩; (try simp (disch := omega) only [go_sem, ↓reduceIte, Nat.reduceEqDiff, Nat.reduceAdd, Nat.reduceLeDiff, Nat.reduceMul, Nat.reduceSub, Nat.reduceLT, hst.trim, hst.trim_append]))
  all_goals (rw [← epV_eq]; first | (rw [ref_short (by omega)]; done) | (rw [ref_nodig (i := i) (by omega) (by omega) (by omega)]; done) | ((obtain rfl : i = s.length - 1 := (by omega)); first | (rw [ref_noname (.inl (by omega))]; done) | (rw [ref_noname (.inr ⟨by assumption, by assumption⟩)]; done) | (rw [ref_name (n := foldD 0 (List.take (s.length - 1) s)) (by omega) (by omega) (.inr (by assumption)), u8dec]; done) | (rw [ref_name (n := foldD 0 (List.take (s.length - 1) s)) (by omega) (by omega) (.inl (by assumption)), u8dec]; done)) | trace_state)
theorem ifcE_par (s : Str) : ifcE Tryz.prog 150 .neq (parE s) = some (.bool (!parOK s)) := by
  have h : isIfc Tryz.prog 150 = true := by kernel_rfl
  unfold ifcE parE parOK
  cases Lib.parseIntB 32 s <;> simp [h]
theorem snoc_ne (a : Str) (c : UInt8) : (a ++ [c] = []) = False := by simp
theorem cast1 (n : Nat) : ((n + 1 : Nat) : Int) - 1 = (n : Int) := by omega
set_option maxRecDepth 100000 in
set_option maxHeartbeats 8000000 in
theorem pendn_spec  (st : List O) : Duo.Call Tryz.prog Tryz.gl2 75 [.str ([] : Str)] st (fun v st' => v = epV [] ∧ st' = st) := by
  refine Duo.Call.clo fun hst => ?_
  refine Duo.Call.body 41 [(0, .str ([] : Str))] Tryz.func75 rfl rfl ?_
  repeat' first
    | refine AW.seqK fun K hK => ?_
    | (refine hK _ _ ?_; clear hK K)
    | refine AW.region ?_
    | refine AW.any (id := 7) mix 6 (by decide +kernel) ?_
    | refine awA_nil (by simp only [applyUps, List.nil_append, List.cons_append, S0, S2]; rfl) ?_
    | refine awL_nil ?_
    | (refine awL_gno rfl ?_ rfl ?_; focus (simp only [S0, ↓reduceIte, Nat.reduceEqDiff, Bool.not_true, Bool.not_false]; done))
    | (refine awL_gyes rfl ?_ ?_; focus (simp only [S0, ↓reduceIte, Nat.reduceEqDiff, Bool.not_true, Bool.not_false]; done))
    | refine awL_hole rfl rfl rfl rfl ?_
    | (refine awL_gcase rfl rfl (fun hg => ?_) (fun hg => ?_) <;> (rw [hg]; (try simp only [Int.ofNat_inj, not_true_eq_false, not_false_eq_true, Bool.false_eq_true, Bool.true_eq_false, decide_eq_true_eq, decide_eq_false_iff_not, Bool.not_eq_true, Bool.not_eq_false, Bool.not_eq_true', Bool.not_eq_false', Int.not_lt, Int.not_le, ne_eq, Decidable.not_not, List.length_map, Bool.and_eq_true, Bool.or_eq_true, Bool.and_eq_false_imp, Int.ofNat_lt, Int.ofNat_le] at hg); try (exfalso; omega)))
    | refine awL_S1 rfl rfl (by simp (disch := omega) only [go_sem, ↓reduceIte, Nat.reduceEqDiff, Nat.reduceAdd, Nat.reduceLeDiff, Nat.reduceMul, Nat.reduceSub, Nat.reduceLT]; rfl) ?_
    | refine awA_S1 rfl rfl (by simp (disch := omega) only [go_sem, ↓reduceIte, Nat.reduceEqDiff, Nat.reduceAdd, Nat.reduceLeDiff, Nat.reduceMul, Nat.reduceSub, Nat.reduceLT]; rfl) ?_
    | (refine AW.condK _ rfl (fun hb => ?_) (fun hb => ?_) <;> (try simp only [Int.ofNat_inj, not_true_eq_false, not_false_eq_true, Bool.false_eq_true, Bool.true_eq_false, decide_eq_true_eq, decide_eq_false_iff_not, Bool.not_eq_true, Bool.not_eq_false, Bool.not_eq_true', Bool.not_eq_false', Int.not_lt, Int.not_le, ne_eq, Decidable.not_not, List.length_map, Bool.and_eq_true, Bool.or_eq_true, Bool.and_eq_false_imp, Int.ofNat_lt, Int.ofNat_le] at hb) <;> try (exfalso; omega))
    | refine AW.skip ?_
    | refine useK (by assumption) ?_
    | (refine AW.ret ?_; show (_ ∨ _) ∧ _; refine ⟨.inr rfl, ?_⟩; show resP _ _ _ [.tmp 2, .tmp 3, .tmp 4] _; simp (disch := omega) only [go_sem, ↓reduceIte, Nat.reduceEqDiff, Nat.reduceAdd, Nat.reduceLeDiff, Nat.reduceMul, Nat.reduceSub, Nat.reduceLT]; refine ⟨_, _, _, Nat.le_refl _, V.le_refl _ _, StLe.refl _, ?_⟩; (try simp (disch := omega) only [go_sem, ↓reduceIte, Nat.reduceEqDiff, Nat.reduceAdd, Nat.reduceLeDiff, Nat.reduceMul, Nat.reduceSub, Nat.reduceLT, hst.trim, hst.trim_append]))
  all_goals (rw [← epV_eq]; unfold epV; rw [epL_nil])
set_option maxRecDepth 100000 in
set_option maxHeartbeats 8000000 in
theorem pends_spec (a : Str) (c : UInt8) (hal : a.length ≤ 2147483647) (st : List O) : Duo.Call Tryz.prog Tryz.gl2 75 [.str (a ++ [c])] st (fun v st' => v = epV (a ++ [c]) ∧ st' = st) := by
  refine Duo.Call.clo fun hst => ?_
  refine Duo.Call.body 41 [(0, .str (a ++ [c]))] Tryz.func75 rfl rfl ?_
  repeat' first
    | refine AW.seqK fun K hK => ?_
    | (refine hK _ _ ?_; clear hK K)
    | refine AW.region ?_
    | refine AW.any (id := 7) mix 6 (by decide +kernel) ?_
    | refine awL_call rfl (by first | exact ent107 | exact ent76) (by simp only [go_sem, ↓reduceIte, Nat.reduceEqDiff, Nat.reduceAdd, Nat.reduceLeDiff, Nat.reduceMul, Nat.reduceSub, Nat.reduceLT, ifcE_par, snoc_len, snoc_drop, snoc_take, snoc_take1, parV_eq, List.take_length, List.length_append, List.length_cons, List.length_nil, snoc_ne, cast1, Nat.add_sub_cancel, decide_false]; rfl) (by first | exact parse_spec a (by omega) _ | exact pname_spec (parN a) _ (by have := parN_ge (s := a) (by assumption); omega) (by have := parseIntB_ok (par_ok (s := a) (by assumption)); omega) _) rfl ?_
    | refine awA_nil (by simp only [applyUps, List.nil_append, List.cons_append, S0, S2]; rfl) ?_
    | refine awL_nil ?_
    | (refine awL_gno rfl ?_ rfl ?_; focus (simp only [S0, ↓reduceIte, Nat.reduceEqDiff, Bool.not_true, Bool.not_false]; done))
    | (refine awL_gyes rfl ?_ ?_; focus (simp only [S0, ↓reduceIte, Nat.reduceEqDiff, Bool.not_true, Bool.not_false]; done))
    | refine awL_hole rfl rfl rfl rfl ?_
    | (refine awL_gcase rfl rfl (fun hg => ?_) (fun hg => ?_) <;> (rw [hg]; (try simp only [Int.ofNat_inj, not_true_eq_false, not_false_eq_true, Bool.false_eq_true, Bool.true_eq_false, decide_eq_true_eq, decide_eq_false_iff_not, Bool.not_eq_true, Bool.not_eq_false, Bool.not_eq_true', Bool.not_eq_false', Int.not_lt, Int.not_le, ne_eq, Decidable.not_not, List.length_map, Bool.and_eq_true, Bool.or_eq_true, Bool.and_eq_false_imp, Int.ofNat_lt, Int.ofNat_le, snoc_ne, decide_false] at hg); try (exfalso; omega)))
    | refine awL_S1 rfl rfl (by simp (disch := omega) only [go_sem, ↓reduceIte, Nat.reduceEqDiff, Nat.reduceAdd, Nat.reduceLeDiff, Nat.reduceMul, Nat.reduceSub, Nat.reduceLT, ifcE_par, snoc_len, snoc_drop, snoc_take, snoc_take1, parV_eq, List.take_length, List.length_append, List.length_cons, List.length_nil, snoc_ne, cast1, Nat.add_sub_cancel, decide_false]; rfl) ?_
    | refine awA_call rfl (by first | exact ent107 | exact ent76) (by simp only [go_sem, ↓reduceIte, Nat.reduceEqDiff, Nat.reduceAdd, Nat.reduceLeDiff, Nat.reduceMul, Nat.reduceSub, Nat.reduceLT, ifcE_par, snoc_len, snoc_drop, snoc_take, snoc_take1, parV_eq, List.take_length, List.length_append, List.length_cons, List.length_nil, snoc_ne, cast1, Nat.add_sub_cancel, decide_false]; rfl) (by first | exact parse_spec a (by omega) _ | exact pname_spec (parN a) _ (by have := parN_ge (s := a) (by assumption); omega) (by have := parseIntB_ok (par_ok (s := a) (by assumption)); omega) _) rfl ?_
    | refine awA_S1 rfl rfl (by simp (disch := omega) only [go_sem, ↓reduceIte, Nat.reduceEqDiff, Nat.reduceAdd, Nat.reduceLeDiff, Nat.reduceMul, Nat.reduceSub, Nat.reduceLT, ifcE_par, snoc_len, snoc_drop, snoc_take, snoc_take1, parV_eq, List.take_length, List.length_append, List.length_cons, List.length_nil, snoc_ne, cast1, Nat.add_sub_cancel, decide_false]; rfl) ?_
    | (refine AW.condK _ rfl (fun hb => ?_) (fun hb => ?_) <;> (try simp only [Int.ofNat_inj, not_true_eq_false, not_false_eq_true, Bool.false_eq_true, Bool.true_eq_false, decide_eq_true_eq, decide_eq_false_iff_not, Bool.not_eq_true, Bool.not_eq_false, Bool.not_eq_true', Bool.not_eq_false', Int.not_lt, Int.not_le, ne_eq, Decidable.not_not, List.length_map, Bool.and_eq_true, Bool.or_eq_true, Bool.and_eq_false_imp, Int.ofNat_lt, Int.ofNat_le, snoc_ne, decide_false] at hb) <;> try (exfalso; omega))
    | refine AW.skip ?_
    | refine useK (by assumption) ?_
    | (refine AW.ret ?_; show (_ ∨ _) ∧ _; refine ⟨.inr rfl, ?_⟩; show resP _ _ _ [.tmp 2, .tmp 3, .tmp 4] _; simp (disch := omega) only [go_sem, ↓reduceIte, Nat.reduceEqDiff, Nat.reduceAdd, Nat.reduceLeDiff, Nat.reduceMul, Nat.reduceSub, Nat.reduceLT, ifcE_par, snoc_len, snoc_drop, snoc_take, snoc_take1, parV_eq, List.take_length, List.length_append, List.length_cons, List.length_nil, snoc_ne, cast1, Nat.add_sub_cancel, decide_false]; refine ⟨_, _, _, Nat.le_refl _, V.le_refl _ _, StLe.refl _, ?_⟩; (try simp (disch := omega) only [go_sem, ↓reduceIte, Nat.reduceEqDiff, Nat.reduceAdd, Nat.reduceLeDiff, Nat.reduceMul, Nat.reduceSub, Nat.reduceLT, ifcE_par, snoc_len, snoc_drop, snoc_take, snoc_take1, parV_eq, List.take_length, List.length_append, List.length_cons, List.length_nil, snoc_ne, cast1, Nat.add_sub_cancel, decide_false, hst.trim, hst.trim_append]))
  all_goals rw [← epV_eq]
  · rw [epL_prog_none fun k hk _ => absurd (par_of_ok hk).1 (by simp_all)]
  · rw [epL_prog_none fun k hk h => absurd ((par_of_ok hk).2 ▸ h) (by assumption)]
  · rw [epL_prog_none fun k hk h => (par_of_ok hk).2 ▸ (by assumption)]
  · rw [epL_prog_some (par_ok (by assumption)) (by assumption) (by omega)]
theorem pendpoint_spec (s : Str) (hsz : s.length ≤ 2147483647) (st : List O) : Duo.Call Tryz.prog Tryz.gl2 75 [.str s] st (fun v st' => v = epV s ∧ st' = st) := by
  by_cases hs : s = []
  · subst hs; exact pendn_spec st
  · obtain ⟨a, c, rfl⟩ := snoc s hs
    exact pends_spec a c (by rw [List.length_append] at hsz; omega) st
set_option maxRecDepth 100000 in
set_option maxHeartbeats 8000000 in
theorem rdual_spec (s : Str) (hs : s.length ≤ 2147483647) (st : List O) : Duo.Call Tryz.prog Tryz.gl2 68 [.str s] st (fun v st' => v = dualV s ∧ st' = st) := by
  refine Duo.Call.clo fun hst => ?_
  have hek := epK_lt s
  refine Duo.Call.body 19 [(0, .str s)] Tryz.func68 rfl rfl ?_
  repeat' first
    | refine AW.seqK fun K hK => ?_
    | (refine hK _ _ ?_; clear hK K)
    | refine AW.region ?_
    | refine awL_call rfl (by first | exact ent74 | exact ent67) (by simp only [go_sem, ↓reduceIte, Nat.reduceEqDiff, Nat.reduceAdd, Nat.reduceLeDiff, Nat.reduceMul, Nat.reduceSub, Nat.reduceLT, epV_eq]; rfl) (by first | exact rendpoint_spec s (by omega) _ | exact rname_spec _ _ (by omega) (by omega) _) rfl ?_
    | refine awL_nil ?_
    | refine awL_S1 rfl rfl (by simp (disch := omega) only [go_sem, ↓reduceIte, Nat.reduceEqDiff, Nat.reduceAdd, Nat.reduceLeDiff, Nat.reduceMul, Nat.reduceSub, Nat.reduceLT, epV_eq]; rfl) ?_
    | (refine AW.condK _ rfl (fun hb => ?_) (fun hb => ?_) <;> (try simp only [Int.ofNat_inj, not_true_eq_false, not_false_eq_true, Bool.false_eq_true, Bool.true_eq_false, decide_eq_true_eq, decide_eq_false_iff_not, Bool.not_eq_true, Bool.not_eq_false, Bool.not_eq_true', Bool.not_eq_false', Int.not_lt, Int.not_le, ne_eq, Decidable.not_not, List.length_map, Bool.and_eq_true, Bool.or_eq_true, Bool.and_eq_false_imp, Int.ofNat_lt, Int.ofNat_le] at hb) <;> try (exfalso; omega))
    | refine AW.skip ?_
    | refine useK (by assumption) ?_
    | (refine AW.ret ?_; show (_ ∨ _) ∧ _; refine ⟨.inr rfl, ?_⟩; show resP _ _ _ [.tmp 2, .tmp 3] _; simp (disch := omega) only [go_sem, ↓reduceIte, Nat.reduceEqDiff, Nat.reduceAdd, Nat.reduceLeDiff, Nat.reduceMul, Nat.reduceSub, Nat.reduceLT, epV_eq]; refine ⟨_, _, _, Nat.le_refl _, V.le_refl _ _, StLe.refl _, ?_⟩; (try simp (disch := omega) only [go_sem, ↓reduceIte, Nat.reduceEqDiff, Nat.reduceAdd, Nat.reduceLeDiff, Nat.reduceMul, Nat.reduceSub, Nat.reduceLT, epV_eq, hst.trim, hst.trim_append]))
  all_goals simp_all [dualN]
set_option maxRecDepth 100000 in
set_option maxHeartbeats 8000000 in
theorem pdual_spec (s : Str) (hs : s.length ≤ 2147483647) (st : List O) : Duo.Call Tryz.prog Tryz.gl2 63 [.str s] st (fun v st' => v = dualV s ∧ st' = st) := by
  refine Duo.Call.clo fun hst => ?_
  have hek := epK_lt s
  refine Duo.Call.body 19 [(0, .str s)] Tryz.func63 rfl rfl ?_
  repeat' first
    | refine AW.seqK fun K hK => ?_
    | (refine hK _ _ ?_; clear hK K)
    | refine AW.region ?_
    | refine awL_call rfl (by first | exact ent75 | exact ent76) (by simp only [go_sem, ↓reduceIte, Nat.reduceEqDiff, Nat.reduceAdd, Nat.reduceLeDiff, Nat.reduceMul, Nat.reduceSub, Nat.reduceLT, epV_eq]; rfl) (by first | exact pendpoint_spec s (by omega) _ | exact pname_spec _ _ (by omega) (by omega) _) rfl ?_
    | refine awL_nil ?_
    | refine awL_S1 rfl rfl (by simp (disch := omega) only [go_sem, ↓reduceIte, Nat.reduceEqDiff, Nat.reduceAdd, Nat.reduceLeDiff, Nat.reduceMul, Nat.reduceSub, Nat.reduceLT, epV_eq]; rfl) ?_
    | (refine AW.condK _ rfl (fun hb => ?_) (fun hb => ?_) <;> (try simp only [Int.ofNat_inj, not_true_eq_false, not_false_eq_true, Bool.false_eq_true, Bool.true_eq_false, decide_eq_true_eq, decide_eq_false_iff_not, Bool.not_eq_true, Bool.not_eq_false, Bool.not_eq_true', Bool.not_eq_false', Int.not_lt, Int.not_le, ne_eq, Decidable.not_not, List.length_map, Bool.and_eq_true, Bool.or_eq_true, Bool.and_eq_false_imp, Int.ofNat_lt, Int.ofNat_le] at hb) <;> try (exfalso; omega))
    | refine AW.skip ?_
    | refine useK (by assumption) ?_
    | (refine AW.ret ?_; show (_ ∨ _) ∧ _; refine ⟨.inr rfl, ?_⟩; show resP _ _ _ [.tmp 2, .tmp 3] _; simp (disch := omega) only [go_sem, ↓reduceIte, Nat.reduceEqDiff, Nat.reduceAdd, Nat.reduceLeDiff, Nat.reduceMul, Nat.reduceSub, Nat.reduceLT, epV_eq]; refine ⟨_, _, _, Nat.le_refl _, V.le_refl _ _, StLe.refl _, ?_⟩; (try simp (disch := omega) only [go_sem, ↓reduceIte, Nat.reduceEqDiff, Nat.reduceAdd, Nat.reduceLeDiff, Nat.reduceMul, Nat.reduceSub, Nat.reduceLT, epV_eq, hst.trim, hst.trim_append]))
  all_goals simp_all [dualN]
set_option maxRecDepth 100000 in
set_option maxHeartbeats 8000000 in
theorem threads_spec (l : List Th) (hn : l.length ≤ 1000000) (st : List O) : Duo.Call Tryz.prog Tryz.gl2 35 [.sl (l.map encTh) none] st (fun v st' => v = .sl ((l.map threadL).map encP) none ∧ st' = st) := by
  refine Duo.Call.clo fun hst => ?_
  refine Duo.Call.body 94 [(0, .sl (l.map encTh) none)] Tryz.func35 rfl rfl ?_
  repeat' first
    | refine AW.seqK fun K hK => ?_
    | (refine hK _ _ ?_; clear hK K)
    | refine AW.region ?_
    | refine AW.any (id := 6) mix 11 (by decide +kernel) ?_
    | refine AW.any (id := 18) mix 13 (by decide +kernel) ?_
    | refine awL_call rfl (by first | exact ent67) (by simp only [go_sem, ↓reduceIte, Nat.reduceEqDiff, Nat.reduceAdd, Nat.reduceLeDiff, Nat.reduceMul, Nat.reduceSub, Nat.reduceLT, encTh_cells, labelL_get, stopL_enc]; rfl) (by first | exact rname_spec _ _ (by omega) (by have := UInt8.toNat_lt (l[i]).ch; omega) _) rfl ?_
    | refine awA_nil (by simp only [applyUps, List.nil_append, List.cons_append, S0, S2]; rfl) ?_
    | refine awL_nil ?_
    | refine awL_S1 rfl rfl (by simp (disch := omega) only [go_sem, ↓reduceIte, Nat.reduceEqDiff, Nat.reduceAdd, Nat.reduceLeDiff, Nat.reduceMul, Nat.reduceSub, Nat.reduceLT, encTh_cells, labelL_get, stopL_enc]; rfl) ?_
    | refine awA_call rfl (by first | exact ent67) (by simp only [go_sem, ↓reduceIte, Nat.reduceEqDiff, Nat.reduceAdd, Nat.reduceLeDiff, Nat.reduceMul, Nat.reduceSub, Nat.reduceLT, encTh_cells, labelL_get, stopL_enc]; rfl) (by first | exact rname_spec _ _ (by omega) (by have := UInt8.toNat_lt (l[i]).ch; omega) _) rfl ?_
    | refine awA_S1 rfl rfl (by simp (disch := omega) only [go_sem, ↓reduceIte, Nat.reduceEqDiff, Nat.reduceAdd, Nat.reduceLeDiff, Nat.reduceMul, Nat.reduceSub, Nat.reduceLT, encTh_cells, labelL_get, stopL_enc]; rfl) ?_
    | (refine AW.condK _ rfl (fun hb => ?_) (fun hb => ?_) <;> (try simp only [Int.ofNat_inj, not_true_eq_false, not_false_eq_true, Bool.false_eq_true, Bool.true_eq_false, decide_eq_true_eq, decide_eq_false_iff_not, Bool.not_eq_true, Bool.not_eq_false, Bool.not_eq_true', Bool.not_eq_false', Int.not_lt, Int.not_le, ne_eq, Decidable.not_not, List.length_map, Bool.and_eq_true, Bool.or_eq_true, Bool.and_eq_false_imp, Int.ofNat_lt, Int.ofNat_le] at hb) <;> try (exfalso; omega))
    | refine AW.block ?_
    | refine bq_s ?_
    | refine bq_o rfl ?_
    | refine tq_e ?_
    | refine AW.exit ?_
    | refine AW.skip ?_
    | refine useK (by assumption) ?_
    | (refine AW.tok 29 12 ?_; rw [List.append_assoc]; refine AW.loopS (α := { i : Nat // i ≤ l.length }) 94 (fun i => [(0, .sl (l.map encTh) none), (3, .sl (thrL l i.1) (some (st.length + 1))), (4, .sl [encP stopL] none), (5, .int .i64 (i.1 : Nat))]) (fun i => st ++ [.tok 29 12 1, .tok 29 12 (thrL l i.1).length]) (fun i => l.length - i.1) ⟨0, Nat.zero_le _⟩ rfl ?_ ?_ ?_; (focus (simp (disch := omega) only [go_sem, ↓reduceIte, Nat.reduceEqDiff, Nat.reduceAdd, Nat.reduceLeDiff, Nat.reduceMul, Nat.reduceSub, Nat.reduceLT, thrL_zero, stopL_enc]; done)); (focus (simp (disch := omega) only [go_sem, ↓reduceIte, Nat.reduceEqDiff, Nat.reduceAdd, Nat.reduceLeDiff, Nat.reduceMul, Nat.reduceSub, Nat.reduceLT, thrL_zero, stopL_enc]; done)); rintro ⟨i, hi⟩ hlc; dsimp only; have hbl := thrL_len l i)
    | (have hlt : i < l.length := (by omega); have hp := thrL_succ hlt; have he := thr0 (t := l[i]) (by assumption) (chanL_9 (by assumption)); refine ⟨⟨i + 1, by omega⟩, by simp only []; omega, _, Nat.le_refl _, Nat.le_of_ble_eq_true rfl, ?_, ?_⟩ <;> (simp (disch := omega) only [go_sem, ↓reduceIte, Nat.reduceEqDiff, Nat.reduceAdd, Nat.reduceLeDiff, Nat.reduceMul, Nat.reduceSub, Nat.reduceLT, stopL_enc, hp, he, List.length_append, hlc.trim, hlc.trim_append, trimS_app hst]; done))
    | (have hlt : i < l.length := (by omega); have hp := thrL_succ hlt; have he := thr0 (t := l[i]) (by assumption) (chanL_n (by assumption)); refine ⟨⟨i + 1, by omega⟩, by simp only []; omega, _, Nat.le_refl _, Nat.le_of_ble_eq_true rfl, ?_, ?_⟩ <;> (simp (disch := omega) only [go_sem, ↓reduceIte, Nat.reduceEqDiff, Nat.reduceAdd, Nat.reduceLeDiff, Nat.reduceMul, Nat.reduceSub, Nat.reduceLT, stopL_enc, hp, he, List.length_append, hlc.trim, hlc.trim_append, trimS_app hst]; done))
    | (have hlt : i < l.length := (by omega); have hp := thrL_succ hlt; have he := thr1 (t := l[i]) (by assumption) (chanL_9 (by assumption)); refine ⟨⟨i + 1, by omega⟩, by simp only []; omega, _, Nat.le_refl _, Nat.le_of_ble_eq_true rfl, ?_, ?_⟩ <;> (simp (disch := omega) only [go_sem, ↓reduceIte, Nat.reduceEqDiff, Nat.reduceAdd, Nat.reduceLeDiff, Nat.reduceMul, Nat.reduceSub, Nat.reduceLT, stopL_enc, hp, he, List.length_append, hlc.trim, hlc.trim_append, trimS_app hst]; done))
    | (have hlt : i < l.length := (by omega); have hp := thrL_succ hlt; have he := thr1 (t := l[i]) (by assumption) (chanL_n (by assumption)); refine ⟨⟨i + 1, by omega⟩, by simp only []; omega, _, Nat.le_refl _, Nat.le_of_ble_eq_true rfl, ?_, ?_⟩ <;> (simp (disch := omega) only [go_sem, ↓reduceIte, Nat.reduceEqDiff, Nat.reduceAdd, Nat.reduceLeDiff, Nat.reduceMul, Nat.reduceSub, Nat.reduceLT, stopL_enc, hp, he, List.length_append, hlc.trim, hlc.trim_append, trimS_app hst]; done))
    | (have hlt : i < l.length := (by omega); have hp := thrL_succ hlt; have he := thr2 (t := l[i]) (by assumption) (chanL_9 (by assumption)); refine ⟨⟨i + 1, by omega⟩, by simp only []; omega, _, Nat.le_refl _, Nat.le_of_ble_eq_true rfl, ?_, ?_⟩ <;> (simp (disch := omega) only [go_sem, ↓reduceIte, Nat.reduceEqDiff, Nat.reduceAdd, Nat.reduceLeDiff, Nat.reduceMul, Nat.reduceSub, Nat.reduceLT, stopL_enc, hp, he, List.length_append, hlc.trim, hlc.trim_append, trimS_app hst]; done))
    | (have hlt : i < l.length := (by omega); have hp := thrL_succ hlt; have he := thr2 (t := l[i]) (by assumption) (chanL_n (by assumption)); refine ⟨⟨i + 1, by omega⟩, by simp only []; omega, _, Nat.le_refl _, Nat.le_of_ble_eq_true rfl, ?_, ?_⟩ <;> (simp (disch := omega) only [go_sem, ↓reduceIte, Nat.reduceEqDiff, Nat.reduceAdd, Nat.reduceLeDiff, Nat.reduceMul, Nat.reduceSub, Nat.reduceLT, stopL_enc, hp, he, List.length_append, hlc.trim, hlc.trim_append, trimS_app hst]; done))
    | (have hlt : i < l.length := (by omega); have hp := thrL_succ hlt; have he := thr3 (t := l[i]) (by assumption) (chanL_9 (by assumption)); refine ⟨⟨i + 1, by omega⟩, by simp only []; omega, _, Nat.le_refl _, Nat.le_of_ble_eq_true rfl, ?_, ?_⟩ <;> (simp (disch := omega) only [go_sem, ↓reduceIte, Nat.reduceEqDiff, Nat.reduceAdd, Nat.reduceLeDiff, Nat.reduceMul, Nat.reduceSub, Nat.reduceLT, stopL_enc, hp, he, List.length_append, hlc.trim, hlc.trim_append, trimS_app hst]; done))
    | (have hlt : i < l.length := (by omega); have hp := thrL_succ hlt; have he := thr3 (t := l[i]) (by assumption) (chanL_n (by assumption)); refine ⟨⟨i + 1, by omega⟩, by simp only []; omega, _, Nat.le_refl _, Nat.le_of_ble_eq_true rfl, ?_, ?_⟩ <;> (simp (disch := omega) only [go_sem, ↓reduceIte, Nat.reduceEqDiff, Nat.reduceAdd, Nat.reduceLeDiff, Nat.reduceMul, Nat.reduceSub, Nat.reduceLT, stopL_enc, hp, he, List.length_append, hlc.trim, hlc.trim_append, trimS_app hst]))
    | (refine AW.ret ?_; show (_ ∨ _) ∧ _; refine ⟨.inr rfl, ?_⟩; show resP _ _ _ [.tmp 2] _; simp (disch := omega) only [go_sem, ↓reduceIte, Nat.reduceEqDiff, Nat.reduceAdd, Nat.reduceLeDiff, Nat.reduceMul, Nat.reduceSub, Nat.reduceLT, encTh_cells, labelL_get, stopL_enc]; refine ⟨_, _, _, Nat.le_refl _, V.le_refl _ _, StLe.refl _, ?_⟩; (try simp (disch := omega) only [go_sem, ↓reduceIte, Nat.reduceEqDiff, Nat.reduceAdd, Nat.reduceLeDiff, Nat.reduceMul, Nat.reduceSub, Nat.reduceLT, encTh_cells, labelL_get, stopL_enc, hst.trim, hst.trim_append]))
  obtain rfl : i = l.length := by omega
  rw [thrL_end]
end Tryz
end Go.Proofs
