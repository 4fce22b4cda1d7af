/-
  A part of the proof.
-/
import Derived.Test.YtdlcnihacaboiaaGreatDoorSubLib
import Derived.Test.YtdlcnihacaboiaaGreatDoorGI
import Derived.Test.YtdlcnihacaboiaaGreatDoorDS3
set_option linter.all false
namespace Go.Proofs
open Go Go.Duo
namespace Tryz
attribute [local irreducible] awL awA awT AW
set_option maxRecDepth 100000 in
set_option maxHeartbeats 8000000 in
theorem decimalF_aux (m : Nat) : ∀ (n : Int) (_ : 2 * n.natAbs + (if n < 0 then 1 else 0) < m) (h0 : -9223372036854775808 ≤ n) (h1 : n ≤ 9223372036854775807) (st : List O), Duo.Call Tryz.prog Tryz.gl 17 [.int .i64 n] st (fun v st' => v = .str (Lib.itoa n) ∧ st' = st) := by
  induction m with
  | zero => intro n h; omega
  | succ m ih =>
  intro n hm h0 h1 st
  refine Duo.Call.clo fun hst => ?_
  have hl := Lib.itoa_length_le (n / 10) (by omega) (by omega)
  have hl0 : -9223372036854775807 ≤ n → (Lib.itoa (0 - n)).length ≤ 21 := fun h => Lib.itoa_length_le (0 - n) (by omega) (by omega)
  have hl2 : (List.drop (n % 10).toNat (List.take (n % 10 + 1).toNat ([48, 49, 50, 51, 52, 53, 54, 55, 56, 57] : Str))).length ≤ 1 := by rw [List.length_drop, List.length_take]; omega
  refine Duo.Call.body 28 [(0, .int .i64 n)] Tryz.func17 rfl rfl ?_
  repeat' first
    | refine AW.seqK fun K hK => ?_
    | (refine hK _ _ ?_; clear hK K)
    | refine AW.region ?_
    | refine awL_call rfl (by first | exact ent17) (by simp only [go_sem, ↓reduceIte, Nat.reduceEqDiff, Nat.reduceAdd, Nat.reduceLeDiff, Nat.reduceMul, Nat.reduceSub, Nat.reduceLT]; rfl) (by first | exact ih _ (by split at hm <;> split <;> omega) (by omega) (by omega) _) rfl ?_
    | refine awL_nil ?_
    | refine awL_S1 rfl rfl (by simp (disch := omega) only [go_sem, ↓reduceIte, Nat.reduceEqDiff, Nat.reduceAdd, Nat.reduceLeDiff, Nat.reduceMul, Nat.reduceSub, Nat.reduceLT]; rfl) ?_
    | (refine AW.condK _ rfl (fun hb => ?_) (fun hb => ?_) <;> (try simp only [Int.ofNat_inj, not_true_eq_false, not_false_eq_true, Bool.false_eq_true, Bool.true_eq_false, decide_eq_true_eq, decide_eq_false_iff_not, Bool.not_eq_true, Bool.not_eq_false, Bool.not_eq_true', Bool.not_eq_false', Int.not_lt, Int.not_le, ne_eq, Decidable.not_not, List.length_map, Bool.and_eq_true, Bool.or_eq_true, Bool.and_eq_false_imp, Int.ofNat_lt, Int.ofNat_le] at hb) <;> try (exfalso; omega))
    | refine AW.skip ?_
    | refine useK (by assumption) ?_
    | (refine AW.ret ?_; show (_ ∨ _) ∧ _; refine ⟨.inr rfl, ?_⟩; show resP _ _ _ [.tmp 2] _; simp (disch := omega) only [go_sem, ↓reduceIte, Nat.reduceEqDiff, Nat.reduceAdd, Nat.reduceLeDiff, Nat.reduceMul, Nat.reduceSub, Nat.reduceLT]; refine ⟨_, _, _, Nat.le_refl _, V.le_refl _ _, StLe.refl _, ?_⟩; (try simp (disch := omega) only [go_sem, ↓reduceIte, Nat.reduceEqDiff, Nat.reduceAdd, Nat.reduceLeDiff, Nat.reduceMul, Nat.reduceSub, Nat.reduceLT, hst.trim, hst.trim_append]))
  all_goals first | (have e : n = -9223372036854775808 := (by omega); rw [e, itoa_min]; done) | exact congrArg V.str (itoa_minus (by omega)) | exact congrArg V.str (itoa_small (by omega) (by omega)) | exact congrArg V.str (itoa_big (by omega)) | trace_state
theorem decimalF_spec (n : Int) (h0 : -9223372036854775808 ≤ n) (h1 : n ≤ 9223372036854775807) (st : List O) : Duo.Call Tryz.prog Tryz.gl 17 [.int .i64 n] st (fun v st' => v = .str (Lib.itoa n) ∧ st' = st) := decimalF_aux _ n (Nat.lt_succ_self _) h0 h1 st
end Tryz
end Go.Proofs
