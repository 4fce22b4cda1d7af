/-
  Walks of the laws, law 01.
-/
import Derived.Test.YtajdahnfnodoeaaDoorLexD
import Derived.Test.YtajdahnfnodoeaaDoorLexG
import Derived.Test.YtajdahnfnodoeaaDoorDLex5
set_option linter.all false
namespace Go.Proofs
open Go Go.Duo
namespace Tryd
attribute [local irreducible] awL awA AW
theorem tA_spec (st : List O) : Duo.Call Tryd.prog gl 9 [.str [97, 33, 60, 45, 53, 62, 46, 115, 116, 111, 112, 32, 35, 32, 120]] st (fun v st' => v = .tuple [.sl [.agg [.int .i64 1, .str [97], .int .i64 (0), .int .i64 0], .agg [.int .i64 3, .str [33], .int .i64 (0), .int .i64 1], .agg [.int .i64 3, .str [60], .int .i64 (0), .int .i64 2], .agg [.int .i64 2, .str [45, 53], .int .i64 (-5), .int .i64 3], .agg [.int .i64 3, .str [62], .int .i64 (0), .int .i64 5], .agg [.int .i64 3, .str [46], .int .i64 (0), .int .i64 6], .agg [.int .i64 1, .str [115, 116, 111, 112], .int .i64 (0), .int .i64 7]] none, .agg [.int .i64 0, .int .i64 0]] ∧ st' = st) := by
  have h := tokens_spec [97, 33, 60, 45, 53, 62, 46, 115, 116, 111, 112, 32, 35, 32, 120] (by decide) st
  rw [show lexT [97, 33, 60, 45, 53, 62, 46, 115, 116, 111, 112, 32, 35, 32, 120] = ([⟨1, [97], 0, 0⟩, ⟨3, [33], 0, 1⟩, ⟨3, [60], 0, 2⟩, ⟨2, [45, 53], -5, 3⟩, ⟨3, [62], 0, 5⟩, ⟨3, [46], 0, 6⟩, ⟨1, [115, 116, 111, 112], 0, 7⟩], 0, 0) from by decide +kernel] at h
  exact h

theorem tB_spec (st : List O) : Duo.Call Tryd.prog gl 9 [.str [97, 45, 98]] st (fun v st' => v = .tuple [.sl [] none, .agg [.int .i64 1, .int .i64 1]] ∧ st' = st) := by
  have h := tokens_spec [97, 45, 98] (by decide) st
  rw [show lexT [97, 45, 98] = ([], 1, 1) from by decide +kernel] at h
  exact h

theorem tC_spec (st : List O) : Duo.Call Tryd.prog gl 9 [.str [57, 50, 50, 51, 51, 55, 50, 48, 51, 54, 56, 53, 52, 55, 55, 53, 56, 48, 56]] st (fun v st' => v = .tuple [.sl [] none, .agg [.int .i64 2, .int .i64 0]] ∧ st' = st) := by
  have h := tokens_spec [57, 50, 50, 51, 51, 55, 50, 48, 51, 54, 56, 53, 52, 55, 55, 53, 56, 48, 56] (by decide) st
  rw [show lexT [57, 50, 50, 51, 51, 55, 50, 48, 51, 54, 56, 53, 52, 55, 55, 53, 56, 48, 56] = ([], 2, 0) from by decide +kernel] at h
  exact h

theorem tD_spec (st : List O) : Duo.Call Tryd.prog gl 9 [.str [32, 48, 48]] st (fun v st' => v = .tuple [.sl [.agg [.int .i64 2, .str [48], .int .i64 (0), .int .i64 1], .agg [.int .i64 2, .str [48], .int .i64 (0), .int .i64 2]] none, .agg [.int .i64 0, .int .i64 0]] ∧ st' = st) := by
  have h := tokens_spec [32, 48, 48] (by decide) st
  rw [show lexT [32, 48, 48] = ([⟨2, [48], 0, 1⟩, ⟨2, [48], 0, 2⟩], 0, 0) from by decide +kernel] at h
  exact h

theorem jA_spec (st : List O) : Duo.Call Tryd.prog gl 17 [.sl [.agg [.int .i64 1, .str [97], .int .i64 (0), .int .i64 0], .agg [.int .i64 3, .str [33], .int .i64 (0), .int .i64 1], .agg [.int .i64 3, .str [60], .int .i64 (0), .int .i64 2], .agg [.int .i64 2, .str [45, 53], .int .i64 (-5), .int .i64 3], .agg [.int .i64 3, .str [62], .int .i64 (0), .int .i64 5], .agg [.int .i64 3, .str [46], .int .i64 (0), .int .i64 6], .agg [.int .i64 1, .str [115, 116, 111, 112], .int .i64 (0), .int .i64 7]] none] st (fun v st' => v = .str [97, 32, 33, 32, 60, 32, 45, 53, 32, 62, 32, 46, 32, 115, 116, 111, 112] ∧ st' = st) := by
  have h := ljoin_spec [⟨1, [97], 0, 0⟩, ⟨3, [33], 0, 1⟩, ⟨3, [60], 0, 2⟩, ⟨2, [45, 53], -5, 3⟩, ⟨3, [62], 0, 5⟩, ⟨3, [46], 0, 6⟩, ⟨1, [115, 116, 111, 112], 0, 7⟩] (by decide) (by decide +kernel) st
  rw [show Lib.join (txts [⟨1, [97], 0, 0⟩, ⟨3, [33], 0, 1⟩, ⟨3, [60], 0, 2⟩, ⟨2, [45, 53], -5, 3⟩, ⟨3, [62], 0, 5⟩, ⟨3, [46], 0, 6⟩, ⟨1, [115, 116, 111, 112], 0, 7⟩]) [32] = [97, 32, 33, 32, 60, 32, 45, 53, 32, 62, 32, 46, 32, 115, 116, 111, 112] from by decide +kernel] at h
  exact h

theorem kR_spec (st : List O) : Duo.Call Tryd.prog gl 13 [.str [114, 101, 99]] st (fun v st' => v = .bool true ∧ st' = st) := by
  have h := keyword_spec [114, 101, 99] st
  rwa [show decide (([114, 101, 99] : Str) ∈ KW) = true from by decide +kernel] at h

theorem nA_spec (st : List O) : Duo.Call Tryd.prog gl 15 [.str [114, 101, 99, 49]] st (fun v st' => v = .bool true ∧ st' = st) := by
  have h := name_spec [114, 101, 99, 49] (by decide) st
  rwa [show nameB [114, 101, 99, 49] = true from by decide +kernel] at h

theorem nB_spec (st : List O) : Duo.Call Tryd.prog gl 15 [.str [114, 101, 99]] st (fun v st' => v = .bool false ∧ st' = st) := by
  have h := name_spec [114, 101, 99] (by decide) st
  rwa [show nameB [114, 101, 99] = false from by decide +kernel] at h

theorem nC_spec (st : List O) : Duo.Call Tryd.prog gl 15 [.str []] st (fun v st' => v = .bool false ∧ st' = st) := by
  have h := name_spec [] (by decide) st
  rwa [show nameB [] = false from by decide +kernel] at h

set_option maxRecDepth 100000 in
set_option maxHeartbeats 8000000 in
theorem awake_spec  (st : List O) : Duo.Call Tryd.prog Tryd.gl 8 [] st (fun v st' => v = .bool true ∧ st' = st) := by
  refine Duo.Call.clo fun hst => ?_
  refine Duo.Call.body 74 [] Tryd.func8 rfl rfl ?_
  repeat' first
    | refine AW.seqK fun K hK => ?_
    | (refine hK _ _ ?_; clear hK K)
    | refine AW.region ?_
    | refine awL_call rfl (by first | exact ent9 | exact ent17 | exact ent13 | exact ent15) (by simp only [go_sem, ↓reduceIte, Nat.reduceEqDiff, Nat.reduceAdd, Nat.reduceLeDiff, Nat.reduceMul, Nat.reduceSub, Nat.reduceLT, eq_self]; rfl) (by first | exact tA_spec _ | exact tB_spec _ | exact tC_spec _ | exact tD_spec _ | exact jA_spec _ | exact kR_spec _ | exact nA_spec _ | exact nB_spec _ | exact nC_spec _) rfl ?_
    | refine awL_nil ?_
    | (refine awL_gno rfl ?_ rfl ?_; focus (simp only [S0, ↓reduceIte, Nat.reduceEqDiff, Bool.not_true, Bool.not_false]; done))
    | (refine awL_gyes rfl ?_ ?_; focus (simp only [S0, ↓reduceIte, Nat.reduceEqDiff, Bool.not_true, Bool.not_false]; done))
    | refine awL_hole rfl rfl rfl rfl ?_
    | (refine awL_gcase rfl rfl (fun hg => ?_) (fun hg => ?_) <;> (rw [hg]; (try simp only [Int.ofNat_inj, not_true_eq_false, not_false_eq_true, Bool.false_eq_true, Bool.true_eq_false, decide_eq_true_eq, decide_eq_false_iff_not, Bool.not_eq_true, Bool.not_eq_false, Bool.not_eq_true', Bool.not_eq_false', Int.not_lt, Int.not_le, ne_eq, Decidable.not_not, List.length_map, Bool.and_eq_true, Bool.or_eq_true, Bool.and_eq_false_imp, Int.ofNat_lt, Int.ofNat_le] at hg); try (exfalso; omega)))
    | refine awL_S1 rfl rfl (by simp (disch := omega) only [go_sem, ↓reduceIte, Nat.reduceEqDiff, Nat.reduceAdd, Nat.reduceLeDiff, Nat.reduceMul, Nat.reduceSub, Nat.reduceLT, eq_self]; rfl) ?_
    | (refine AW.condK _ rfl (fun hb => ?_) (fun hb => ?_) <;> (try simp only [Int.ofNat_inj, not_true_eq_false, not_false_eq_true, Bool.false_eq_true, Bool.true_eq_false, decide_eq_true_eq, decide_eq_false_iff_not, Bool.not_eq_true, Bool.not_eq_false, Bool.not_eq_true', Bool.not_eq_false', Int.not_lt, Int.not_le, ne_eq, Decidable.not_not, List.length_map, Bool.and_eq_true, Bool.or_eq_true, Bool.and_eq_false_imp, Int.ofNat_lt, Int.ofNat_le] at hb) <;> try (exfalso; omega))
    | refine AW.skip ?_
    | refine useK (by assumption) ?_
    | (refine AW.ret ?_; show (_ ∨ _) ∧ _; refine ⟨.inr rfl, ?_⟩; show resP _ _ _ [.tmp 0] _; simp (disch := omega) only [go_sem, ↓reduceIte, Nat.reduceEqDiff, Nat.reduceAdd, Nat.reduceLeDiff, Nat.reduceMul, Nat.reduceSub, Nat.reduceLT, eq_self]; refine ⟨_, _, _, Nat.le_refl _, V.le_refl _ _, StLe.refl _, ?_⟩; (try simp (disch := omega) only [go_sem, ↓reduceIte, Nat.reduceEqDiff, Nat.reduceAdd, Nat.reduceLeDiff, Nat.reduceMul, Nat.reduceSub, Nat.reduceLT, eq_self, hst.trim, hst.trim_append]))
  all_goals exact (hg trivial trivial trivial trivial).elim
end Tryd
end Go.Proofs
