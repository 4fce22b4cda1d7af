/-
  A part of the proof.
-/
import Derived.Test.YtdlcnihacaboiaaGreatDoorSubLib
import Derived.Test.YtdlcnihacaboiaaGreatDoorGP
import Derived.Test.YtdlcnihacaboiaaGreatDoorDS3
import Derived.Test.YtdlcnihacaboiaaGreatDoorGQ
import Derived.Test.YtdlcnihacaboiaaGreatDoorSubD
set_option linter.all false
namespace Go.Proofs
open Go Go.Duo
namespace Tryz
attribute [local irreducible] awL awA awT AW
theorem prek1 : preK 1 = false := rfl
def useS (b l : List Str) (s : Str) : List Str := if s ∈ b then l else addS l s
theorem useS_b {b l : List Str} {s : Str} (h : s ∈ b) : useS b l s = l := if_pos h
theorem useS_l {b l : List Str} {s : Str} (h : s ∈ l) : useS b l s = l := by unfold useS addS; split <;> simp [h]
theorem useS_n {b l : List Str} {s : Str} (h1 : s ∉ b) (h2 : s ∉ l) : useS b l s = l ++ [s] := by unfold useS addS; rw [if_neg h1, if_neg h2]
theorem useS_len (b l : List Str) (s : Str) : (useS b l s).length ≤ l.length + 1 := by unfold useS addS; split <;> (try split) <;> simp
theorem useS_all {b : List Str} (xs : List Str) : ∀ l : List Str, (xs.foldl (useS b) l).length ≤ l.length + xs.length := by
  induction xs with
  | nil => intro l; simp
  | cons s xs ih => intro l; have := ih (useS b l s); have := useS_len b l s; simp only [List.foldl_cons, List.length_cons]; omega
section
variable {s0 s1 : List O} {l : List Str}
theorem fr_clo (h : Clo (s0 ++ (.box 22 [.sl (l.map .str) (some (s0.length + 3))] :: .box 197 [.func (.func 150) [] [.ptr (s0.length + 2) 0, .ptr (s0.length + 1) 0]] :: .box 198 [.func (.func 149) [] [.ptr s0.length 0]] :: .tok 9 1 l.length :: s1))) (l' : List Str) : Clo (s0 ++ (.box 22 [.sl (l'.map .str) (some (s0.length + 3))] :: .box 197 [.func (.func 150) [] [.ptr (s0.length + 2) 0, .ptr (s0.length + 1) 0]] :: .box 198 [.func (.func 149) [] [.ptr s0.length 0]] :: .tok 9 1 l'.length :: s1)) := fun k hk => by
  have h2 := h k (by simp only [List.length_append, List.length_cons] at hk ⊢; exact hk)
  simp only [List.map_append, List.map_cons] at h2 ⊢
  obtain ⟨e1, e2⟩ := List.append_inj h2 (by simp)
  simp only [List.cons.injEq] at e2
  rw [e1, e2.2.1, e2.2.2.1, e2.2.2.2.2]
  have hk2 : s0.length + 3 < k := by simp only [List.length_append, List.length_cons] at hk; omega
  simp only [O.trim, List.map_cons, List.map_nil, V.trim]
  rw [if_pos hk2]
theorem fr0 (h : Clo (s0 ++ (.box 22 [.sl (l.map .str) (some (s0.length + 3))] :: .box 197 [.func (.func 150) [] [.ptr (s0.length + 2) 0, .ptr (s0.length + 1) 0]] :: .box 198 [.func (.func 149) [] [.ptr s0.length 0]] :: .tok 9 1 l.length :: s1))) (l' : List Str) (xs : List O) (k : Nat) (hk : k = s0.length + s1.length + 4) : trimS k (s0 ++ (.box 22 [.sl (l'.map .str) (some (s0.length + 3))] :: .box 197 [.func (.func 150) [] [.ptr (s0.length + 2) 0, .ptr (s0.length + 1) 0]] :: .box 198 [.func (.func 149) [] [.ptr s0.length 0]] :: .tok 9 1 l'.length :: (s1 ++ xs))) = s0 ++ (.box 22 [.sl (l'.map .str) (some (s0.length + 3))] :: .box 197 [.func (.func 150) [] [.ptr (s0.length + 2) 0, .ptr (s0.length + 1) 0]] :: .box 198 [.func (.func 149) [] [.ptr s0.length 0]] :: .tok 9 1 l'.length :: s1) := by
  have h2 := (fr_clo h l').trim_append xs
  rw [show k = (s0 ++ (.box 22 [.sl (l'.map .str) (some (s0.length + 3))] :: .box 197 [.func (.func 150) [] [.ptr (s0.length + 2) 0, .ptr (s0.length + 1) 0]] :: .box 198 [.func (.func 149) [] [.ptr s0.length 0]] :: .tok 9 1 l'.length :: s1)).length by simp only [List.length_append, List.length_cons]; omega]
  simpa using h2
theorem fr00 (h : Clo (s0 ++ (.box 22 [.sl (l.map .str) (some (s0.length + 3))] :: .box 197 [.func (.func 150) [] [.ptr (s0.length + 2) 0, .ptr (s0.length + 1) 0]] :: .box 198 [.func (.func 149) [] [.ptr s0.length 0]] :: .tok 9 1 l.length :: s1))) (l' : List Str) (k : Nat) (hk : k = s0.length + s1.length + 4) : trimS k (s0 ++ (.box 22 [.sl (l'.map .str) (some (s0.length + 3))] :: .box 197 [.func (.func 150) [] [.ptr (s0.length + 2) 0, .ptr (s0.length + 1) 0]] :: .box 198 [.func (.func 149) [] [.ptr s0.length 0]] :: .tok 9 1 l'.length :: s1)) = s0 ++ (.box 22 [.sl (l'.map .str) (some (s0.length + 3))] :: .box 197 [.func (.func 150) [] [.ptr (s0.length + 2) 0, .ptr (s0.length + 1) 0]] :: .box 198 [.func (.func 149) [] [.ptr s0.length 0]] :: .tok 9 1 l'.length :: s1) := by
  have := fr0 h l' [] k hk; rwa [List.append_nil] at this
theorem frN (h : Clo (s0 ++ (.box 22 [.sl (l.map .str) (some (s0.length + 3))] :: .box 197 [.func (.func 150) [] [.ptr (s0.length + 2) 0, .ptr (s0.length + 1) 0]] :: .box 198 [.func (.func 149) [] [.ptr s0.length 0]] :: .tok 9 1 l.length :: s1))) (l' : List Str) (ys xs : List O) (k : Nat) (hk : k = s0.length + s1.length + 4 + ys.length) : trimS k (s0 ++ (.box 22 [.sl (l'.map .str) (some (s0.length + 3))] :: .box 197 [.func (.func 150) [] [.ptr (s0.length + 2) 0, .ptr (s0.length + 1) 0]] :: .box 198 [.func (.func 149) [] [.ptr s0.length 0]] :: .tok 9 1 l'.length :: (s1 ++ (ys ++ xs)))) = s0 ++ (.box 22 [.sl (l'.map .str) (some (s0.length + 3))] :: .box 197 [.func (.func 150) [] [.ptr (s0.length + 2) 0, .ptr (s0.length + 1) 0]] :: .box 198 [.func (.func 149) [] [.ptr s0.length 0]] :: .tok 9 1 l'.length :: (s1 ++ ys.map (O.trim k))) := by
  have h2 := trimS_app (fr_clo h l') (k := k) (by simp only [List.length_append, List.length_cons]; omega) (ys ++ xs)
  have e : k - (s0 ++ (.box 22 [.sl (l'.map .str) (some (s0.length + 3))] :: .box 197 [.func (.func 150) [] [.ptr (s0.length + 2) 0, .ptr (s0.length + 1) 0]] :: .box 198 [.func (.func 149) [] [.ptr s0.length 0]] :: .tok 9 1 l'.length :: s1)).length = ys.length := by simp only [List.length_append, List.length_cons]; omega
  rw [e, List.take_left] at h2
  simpa using h2
theorem fr1 (h : Clo (s0 ++ (.box 22 [.sl (l.map .str) (some (s0.length + 3))] :: .box 197 [.func (.func 150) [] [.ptr (s0.length + 2) 0, .ptr (s0.length + 1) 0]] :: .box 198 [.func (.func 149) [] [.ptr s0.length 0]] :: .tok 9 1 l.length :: s1))) (l' : List Str) (a : O) (xs : List O) (k : Nat) (hk : k = s0.length + s1.length + 5) : trimS k (s0 ++ (.box 22 [.sl (l'.map .str) (some (s0.length + 3))] :: .box 197 [.func (.func 150) [] [.ptr (s0.length + 2) 0, .ptr (s0.length + 1) 0]] :: .box 198 [.func (.func 149) [] [.ptr s0.length 0]] :: .tok 9 1 l'.length :: (s1 ++ (a :: xs)))) = s0 ++ (.box 22 [.sl (l'.map .str) (some (s0.length + 3))] :: .box 197 [.func (.func 150) [] [.ptr (s0.length + 2) 0, .ptr (s0.length + 1) 0]] :: .box 198 [.func (.func 149) [] [.ptr s0.length 0]] :: .tok 9 1 l'.length :: (s1 ++ [O.trim k a])) := by
  have := frN h l' [a] xs k (by simp only [List.length_cons, List.length_nil]; omega); simpa using this
theorem fr3 (h : Clo (s0 ++ (.box 22 [.sl (l.map .str) (some (s0.length + 3))] :: .box 197 [.func (.func 150) [] [.ptr (s0.length + 2) 0, .ptr (s0.length + 1) 0]] :: .box 198 [.func (.func 149) [] [.ptr s0.length 0]] :: .tok 9 1 l.length :: s1))) (l' : List Str) (a b c : O) (xs : List O) (k : Nat) (hk : k = s0.length + s1.length + 7) : trimS k (s0 ++ (.box 22 [.sl (l'.map .str) (some (s0.length + 3))] :: .box 197 [.func (.func 150) [] [.ptr (s0.length + 2) 0, .ptr (s0.length + 1) 0]] :: .box 198 [.func (.func 149) [] [.ptr s0.length 0]] :: .tok 9 1 l'.length :: (s1 ++ (a :: b :: c :: xs)))) = s0 ++ (.box 22 [.sl (l'.map .str) (some (s0.length + 3))] :: .box 197 [.func (.func 150) [] [.ptr (s0.length + 2) 0, .ptr (s0.length + 1) 0]] :: .box 198 [.func (.func 149) [] [.ptr s0.length 0]] :: .tok 9 1 l'.length :: (s1 ++ [O.trim k a, O.trim k b, O.trim k c])) := by
  have := frN h l' [a, b, c] xs k (by simp only [List.length_cons, List.length_nil]; omega); simpa using this
end
set_option maxRecDepth 100000 in
set_option maxHeartbeats 8000000 in
theorem use_spec (s : Str) (b l : List Str) (tk : Option Nat) (hb : b.length ≤ 9223372036854775807) (hl : l.length ≤ 1000000000) (s0 s1 : List O) : Duo.Call Tryz.prog Tryz.gl 149 [.str s, .sl (b.map .str) tk, .ptr s0.length 0] (s0 ++ (.box 22 [.sl (l.map .str) (some (s0.length + 3))] :: .box 197 [.func (.func 150) [] [.ptr (s0.length + 2) 0, .ptr (s0.length + 1) 0]] :: .box 198 [.func (.func 149) [] [.ptr s0.length 0]] :: .tok 9 1 l.length :: s1)) (fun v st' => v = .tuple [] ∧ st' = s0 ++ (.box 22 [.sl ((useS b l s).map .str) (some (s0.length + 3))] :: .box 197 [.func (.func 150) [] [.ptr (s0.length + 2) 0, .ptr (s0.length + 1) 0]] :: .box 198 [.func (.func 149) [] [.ptr s0.length 0]] :: .tok 9 1 (useS b l s).length :: s1)) := by
  refine Duo.Call.clo fun hst => ?_
  refine Duo.Call.body 19 [(0, .str s), (1, .sl (b.map .str) tk), (2, .ptr s0.length 0)] Tryz.func149 rfl rfl ?_
  repeat' first
    | refine AW.seqK fun K hK => ?_
    | (refine hK _ _ ?_; clear hK K)
    | refine AW.region ?_
    | refine awL_call rfl (by first | exact ent58) (by simp only [go_sem, ↓reduceIte, Nat.reduceEqDiff, Nat.reduceAdd, Nat.reduceLeDiff, Nat.reduceMul, Nat.reduceSub, Nat.reduceLT, List.length_map, List.length_append, List.length_cons, List.length_nil, List.map_append, List.map_cons, List.map_nil]; rfl) (by first | exact containsT_spec _ _ _ (by omega) _) rfl ?_
    | refine awL_nil ?_
    | (refine awL_gno rfl ?_ rfl ?_; focus (simp only [S0, ↓reduceIte, Nat.reduceEqDiff, Bool.not_true, Bool.not_false]; done))
    | (refine awL_gyes rfl ?_ ?_; focus (simp only [S0, ↓reduceIte, Nat.reduceEqDiff, Bool.not_true, Bool.not_false]; done))
    | refine awL_hole rfl rfl rfl rfl ?_
    | (refine awL_gcase rfl rfl (fun hg => ?_) (fun hg => ?_) <;> (rw [hg]; (try simp only [Int.ofNat_inj, not_true_eq_false, not_false_eq_true, Bool.false_eq_true, Bool.true_eq_false, decide_eq_true_eq, decide_eq_false_iff_not, Bool.not_eq_true, Bool.not_eq_false, Bool.not_eq_true', Bool.not_eq_false', Int.not_lt, Int.not_le, ne_eq, Decidable.not_not, List.length_map, Bool.and_eq_true, Bool.or_eq_true, Bool.and_eq_false_imp, Int.ofNat_lt, Int.ofNat_le] at hg); try (exfalso; omega)))
    | refine awL_S1 rfl rfl (by simp (disch := omega) only [go_sem, ↓reduceIte, Nat.reduceEqDiff, Nat.reduceAdd, Nat.reduceLeDiff, Nat.reduceMul, Nat.reduceSub, Nat.reduceLT, List.length_map, List.length_append, List.length_cons, List.length_nil, List.map_append, List.map_cons, List.map_nil]; rfl) ?_
    | (refine AW.condK _ rfl (fun hb => ?_) (fun hb => ?_) <;> (try simp only [Int.ofNat_inj, not_true_eq_false, not_false_eq_true, Bool.false_eq_true, Bool.true_eq_false, decide_eq_true_eq, decide_eq_false_iff_not, Bool.not_eq_true, Bool.not_eq_false, Bool.not_eq_true', Bool.not_eq_false', Int.not_lt, Int.not_le, ne_eq, Decidable.not_not, List.length_map, Bool.and_eq_true, Bool.or_eq_true, Bool.and_eq_false_imp, Int.ofNat_lt, Int.ofNat_le] at hb) <;> try (exfalso; omega))
    | refine AW.skip ?_
    | refine useK (by assumption) ?_
    | (refine AW.ret ?_; show (_ ∨ _) ∧ _; refine ⟨.inr rfl, ?_⟩; show resP _ _ _ [] _; simp (disch := omega) only [go_sem, ↓reduceIte, Nat.reduceEqDiff, Nat.reduceAdd, Nat.reduceLeDiff, Nat.reduceMul, Nat.reduceSub, Nat.reduceLT, List.length_map, List.length_append, List.length_cons, List.length_nil, List.map_append, List.map_cons, List.map_nil]; refine ⟨_, _, _, Nat.le_refl _, V.le_refl _ _, StLe.refl _, ?_⟩; (try simp (disch := omega) only [go_sem, ↓reduceIte, Nat.reduceEqDiff, Nat.reduceAdd, Nat.reduceLeDiff, Nat.reduceMul, Nat.reduceSub, Nat.reduceLT, List.length_map, List.length_append, List.length_cons, List.length_nil, List.map_append, List.map_cons, List.map_nil, hst.trim, hst.trim_append]))
    | (show (_ ∨ _) ∧ _; refine ⟨.inl rfl, ?_⟩; show resP _ _ _ [] _; simp (disch := omega) only [go_sem, ↓reduceIte, Nat.reduceEqDiff, Nat.reduceAdd, Nat.reduceLeDiff, Nat.reduceMul, Nat.reduceSub, Nat.reduceLT, List.length_map, List.length_append, List.length_cons, List.length_nil, List.map_append, List.map_cons, List.map_nil]; refine ⟨_, _, _, Nat.le_refl _, V.le_refl _ _, StLe.refl _, ?_⟩; (try simp (disch := omega) only [go_sem, ↓reduceIte, Nat.reduceEqDiff, Nat.reduceAdd, Nat.reduceLeDiff, Nat.reduceMul, Nat.reduceSub, Nat.reduceLT, List.length_map, List.length_append, List.length_cons, List.length_nil, List.map_append, List.map_cons, List.map_nil, hst.trim, hst.trim_append]))
  all_goals first | (rw [useS_n (by assumption) (by assumption)]; have h9 := fr0 hst (l ++ [s]) [.tok 9 1 1] (s0.length + (s1.length + 4)) (by omega); simp only [List.map_append, List.map_cons, List.map_nil, List.length_append, List.length_cons, List.length_nil] at h9 ⊢; exact h9) | (first | rw [useS_b (by assumption)] | rw [useS_l (by assumption)]); exact fr00 hst l _ (by omega) | trace_state
theorem useN_spec (s : Str) (l : List Str) (hl : l.length ≤ 1000000000) (s0 s1 : List O) : Duo.Call Tryz.prog Tryz.gl 149 [.str s, .nil, .ptr s0.length 0] (s0 ++ (.box 22 [.sl (l.map .str) (some (s0.length + 3))] :: .box 197 [.func (.func 150) [] [.ptr (s0.length + 2) 0, .ptr (s0.length + 1) 0]] :: .box 198 [.func (.func 149) [] [.ptr s0.length 0]] :: .tok 9 1 l.length :: s1)) (fun v st' => v = .tuple [] ∧ st' = s0 ++ (.box 22 [.sl ((useS [] l s).map .str) (some (s0.length + 3))] :: .box 197 [.func (.func 150) [] [.ptr (s0.length + 2) 0, .ptr (s0.length + 1) 0]] :: .box 198 [.func (.func 149) [] [.ptr s0.length 0]] :: .tok 9 1 (useS [] l s).length :: s1)) :=
  Duo.Call.argle (bs := [.str s, .sl (([] : List Str).map .str) none, .ptr s0.length 0]) (show CLe _ [_, _, _] [_, _, _] from ⟨V.le_refl _ _, V.le_nil _, V.le_refl _ _, trivial⟩) (use_spec s [] l none (by simp) hl s0 s1)
set_option maxRecDepth 100000 in
set_option maxHeartbeats 8000000 in
theorem cloneN_spec  (st : List O) : Duo.Call Tryz.prog Tryz.gl 144 [.nil] st (fun v st' => v = .nil ∧ st' = st) := by
  refine Duo.Call.clo fun hst => ?_
  refine Duo.Call.body 8 [(0, .nil)] Tryz.func144 rfl rfl ?_
  repeat' first
    | (refine AW.seqK fun K hK => ?_; refine AW.regionNil (v := .nil) rfl rfl elt22 (Nat.le_of_ble_eq_true rfl) (Nat.le_of_ble_eq_true rfl) fun b hq => ?_; cases b)
    | (refine AW.regionApp0 elt22 rfl (Nat.le_of_ble_eq_true rfl) (Nat.le_of_ble_eq_true rfl) (Nat.le_of_ble_eq_true rfl) (Nat.le_of_ble_eq_true rfl) (by decide) ?_)
    | refine AW.seqK fun K hK => ?_
    | (refine hK _ _ ?_; clear hK K)
    | refine AW.region ?_
    | refine awL_nil ?_
    | refine awL_S1 rfl rfl (by simp (disch := omega) only [go_sem, ↓reduceIte, Nat.reduceEqDiff, Nat.reduceAdd, Nat.reduceLeDiff, Nat.reduceMul, Nat.reduceSub, Nat.reduceLT]; rfl) ?_
    | (refine AW.condK _ rfl (fun hb => ?_) (fun hb => ?_) <;> (try simp only [Int.ofNat_inj, not_true_eq_false, not_false_eq_true, Bool.false_eq_true, Bool.true_eq_false, decide_eq_true_eq, decide_eq_false_iff_not, Bool.not_eq_true, Bool.not_eq_false, Bool.not_eq_true', Bool.not_eq_false', Int.not_lt, Int.not_le, ne_eq, Decidable.not_not, List.length_map, Bool.and_eq_true, Bool.or_eq_true, Bool.and_eq_false_imp, Int.ofNat_lt, Int.ofNat_le] at hb) <;> try (exfalso; omega))
    | refine AW.skip ?_
    | refine useK (by assumption) ?_
    | (refine AW.ret ?_; show (_ ∨ _) ∧ _; refine ⟨.inr rfl, ?_⟩; show resP _ _ _ [.tmp 2] _; simp (disch := omega) only [go_sem, ↓reduceIte, Nat.reduceEqDiff, Nat.reduceAdd, Nat.reduceLeDiff, Nat.reduceMul, Nat.reduceSub, Nat.reduceLT]; refine ⟨_, _, _, Nat.le_refl _, V.le_refl _ _, StLe.refl _, ?_⟩; (try simp (disch := omega) only [go_sem, ↓reduceIte, Nat.reduceEqDiff, Nat.reduceAdd, Nat.reduceLeDiff, Nat.reduceMul, Nat.reduceSub, Nat.reduceLT, hst.trim, hst.trim_append]))
  all_goals trace_state
set_option maxRecDepth 100000 in
set_option maxHeartbeats 8000000 in
theorem leafw_spec (q : Pr) (bv : V) (l : List Str) (hk : q.kind = 1) (ha : q.args = []) (hq : q.kids = []) (s0 s1 : List O) : Duo.Call Tryz.prog Tryz.gl 150 [encP q, bv, .ptr (s0.length + 2) 0, .ptr (s0.length + 1) 0] (s0 ++ (.box 22 [.sl (l.map .str) (some (s0.length + 3))] :: .box 197 [.func (.func 150) [] [.ptr (s0.length + 2) 0, .ptr (s0.length + 1) 0]] :: .box 198 [.func (.func 149) [] [.ptr s0.length 0]] :: .tok 9 1 l.length :: s1)) (fun v st' => v = .tuple [] ∧ st' = s0 ++ (.box 22 [.sl (l.map .str) (some (s0.length + 3))] :: .box 197 [.func (.func 150) [] [.ptr (s0.length + 2) 0, .ptr (s0.length + 1) 0]] :: .box 198 [.func (.func 149) [] [.ptr s0.length 0]] :: .tok 9 1 l.length :: s1)) := by
  refine Duo.Call.clo fun hst => ?_
  refine Duo.Call.body 65 [(0, encP q), (1, bv), (2, .ptr (s0.length + 2) 0), (3, .ptr (s0.length + 1) 0)] Tryz.func150 rfl rfl ?_
  repeat' first
    | refine AW.seqK fun K hK => ?_
    | (refine hK _ _ ?_; clear hK K)
    | refine AW.region ?_
    | refine AW.any (id := 11) mix 5 (by decide +kernel) ?_
    | refine AW.any (id := 13) mix 7 (by decide +kernel) ?_
    | refine awL_call rfl (by first | exact ent94 | exact ent144) (by simp only [go_sem, ↓reduceIte, Nat.reduceEqDiff, Nat.reduceAdd, Nat.reduceLeDiff, Nat.reduceMul, Nat.reduceSub, Nat.reduceLT, List.length_map, List.length_append, List.length_cons, List.length_nil, hk, ha, hq, List.map_nil, prek1]; rfl) (by first | exact prefix_spec _ _) rfl ?_
    | refine awA_nil (by simp only [applyUps, List.nil_append, List.cons_append, S0, S2]; rfl) ?_
    | refine awL_nil ?_
    | refine awL_S1 rfl rfl (by simp (disch := omega) only [go_sem, ↓reduceIte, Nat.reduceEqDiff, Nat.reduceAdd, Nat.reduceLeDiff, Nat.reduceMul, Nat.reduceSub, Nat.reduceLT, List.length_map, List.length_append, List.length_cons, List.length_nil, hk, ha, hq, List.map_nil, prek1]; rfl) ?_
    | refine awA_call rfl (by first | exact ent94 | exact ent144) (by simp only [go_sem, ↓reduceIte, Nat.reduceEqDiff, Nat.reduceAdd, Nat.reduceLeDiff, Nat.reduceMul, Nat.reduceSub, Nat.reduceLT, List.length_map, List.length_append, List.length_cons, List.length_nil, hk, ha, hq, List.map_nil, prek1]; rfl) (by first | exact prefix_spec _ _) rfl ?_
    | refine awA_S1 rfl rfl (by simp (disch := omega) only [go_sem, ↓reduceIte, Nat.reduceEqDiff, Nat.reduceAdd, Nat.reduceLeDiff, Nat.reduceMul, Nat.reduceSub, Nat.reduceLT, List.length_map, List.length_append, List.length_cons, List.length_nil, hk, ha, hq, List.map_nil, prek1]; rfl) ?_
    | (refine AW.condK _ rfl (fun hb => ?_) (fun hb => ?_) <;> (try simp only [Int.ofNat_inj, not_true_eq_false, not_false_eq_true, Bool.false_eq_true, Bool.true_eq_false, decide_eq_true_eq, decide_eq_false_iff_not, Bool.not_eq_true, Bool.not_eq_false, Bool.not_eq_true', Bool.not_eq_false', Int.not_lt, Int.not_le, ne_eq, Decidable.not_not, List.length_map, Bool.and_eq_true, Bool.or_eq_true, Bool.and_eq_false_imp, Int.ofNat_lt, Int.ofNat_le, hk, prek1] at hb) <;> try (exfalso; omega))
    | refine AW.block ?_
    | refine bq_s ?_
    | refine bq_o rfl ?_
    | refine tq_e ?_
    | refine AW.exit ?_
    | refine AW.skip ?_
    | refine useK (by assumption) ?_
    | (refine AW.loopS (α := { i : Nat // i = 0 }) 65 (fun i => [(1, bv), (2, .ptr (s0.length + 2) 0), (3, .ptr (s0.length + 1) 0), (4, .ptr (s0.length + (s1.length + 4)) 0), (18, .sl [] none), (19, .int .i64 0), (20, .int .i64 (i.1 : Nat))]) (fun i => s0 ++ (.box 22 [.sl (l.map .str) (some (s0.length + 3))] :: .box 197 [.func (.func 150) [] [.ptr (s0.length + 2) 0, .ptr (s0.length + 1) 0]] :: .box 198 [.func (.func 149) [] [.ptr s0.length 0]] :: .tok 9 1 l.length :: (s1 ++ [.box 29 (encP q).cells]))) (fun i => 0) ⟨0, rfl⟩ rfl ?_ ?_ ?_; (focus (simp (disch := omega) only [go_sem, ↓reduceIte, Nat.reduceEqDiff, Nat.reduceAdd, Nat.reduceLeDiff, Nat.reduceMul, Nat.reduceSub, Nat.reduceLT]; done)); (focus (simp (disch := omega) only [go_sem, ↓reduceIte, Nat.reduceEqDiff, Nat.reduceAdd, Nat.reduceLeDiff, Nat.reduceMul, Nat.reduceSub, Nat.reduceLT]; done)); rintro ⟨i, hi⟩ hlc; dsimp only)
    | (refine ⟨⟨i, hi⟩, by simp only []; omega, _, Nat.le_refl _, Nat.le_of_ble_eq_true rfl, ?_, ?_⟩ <;> (simp (disch := omega) only [go_sem, ↓reduceIte, Nat.reduceEqDiff, Nat.reduceAdd, Nat.reduceLeDiff, Nat.reduceMul, Nat.reduceSub, Nat.reduceLT, List.length_append, hlc.trim, hlc.trim_append, trimS_app hst]))
    | (refine AW.loopS (α := { j : Nat // j = 0 }) 65 (fun j => [(1, bv), (2, .ptr (s0.length + 2) 0), (3, .ptr (s0.length + 1) 0), (4, .ptr (s0.length + (s1.length + 4)) 0), (54, .sl [] none), (55, .int .i64 0), (56, .int .i64 (j.1 : Nat))]) (fun j => s0 ++ (.box 22 [.sl (l.map .str) (some (s0.length + 3))] :: .box 197 [.func (.func 150) [] [.ptr (s0.length + 2) 0, .ptr (s0.length + 1) 0]] :: .box 198 [.func (.func 149) [] [.ptr s0.length 0]] :: .tok 9 1 l.length :: (s1 ++ [.box 29 (encP q).cells]))) (fun j => 0) ⟨0, rfl⟩ rfl ?_ ?_ ?_; (focus (simp (disch := omega) only [go_sem, ↓reduceIte, Nat.reduceEqDiff, Nat.reduceAdd, Nat.reduceLeDiff, Nat.reduceMul, Nat.reduceSub, Nat.reduceLT]; done)); (focus (simp (disch := omega) only [go_sem, ↓reduceIte, Nat.reduceEqDiff, Nat.reduceAdd, Nat.reduceLeDiff, Nat.reduceMul, Nat.reduceSub, Nat.reduceLT]; done)); rintro ⟨j, hj⟩ hlc; dsimp only)
    | (refine ⟨⟨j, hj⟩, by simp only []; omega, _, Nat.le_refl _, Nat.le_of_ble_eq_true rfl, ?_, ?_⟩ <;> (simp (disch := omega) only [go_sem, ↓reduceIte, Nat.reduceEqDiff, Nat.reduceAdd, Nat.reduceLeDiff, Nat.reduceMul, Nat.reduceSub, Nat.reduceLT, List.length_append, hlc.trim, hlc.trim_append, trimS_app hst]))
    | (refine AW.ret ?_; show (_ ∨ _) ∧ _; refine ⟨.inr rfl, ?_⟩; show resP _ _ _ [] _; simp (disch := omega) only [go_sem, ↓reduceIte, Nat.reduceEqDiff, Nat.reduceAdd, Nat.reduceLeDiff, Nat.reduceMul, Nat.reduceSub, Nat.reduceLT, List.length_map, List.length_append, List.length_cons, List.length_nil, hk, ha, hq, List.map_nil, prek1]; refine ⟨_, _, _, Nat.le_refl _, V.le_refl _ _, StLe.refl _, ?_⟩; (try simp (disch := omega) only [go_sem, ↓reduceIte, Nat.reduceEqDiff, Nat.reduceAdd, Nat.reduceLeDiff, Nat.reduceMul, Nat.reduceSub, Nat.reduceLT, List.length_map, List.length_append, List.length_cons, List.length_nil, hk, ha, hq, List.map_nil, prek1, hst.trim, hst.trim_append]))
    | (show (_ ∨ _) ∧ _; refine ⟨.inl rfl, ?_⟩; show resP _ _ _ [] _; simp (disch := omega) only [go_sem, ↓reduceIte, Nat.reduceEqDiff, Nat.reduceAdd, Nat.reduceLeDiff, Nat.reduceMul, Nat.reduceSub, Nat.reduceLT, List.length_map, List.length_append, List.length_cons, List.length_nil, hk, ha, hq, List.map_nil, prek1]; refine ⟨_, _, _, Nat.le_refl _, V.le_refl _ _, StLe.refl _, ?_⟩; (try simp (disch := omega) only [go_sem, ↓reduceIte, Nat.reduceEqDiff, Nat.reduceAdd, Nat.reduceLeDiff, Nat.reduceMul, Nat.reduceSub, Nat.reduceLT, List.length_map, List.length_append, List.length_cons, List.length_nil, hk, ha, hq, List.map_nil, prek1, hst.trim, hst.trim_append]))
  all_goals exact fr0 hst l [_] _ (by omega)
def flatP (p : Pr) : Prop := preK p.kind = true ∧ ∀ q ∈ p.kids, q.kind = 1 ∧ q.args = [] ∧ q.kids = []
def LL (p : Pr) (i : Nat) : List Str := (outA (p.args.take i)).foldl (useS []) (useS [] [] p.chan)
theorem LL_0 (p : Pr) : LL p 0 = useS [] [] p.chan := rfl
theorem LL_yes {p : Pr} {i : Nat} (h : i < p.args.length) (hk : p.args[i].kind = 1) : LL p (i + 1) = useS [] (LL p i) p.args[i].name := by
  unfold LL; rw [outA_yes h hk, List.foldl_append]; rfl
theorem LL_no {p : Pr} {i : Nat} (h : i < p.args.length) (hk : ¬ p.args[i].kind = 1) : LL p (i + 1) = LL p i := by
  unfold LL; rw [outA_no h hk]
theorem LL_len (p : Pr) (i : Nat) : (LL p i).length ≤ p.args.length + 1 := by
  unfold LL
  have h1 := useS_all (b := []) (outA (p.args.take i)) (useS [] [] p.chan)
  have h2 := useS_len [] [] p.chan
  have h3 := outA_len (p.args.take i)
  have h4 : (p.args.take i).length ≤ p.args.length := by rw [List.length_take]; omega
  simp only [List.length_nil] at h2
  omega
theorem LL_all {p : Pr} (h : flatP p) : LL p p.args.length = freeS p := by
  obtain ⟨h1, h2⟩ := h
  have e : usesP p [] = outP p := by
    have h3 : ∀ l : List Pr, (∀ q ∈ l, q.kind = 1 ∧ q.args = [] ∧ q.kids = []) → ∀ b, usesPs l b = [] := fun l => by
      induction l with
      | nil => intro _ b; rfl
      | cons q l ih =>
        intro hl b
        obtain ⟨q1, q2, q3⟩ := hl q (by simp)
        rw [usesPs, ih (fun x hx => hl x (List.mem_cons_of_mem _ hx)), usesP_eq, q3]
        unfold outP; rw [q1, q2]; rfl
    rw [usesP_eq, h3 p.kids h2, List.append_nil]
    unfold freeB; simp
  unfold LL freeS dedS
  rw [e]
  unfold outP
  rw [if_pos h1, List.foldl_append, List.take_length]
  have h4 : ∀ (xs : List Str) (l : List Str), xs.foldl (useS []) l = xs.foldl addS l := fun xs => by
    induction xs with
    | nil => intro l; rfl
    | cons s xs ih => intro l; rw [List.foldl_cons, List.foldl_cons, ih]; rfl
  rw [h4]; rfl
theorem leafx_spec (p : Pr) (hf : flatP p) {m : Nat} (hm : m < p.kids.length) (bv : V) (l : List Str) (s0 s1 : List O) : Duo.Call Tryz.prog Tryz.gl 150 [encP p.kids[m], bv, .ptr (s0.length + 2) 0, .ptr (s0.length + 1) 0] (s0 ++ (.box 22 [.sl (l.map .str) (some (s0.length + 3))] :: .box 197 [.func (.func 150) [] [.ptr (s0.length + 2) 0, .ptr (s0.length + 1) 0]] :: .box 198 [.func (.func 149) [] [.ptr s0.length 0]] :: .tok 9 1 l.length :: s1)) (fun v st' => v = .tuple [] ∧ st' = s0 ++ (.box 22 [.sl (l.map .str) (some (s0.length + 3))] :: .box 197 [.func (.func 150) [] [.ptr (s0.length + 2) 0, .ptr (s0.length + 1) 0]] :: .box 198 [.func (.func 149) [] [.ptr s0.length 0]] :: .tok 9 1 l.length :: s1)) := by
  obtain ⟨h1, h2, h3⟩ := hf.2 _ (List.getElem_mem hm)
  exact leafw_spec _ bv l h1 h2 h3 s0 s1
set_option maxRecDepth 100000 in
set_option maxHeartbeats 8000000 in
theorem walkT_spec (p : Pr) (hf : flatP p) (ha : smA p) (hkl : p.kids.length ≤ 1000000) (s0 s1 : List O) : Duo.Call Tryz.prog Tryz.gl 150 [encP p, .nil, .ptr (s0.length + 2) 0, .ptr (s0.length + 1) 0] (s0 ++ (.box 22 [.sl (([] : List Str).map .str) (some (s0.length + 3))] :: .box 197 [.func (.func 150) [] [.ptr (s0.length + 2) 0, .ptr (s0.length + 1) 0]] :: .box 198 [.func (.func 149) [] [.ptr s0.length 0]] :: .tok 9 1 ([] : List Str).length :: s1)) (fun v st' => v = .tuple [] ∧ st' = s0 ++ (.box 22 [.sl ((freeS p).map .str) (some (s0.length + 3))] :: .box 197 [.func (.func 150) [] [.ptr (s0.length + 2) 0, .ptr (s0.length + 1) 0]] :: .box 198 [.func (.func 149) [] [.ptr s0.length 0]] :: .tok 9 1 (freeS p).length :: s1)) := by
  refine Duo.Call.clo fun hst => ?_
  have ha2 := (smA_iff p).1 ha
  have hp1 := hf.1
  have hp2 := preK_yes hp1
  rw [← LL_all hf]
  refine Duo.Call.body 65 [(0, encP p), (1, .nil), (2, .ptr (s0.length + 2) 0), (3, .ptr (s0.length + 1) 0)] Tryz.func150 rfl rfl ?_
  repeat' first
    | refine AW.seqK fun K hK => ?_
    | (refine hK _ _ ?_; clear hK K)
    | refine AW.region ?_
    | refine AW.any (id := 11) mix 5 (by decide +kernel) ?_
    | refine AW.any (id := 13) mix 7 (by decide +kernel) ?_
    | refine awL_call rfl (by first | exact ent94 | exact ent144 | exact ent149 | exact ent150) (by simp only [go_sem, ↓reduceIte, Nat.reduceEqDiff, Nat.reduceAdd, Nat.reduceLeDiff, Nat.reduceMul, Nat.reduceSub, Nat.reduceLT, List.length_map, List.length_append, List.length_cons, List.length_nil, List.map_append, List.map_cons, List.map_nil]; rfl) (by first | exact prefix_spec p _ | exact useN_spec p.chan [] (by simp) s0 (s1 ++ [.box 29 (encP p).cells]) | exact useN_spec _ _ (by first | (simp only [List.length_nil]; omega) | (have := LL_len p i; omega)) _ _ | exact cloneN_spec _ | exact leafx_spec p hf (by assumption) _ _ _ _) rfl ?_
    | refine awA_nil (by simp only [applyUps, List.nil_append, List.cons_append, S0, S2]; rfl) ?_
    | refine awL_nil ?_
    | refine awL_S1 rfl rfl (by simp (disch := omega) only [go_sem, ↓reduceIte, Nat.reduceEqDiff, Nat.reduceAdd, Nat.reduceLeDiff, Nat.reduceMul, Nat.reduceSub, Nat.reduceLT, List.length_map, List.length_append, List.length_cons, List.length_nil, List.map_append, List.map_cons, List.map_nil]; rfl) ?_
    | refine awA_call rfl (by first | exact ent94 | exact ent144 | exact ent149 | exact ent150) (by simp only [go_sem, ↓reduceIte, Nat.reduceEqDiff, Nat.reduceAdd, Nat.reduceLeDiff, Nat.reduceMul, Nat.reduceSub, Nat.reduceLT, List.length_map, List.length_append, List.length_cons, List.length_nil, List.map_append, List.map_cons, List.map_nil]; rfl) (by first | exact prefix_spec p _ | exact useN_spec p.chan [] (by simp) s0 (s1 ++ [.box 29 (encP p).cells]) | exact useN_spec _ _ (by first | (simp only [List.length_nil]; omega) | (have := LL_len p i; omega)) _ _ | exact cloneN_spec _ | exact leafx_spec p hf (by assumption) _ _ _ _) rfl ?_
    | refine awA_S1 rfl rfl (by simp (disch := omega) only [go_sem, ↓reduceIte, Nat.reduceEqDiff, Nat.reduceAdd, Nat.reduceLeDiff, Nat.reduceMul, Nat.reduceSub, Nat.reduceLT, List.length_map, List.length_append, List.length_cons, List.length_nil, List.map_append, List.map_cons, List.map_nil]; rfl) ?_
    | (refine AW.condK _ rfl (fun hb => ?_) (fun hb => ?_) <;> (try simp only [Int.ofNat_inj, not_true_eq_false, not_false_eq_true, Bool.false_eq_true, Bool.true_eq_false, decide_eq_true_eq, decide_eq_false_iff_not, Bool.not_eq_true, Bool.not_eq_false, Bool.not_eq_true', Bool.not_eq_false', Int.not_lt, Int.not_le, ne_eq, Decidable.not_not, List.length_map, Bool.and_eq_true, Bool.or_eq_true, Bool.and_eq_false_imp, Int.ofNat_lt, Int.ofNat_le, hp1] at hb) <;> try (exfalso; omega))
    | refine AW.block ?_
    | refine bq_s ?_
    | refine bq_o rfl ?_
    | refine tq_e ?_
    | refine AW.exit ?_
    | refine AW.skip ?_
    | refine useK (by assumption) ?_
    | (refine AW.loopS (α := { i : Nat // i ≤ p.args.length }) 65 (fun i => [(1, .nil), (2, .ptr (s0.length + 2) 0), (3, .ptr (s0.length + 1) 0), (4, .ptr (s0.length + (s1.length + 4)) 0), (18, .sl (p.args.map encV) none), (19, .int .i64 p.args.length), (20, .int .i64 (i.1 : Nat))]) (fun i => s0 ++ (.box 22 [.sl ((LL p i.1).map .str) (some (s0.length + 3))] :: .box 197 [.func (.func 150) [] [.ptr (s0.length + 2) 0, .ptr (s0.length + 1) 0]] :: .box 198 [.func (.func 149) [] [.ptr s0.length 0]] :: .tok 9 1 (LL p i.1).length :: (s1 ++ [.box 29 (encP p).cells]))) (fun i => p.args.length - i.1) ⟨0, Nat.zero_le _⟩ rfl ?_ ?_ ?_; (focus (simp (disch := omega) only [go_sem, ↓reduceIte, Nat.reduceEqDiff, Nat.reduceAdd, Nat.reduceLeDiff, Nat.reduceMul, Nat.reduceSub, Nat.reduceLT, LL_0]; done)); (focus (simp (disch := omega) only [go_sem, ↓reduceIte, Nat.reduceEqDiff, Nat.reduceAdd, Nat.reduceLeDiff, Nat.reduceMul, Nat.reduceSub, Nat.reduceLT, LL_0]; done)); rintro ⟨i, hi⟩ hlc; dsimp only)
    | (guard_hyp hb : p.args[i].kind = 1; have huk := LL_yes (p := p) (by assumption) hb; refine ⟨⟨i + 1, by omega⟩, by simp only []; omega, _, Nat.le_refl _, Nat.le_of_ble_eq_true rfl, ?_, ?_⟩ <;> (simp (disch := omega) only [go_sem, ↓reduceIte, Nat.reduceEqDiff, Nat.reduceAdd, Nat.reduceLeDiff, Nat.reduceMul, Nat.reduceSub, Nat.reduceLT, fr1 hst, huk, List.length_append, hlc.trim, hlc.trim_append, trimS_app hst]; done))
    | (guard_hyp hb : ¬ p.args[i].kind = 1; have huk := LL_no (p := p) (by assumption) hb; refine ⟨⟨i + 1, by omega⟩, by simp only []; omega, _, Nat.le_refl _, Nat.le_of_ble_eq_true rfl, ?_, ?_⟩ <;> (simp (disch := omega) only [go_sem, ↓reduceIte, Nat.reduceEqDiff, Nat.reduceAdd, Nat.reduceLeDiff, Nat.reduceMul, Nat.reduceSub, Nat.reduceLT, fr1 hst, huk, List.length_append, hlc.trim, hlc.trim_append, trimS_app hst]))
    | (skip; (have hin := Nat.le_antisymm hi (Nat.le_of_not_lt (by assumption))); subst hin; refine AW.loopS (α := { m : Nat // m ≤ p.kids.length }) 65 (fun m => [(1, .sl [.str p.var] (some (s0.length + (s1.length + 6)))), (2, .ptr (s0.length + 2) 0), (3, .ptr (s0.length + 1) 0), (4, .ptr (s0.length + (s1.length + 4)) 0), (54, .sl (p.kids.map encP) none), (55, .int .i64 p.kids.length), (56, .int .i64 (m.1 : Nat))]) (fun m => s0 ++ (.box 22 [.sl ((LL p p.args.length).map .str) (some (s0.length + 3))] :: .box 197 [.func (.func 150) [] [.ptr (s0.length + 2) 0, .ptr (s0.length + 1) 0]] :: .box 198 [.func (.func 149) [] [.ptr s0.length 0]] :: .tok 9 1 (LL p p.args.length).length :: (s1 ++ [.box 29 (encP p).cells, .tok 9 1 1, .tok 9 1 1]))) (fun m => p.kids.length - m.1) ⟨0, Nat.zero_le _⟩ rfl ?_ ?_ ?_; (focus (simp (disch := omega) only [go_sem, ↓reduceIte, Nat.reduceEqDiff, Nat.reduceAdd, Nat.reduceLeDiff, Nat.reduceMul, Nat.reduceSub, Nat.reduceLT]; done)); (focus (simp (disch := omega) only [go_sem, ↓reduceIte, Nat.reduceEqDiff, Nat.reduceAdd, Nat.reduceLeDiff, Nat.reduceMul, Nat.reduceSub, Nat.reduceLT]; done)); rintro ⟨m, hm⟩ hlc; dsimp only)
    | (refine ⟨⟨m + 1, by omega⟩, by simp only []; omega, _, Nat.le_refl _, Nat.le_of_ble_eq_true rfl, ?_, ?_⟩ <;> (simp (disch := omega) only [go_sem, ↓reduceIte, Nat.reduceEqDiff, Nat.reduceAdd, Nat.reduceLeDiff, Nat.reduceMul, Nat.reduceSub, Nat.reduceLT, fr1 hst, fr3 hst, List.length_append, hlc.trim, hlc.trim_append, trimS_app hst]))
    | (skip; (have hin := Nat.le_antisymm hi (Nat.le_of_not_lt (by assumption))); subst hin; refine AW.loopS (α := { m : Nat // m ≤ p.kids.length }) 65 (fun m => [(1, .nil), (2, .ptr (s0.length + 2) 0), (3, .ptr (s0.length + 1) 0), (4, .ptr (s0.length + (s1.length + 4)) 0), (54, .sl (p.kids.map encP) none), (55, .int .i64 p.kids.length), (56, .int .i64 (m.1 : Nat))]) (fun m => s0 ++ (.box 22 [.sl ((LL p p.args.length).map .str) (some (s0.length + 3))] :: .box 197 [.func (.func 150) [] [.ptr (s0.length + 2) 0, .ptr (s0.length + 1) 0]] :: .box 198 [.func (.func 149) [] [.ptr s0.length 0]] :: .tok 9 1 (LL p p.args.length).length :: (s1 ++ [.box 29 (encP p).cells]))) (fun m => p.kids.length - m.1) ⟨0, Nat.zero_le _⟩ rfl ?_ ?_ ?_; (focus (simp (disch := omega) only [go_sem, ↓reduceIte, Nat.reduceEqDiff, Nat.reduceAdd, Nat.reduceLeDiff, Nat.reduceMul, Nat.reduceSub, Nat.reduceLT]; done)); (focus (simp (disch := omega) only [go_sem, ↓reduceIte, Nat.reduceEqDiff, Nat.reduceAdd, Nat.reduceLeDiff, Nat.reduceMul, Nat.reduceSub, Nat.reduceLT]; done)); rintro ⟨m, hm⟩ hlc; dsimp only)
    | (refine ⟨⟨m + 1, by omega⟩, by simp only []; omega, _, Nat.le_refl _, Nat.le_of_ble_eq_true rfl, ?_, ?_⟩ <;> (simp (disch := omega) only [go_sem, ↓reduceIte, Nat.reduceEqDiff, Nat.reduceAdd, Nat.reduceLeDiff, Nat.reduceMul, Nat.reduceSub, Nat.reduceLT, fr1 hst, fr3 hst, List.length_append, hlc.trim, hlc.trim_append, trimS_app hst]))
    | (refine AW.ret ?_; show (_ ∨ _) ∧ _; refine ⟨.inr rfl, ?_⟩; show resP _ _ _ [] _; simp (disch := omega) only [go_sem, ↓reduceIte, Nat.reduceEqDiff, Nat.reduceAdd, Nat.reduceLeDiff, Nat.reduceMul, Nat.reduceSub, Nat.reduceLT, List.length_map, List.length_append, List.length_cons, List.length_nil, List.map_append, List.map_cons, List.map_nil]; refine ⟨_, _, _, Nat.le_refl _, V.le_refl _ _, StLe.refl _, ?_⟩; (try simp (disch := omega) only [go_sem, ↓reduceIte, Nat.reduceEqDiff, Nat.reduceAdd, Nat.reduceLeDiff, Nat.reduceMul, Nat.reduceSub, Nat.reduceLT, List.length_map, List.length_append, List.length_cons, List.length_nil, List.map_append, List.map_cons, List.map_nil, hst.trim, hst.trim_append]))
    | (show (_ ∨ _) ∧ _; refine ⟨.inl rfl, ?_⟩; show resP _ _ _ [] _; simp (disch := omega) only [go_sem, ↓reduceIte, Nat.reduceEqDiff, Nat.reduceAdd, Nat.reduceLeDiff, Nat.reduceMul, Nat.reduceSub, Nat.reduceLT, List.length_map, List.length_append, List.length_cons, List.length_nil, List.map_append, List.map_cons, List.map_nil]; refine ⟨_, _, _, Nat.le_refl _, V.le_refl _ _, StLe.refl _, ?_⟩; (try simp (disch := omega) only [go_sem, ↓reduceIte, Nat.reduceEqDiff, Nat.reduceAdd, Nat.reduceLeDiff, Nat.reduceMul, Nat.reduceSub, Nat.reduceLT, List.length_map, List.length_append, List.length_cons, List.length_nil, List.map_append, List.map_cons, List.map_nil, hst.trim, hst.trim_append]))
  all_goals first | exact fr0 hst _ _ _ (by omega) | trace_state
theorem walkF_spec (p : Pr) (hf : flatP p) (ha : smA p) (hkl : p.kids.length ≤ 1000000) (a : O) (st : List O) : Duo.Call Tryz.prog Tryz.gl 150 [encP p, .nil, .ptr (st.length + 3) 0, .ptr (st.length + 2) 0] (st ++ [a, .box 22 [.sl [] (some (st.length + 4))], .box 197 [.func (.func 150) [] [.ptr (st.length + 3) 0, .ptr (st.length + 2) 0]], .box 198 [.func (.func 149) [] [.ptr (st.length + 1) 0]], .tok 9 1 0]) (fun v st' => v = .tuple [] ∧ st' = st ++ [a, .box 22 [.sl ((freeS p).map .str) (some (st.length + 4))], .box 197 [.func (.func 150) [] [.ptr (st.length + 3) 0, .ptr (st.length + 2) 0]], .box 198 [.func (.func 149) [] [.ptr (st.length + 1) 0]], .tok 9 1 (freeS p).length]) := by
  have h := walkT_spec p hf ha hkl (st ++ [a]) []
  simp only [List.append_assoc, List.cons_append, List.nil_append, List.length_append, List.length_cons, List.length_nil, Nat.add_assoc, Nat.reduceAdd, List.map_nil] at h
  exact h
theorem stLeF (st : List O) (a : O) : StLe (st ++ [a, .box 22 [.nil], .box 197 [.func (.func 150) [] [.ptr (st.length + 3) 0, .ptr (st.length + 2) 0]], .box 198 [.func (.func 149) [] [.ptr (st.length + 1) 0]], .tok 9 1 0]) (st ++ [a, .box 22 [.sl [] (some (st.length + 4))], .box 197 [.func (.func 150) [] [.ptr (st.length + 3) 0, .ptr (st.length + 2) 0]], .box 198 [.func (.func 149) [] [.ptr (st.length + 1) 0]], .tok 9 1 0]) := by
  refine StLe.app ⟨O.le_refl _ _, ⟨[.sl [] (some (st.length + 4))], rfl, rfl, fun i c d hc hd => ?_⟩, O.le_refl _ _, O.le_refl _ _, O.le_refl _ _, trivial⟩
  rcases i with _ | i
  · simp only [List.getElem?_cons_zero, Option.some.injEq] at hc hd
    subst hc hd
    exact V.le_nil_tok (e := 9) (sz := 1) (by simp)
  · simp at hc
set_option maxRecDepth 100000 in
set_option maxHeartbeats 8000000 in
theorem pfree_spec (p : Pr) (hf : flatP p) (ha : smA p) (hkl : p.kids.length ≤ 1000000) (st : List O) : Duo.Call Tryz.prog Tryz.gl 103 [encP p] st (fun v st' => v = .sl ((freeS p).map .str) none ∧ st' = st) := by
  refine Duo.Call.clo fun hst => ?_
  refine Duo.Call.body 12 [(0, encP p)] Tryz.func103 rfl rfl ?_
  repeat' first
    | (refine AW.tok 9 1 ?_; rw [List.append_assoc]; simp only [List.cons_append, List.nil_append]; refine AW.pre (Env.le_refl _ _) (stLeF st _) ?_)
    | refine AW.seqK fun K hK => ?_
    | (refine hK _ _ ?_; clear hK K)
    | refine AW.region ?_
    | refine awL_call rfl (by first | exact ent150) (by simp only [go_sem, ↓reduceIte, Nat.reduceEqDiff, Nat.reduceAdd, Nat.reduceLeDiff, Nat.reduceMul, Nat.reduceSub, Nat.reduceLT]; rfl) (by first | exact walkF_spec p hf ha hkl _ _) rfl ?_
    | refine awL_nil ?_
    | refine awL_S1 rfl rfl (by simp (disch := omega) only [go_sem, ↓reduceIte, Nat.reduceEqDiff, Nat.reduceAdd, Nat.reduceLeDiff, Nat.reduceMul, Nat.reduceSub, Nat.reduceLT]; rfl) ?_
    | (refine AW.condK _ rfl (fun hb => ?_) (fun hb => ?_) <;> (try simp only [Int.ofNat_inj, not_true_eq_false, not_false_eq_true, Bool.false_eq_true, Bool.true_eq_false, decide_eq_true_eq, decide_eq_false_iff_not, Bool.not_eq_true, Bool.not_eq_false, Bool.not_eq_true', Bool.not_eq_false', Int.not_lt, Int.not_le, ne_eq, Decidable.not_not, List.length_map, Bool.and_eq_true, Bool.or_eq_true, Bool.and_eq_false_imp, Int.ofNat_lt, Int.ofNat_le] at hb) <;> try (exfalso; omega))
    | refine AW.skip ?_
    | refine useK (by assumption) ?_
    | (refine AW.ret ?_; show (_ ∨ _) ∧ _; refine ⟨.inr rfl, ?_⟩; show resP _ _ _ [.tmp 2] _; simp (disch := omega) only [go_sem, ↓reduceIte, Nat.reduceEqDiff, Nat.reduceAdd, Nat.reduceLeDiff, Nat.reduceMul, Nat.reduceSub, Nat.reduceLT]; refine ⟨_, _, _, Nat.le_refl _, V.le_refl _ _, StLe.refl _, ?_⟩; (try simp (disch := omega) only [go_sem, ↓reduceIte, Nat.reduceEqDiff, Nat.reduceAdd, Nat.reduceLeDiff, Nat.reduceMul, Nat.reduceSub, Nat.reduceLT, hst.trim, hst.trim_append]))
  all_goals trace_state
end Tryz
end Go.Proofs
