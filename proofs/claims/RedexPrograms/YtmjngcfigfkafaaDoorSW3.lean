/-
  A part of the proof.
-/
import Derived.Test.YtmjngcfigfkafaaDoorLib
import Derived.Test.YtmjngcfigfkafaaDoorSFacts
import Derived.Test.YtmjngcfigfkafaaDoorData
import Derived.Test.YtmjngcfigfkafaaDoorDKit
set_option linter.all false
namespace Go.Proofs
open Go Go.Duo
namespace Tryd
theorem decimal_aux (m : Nat) : ∀ (n : Int) (_ : 2 * n.natAbs + (if n < 0 then 1 else 0) < m) (h0 : -9223372036854775808 ≤ n) (h1 : n ≤ 9223372036854775807) (st : List O), Duo.Call Tryd.prog Tryd.gl 69 [.int .i64 n] st (fun v st' => v = .str (Lib.itoa n) ∧ st' = st) := by
  induction m with
  | zero => intro n h; omega
  | succ m ih =>
  intro n hm h0 h1 st
  refine Duo.Call.clo fun hst => ?_
  refine Duo.Call.body 28 [(0, .int .i64 n)] Tryd.func69 rfl rfl ?_
  refine AW.seqK fun K1 hK1 => ?_
  refine AW.region ?_
  refine awL_k rfl rfl fun K2 h2 => ?_
  simp (disch := omega) only [S0, step1]
  refine h2 _ _ ?_
  clear h2 K2
  refine hK1 _ _ ?_
  clear hK1 K1
  refine AW.seqK fun K3 hK3 => ?_
  refine AW.seqK fun K4 hK4 => ?_
  refine AW.region ?_
  refine awL_k rfl rfl fun K5 h5 => ?_
  simp (disch := omega) only [S0, step1, reduceIte, Nat.reduceEqDiff]
  refine h5 _ _ ?_
  clear h5 K5
  refine awL_k rfl rfl fun K6 h6 => ?_
  simp (disch := omega) only [S0, step1, Nat.reduceEqDiff, isNilC, Bool.false_eq_true, binP, intP, true_and, if_true, if_false]
  refine h6 _ _ ?_
  clear h6 K6
  refine hK4 _ _ ?_
  clear hK4 K4
  refine AW.condK _ rfl (fun hb7 => ?_) (fun hb7 => ?_)
  · skip
    simp only [decide_eq_true_eq] at hb7
    refine AW.seqK fun K8 hK8 => ?_
    refine AW.seqK fun K9 hK9 => ?_
    refine AW.region ?_
    refine awL_k rfl rfl fun K10 h10 => ?_
    simp (disch := omega) only [S0, step1, reduceIte, Nat.reduceEqDiff]
    refine h10 _ _ ?_
    clear h10 K10
    refine awL_k rfl rfl fun K11 h11 => ?_
    simp (disch := omega) only [S0, step1, Nat.reduceEqDiff, isNilC, Bool.false_eq_true, binP, intP, true_and, if_true, if_false]
    refine h11 _ _ ?_
    clear h11 K11
    refine hK9 _ _ ?_
    clear hK9 K9
    refine AW.condK _ rfl (fun hb12 => ?_) (fun hb12 => ?_)
    · skip
      simp only [decide_eq_true_eq] at hb12
      subst hb12
      refine AW.seqK fun K13 hK13 => ?_
      refine AW.region ?_
      refine awL_k rfl rfl fun K14 h14 => ?_
      simp (disch := omega) only [S0, step1]
      refine h14 _ _ ?_
      clear h14 K14
      refine hK13 _ _ ?_
      clear hK13 K13
      refine AW.ret ?_
      show (_ ∨ _) ∧ _
      refine ⟨.inr rfl, ?_⟩
      show resP _ _ _ [.tmp 2] _
      simp only [resP, resV, V.trim, S0, reduceIte, Nat.reduceEqDiff]
      refine ⟨_, _, _, Nat.le_refl _, V.le_refl _ _, StLe.refl _, ?_⟩
      exact ⟨by rw [itoa_min], hst.trim⟩
    · skip
      simp only [decide_eq_false_iff_not] at hb12
      have hl := Lib.itoa_length_le (0 - n) (by omega) (by omega)
      refine AW.skip ?_
      refine hK8 _ _ ?_
      clear hK8 K8
      refine AW.seqK fun K15 hK15 => ?_
      refine AW.region ?_
      refine awL_k rfl rfl fun K16 h16 => ?_
      simp (disch := omega) only [S0, step1, reduceIte, Nat.reduceEqDiff]
      refine h16 _ _ ?_
      clear h16 K16
      refine awL_k rfl rfl fun K17 h17 => ?_
      simp (disch := omega) only [S0, step1, reduceIte, Nat.reduceEqDiff, unP, KB]
      refine h17 _ _ ?_
      clear h17 K17
      refine awL_k rfl rfl fun K18 h18 => ?_
      show ent _ _ = true ∧ _
      simp only [S0, reduceIte, Nat.reduceEqDiff, List.map, List.nil_append, List.append_nil]
      refine ⟨Tryd.ent69, Duo.Call.mono (ih _ (by split at hm <;> split <;> omega) (by omega) (by omega) _) ?_⟩
      rintro _ _ ⟨rfl, hcs⟩
      obtain rfl := hcs.symm
      refine h18 _ _ ?_
      clear h18 K18
      refine awL_k rfl rfl fun K19 h19 => ?_
      simp (disch := omega) only [S0, step1, Nat.reduceEqDiff, isNilC, Bool.false_eq_true, binP, strP, if_true, if_false]
      (((repeat' refine And.intro ?_ ?_); all_goals first | refine h19 _ _ ?_ | (simp only [List.length_cons, List.length_nil]; omega)))
      clear h19 K19
      refine awL_k rfl rfl fun K20 h20 => ?_
      simp (disch := omega) only [S0, step1, reduceIte, Nat.reduceEqDiff]
      refine h20 _ _ ?_
      clear h20 K20
      refine hK15 _ _ ?_
      clear hK15 K15
      refine AW.ret ?_
      show (_ ∨ _) ∧ _
      refine ⟨.inr rfl, ?_⟩
      show resP _ _ _ [.tmp 2] _
      simp only [resP, resV, V.trim, S0, reduceIte, Nat.reduceEqDiff]
      refine ⟨_, _, _, Nat.le_refl _, V.le_refl _ _, StLe.refl _, ?_⟩
      exact ⟨by rw [itoa_minus (by omega)], hst.trim⟩
  · skip
    simp only [decide_eq_false_iff_not, Int.not_lt] at hb7
    refine AW.skip ?_
    refine hK3 _ _ ?_
    clear hK3 K3
    refine AW.seqK fun K21 hK21 => ?_
    refine AW.region ?_
    refine awL_k rfl rfl fun K22 h22 => ?_
    simp (disch := omega) only [S0, step1]
    refine h22 _ _ ?_
    clear h22 K22
    refine hK21 _ _ ?_
    clear hK21 K21
    refine AW.seqK fun K23 hK23 => ?_
    refine AW.region ?_
    refine awL_k rfl rfl fun K24 h24 => ?_
    simp (disch := omega) only [S0, step1, reduceIte, Nat.reduceEqDiff]
    refine h24 _ _ ?_
    clear h24 K24
    refine awL_k rfl rfl fun K25 h25 => ?_
    simp (disch := omega) only [S0, step1, reduceIte, Nat.reduceEqDiff]
    refine h25 _ _ ?_
    clear h25 K25
    refine awL_k rfl rfl fun K26 h26 => ?_
    simp (disch := omega) only [S0, step1, Nat.reduceEqDiff, isNilC, Bool.false_eq_true, binP, intP, true_and, if_true, if_false, KB]
    (((repeat' refine And.intro ?_ ?_); all_goals first | refine h26 _ _ ?_ | omega))
    clear h26 K26
    refine awL_k rfl rfl fun K27 h27 => ?_
    simp (disch := omega) only [S0, step1, reduceIte, Nat.reduceEqDiff]
    refine h27 _ _ ?_
    clear h27 K27
    refine awL_k rfl rfl fun K28 h28 => ?_
    simp (disch := omega) only [S0, step1, Nat.reduceEqDiff, isNilC, Bool.false_eq_true, binP, intP, true_and, if_true, if_false, KB]
    (((repeat' refine And.intro ?_ ?_); all_goals first | refine h28 _ _ ?_ | omega))
    clear h28 K28
    refine awL_k rfl rfl fun K29 h29 => ?_
    simp (disch := omega) only [S0, step1, Nat.reduceEqDiff, isNilC, Bool.false_eq_true, binP, intP, true_and, if_true, if_false, KB]
    refine h29 _ _ ?_
    clear h29 K29
    refine awL_k rfl rfl fun K30 h30 => ?_
    simp (disch := omega) only [S0, step1, reduceIte, Nat.reduceEqDiff, sliceP, bndOf, Option.map, Tryd.u9, S1, Nat.reduceAdd]
    (((repeat' refine And.intro ?_ ?_); all_goals first | refine h30 _ _ ?_ | omega))
    clear h30 K30
    refine awL_k rfl rfl fun K31 h31 => ?_
    simp (disch := omega) only [S0, step1, reduceIte, Nat.reduceEqDiff]
    refine h31 _ _ ?_
    clear h31 K31
    refine hK23 _ _ ?_
    clear hK23 K23
    refine AW.seqK fun K32 hK32 => ?_
    refine AW.seqK fun K33 hK33 => ?_
    refine AW.region ?_
    refine awL_k rfl rfl fun K34 h34 => ?_
    simp (disch := omega) only [S0, step1, reduceIte, Nat.reduceEqDiff]
    refine h34 _ _ ?_
    clear h34 K34
    refine awL_k rfl rfl fun K35 h35 => ?_
    simp (disch := omega) only [S0, step1, Nat.reduceEqDiff, isNilC, Bool.false_eq_true, binP, intP, true_and, if_true, if_false]
    refine h35 _ _ ?_
    clear h35 K35
    refine hK33 _ _ ?_
    clear hK33 K33
    refine AW.condK _ rfl (fun hb36 => ?_) (fun hb36 => ?_)
    · skip
      simp only [decide_eq_true_eq] at hb36
      refine AW.seqK fun K37 hK37 => ?_
      refine AW.region ?_
      refine awL_k rfl rfl fun K38 h38 => ?_
      simp (disch := omega) only [S0, step1, reduceIte, Nat.reduceEqDiff]
      refine h38 _ _ ?_
      clear h38 K38
      refine awL_k rfl rfl fun K39 h39 => ?_
      simp (disch := omega) only [S0, step1, reduceIte, Nat.reduceEqDiff]
      refine h39 _ _ ?_
      clear h39 K39
      refine hK37 _ _ ?_
      clear hK37 K37
      refine AW.ret ?_
      show (_ ∨ _) ∧ _
      refine ⟨.inr rfl, ?_⟩
      show resP _ _ _ [.tmp 2] _
      simp only [resP, resV, V.trim, S0, reduceIte, Nat.reduceEqDiff]
      refine ⟨_, _, _, Nat.le_refl _, V.le_refl _ _, StLe.refl _, ?_⟩
      exact ⟨by rw [itoa_small (by omega) (by omega)], hst.trim⟩
    · skip
      simp only [decide_eq_false_iff_not, Int.not_lt] at hb36
      have hl := Lib.itoa_length_le (n / 10) (by omega) (by omega)
      have hl2 : (List.drop (n % 10).toNat (List.take (n % 10 + 1).toNat ([48, 49, 50, 51, 52, 53, 54, 55, 56, 57] : Str))).length ≤ 1 := by rw [List.length_drop, List.length_take]; omega
      refine AW.skip ?_
      refine hK32 _ _ ?_
      clear hK32 K32
      refine AW.seqK fun K40 hK40 => ?_
      refine AW.region ?_
      refine awL_k rfl rfl fun K41 h41 => ?_
      simp (disch := omega) only [S0, step1, reduceIte, Nat.reduceEqDiff]
      refine h41 _ _ ?_
      clear h41 K41
      refine awL_k rfl rfl fun K42 h42 => ?_
      simp (disch := omega) only [S0, step1, Nat.reduceEqDiff, isNilC, Bool.false_eq_true, binP, intP, true_and, if_true, if_false, KB]
      (((repeat' refine And.intro ?_ ?_); all_goals first | refine h42 _ _ ?_ | omega))
      clear h42 K42
      refine awL_k rfl rfl fun K43 h43 => ?_
      show ent _ _ = true ∧ _
      simp only [S0, reduceIte, Nat.reduceEqDiff, List.map, List.nil_append, List.append_nil]
      refine ⟨Tryd.ent69, Duo.Call.mono (ih _ (by split at hm <;> split <;> omega) (by omega) (by omega) _) ?_⟩
      rintro _ _ ⟨rfl, hcs⟩
      obtain rfl := hcs.symm
      refine h43 _ _ ?_
      clear h43 K43
      refine awL_k rfl rfl fun K44 h44 => ?_
      simp (disch := omega) only [S0, step1, reduceIte, Nat.reduceEqDiff]
      refine h44 _ _ ?_
      clear h44 K44
      refine awL_k rfl rfl fun K45 h45 => ?_
      simp (disch := omega) only [S0, step1, Nat.reduceEqDiff, isNilC, Bool.false_eq_true, binP, strP, if_true, if_false]
      (((repeat' refine And.intro ?_ ?_); all_goals first | refine h45 _ _ ?_ | omega))
      clear h45 K45
      refine awL_k rfl rfl fun K46 h46 => ?_
      simp (disch := omega) only [S0, step1, reduceIte, Nat.reduceEqDiff]
      refine h46 _ _ ?_
      clear h46 K46
      refine hK40 _ _ ?_
      clear hK40 K40
      refine AW.ret ?_
      show (_ ∨ _) ∧ _
      refine ⟨.inr rfl, ?_⟩
      show resP _ _ _ [.tmp 2] _
      simp only [resP, resV, V.trim, S0, reduceIte, Nat.reduceEqDiff]
      refine ⟨_, _, _, Nat.le_refl _, V.le_refl _ _, StLe.refl _, ?_⟩
      exact ⟨by rw [itoa_big (by omega)], hst.trim⟩
theorem decimal_spec (n : Int) (h0 : -9223372036854775808 ≤ n) (h1 : n ≤ 9223372036854775807) (st : List O) : Duo.Call Tryd.prog Tryd.gl 69 [.int .i64 n] st (fun v st' => v = .str (Lib.itoa n) ∧ st' = st) := decimal_aux _ n (Nat.lt_succ_self _) h0 h1 st
set_option maxHeartbeats 8000000 in
theorem rname_spec (k : Int) (p : Bool) (h0 : -9223372036854775808 ≤ k) (h1 : k ≤ 9223372036854775807) (st : List O) : Duo.Call Tryd.prog Tryd.gl 43 [.int .i64 k, .bool p] st (fun v st' => v = .str (nameL k p) ∧ st' = st) := by
  refine Duo.Call.clo fun hst => ?_
  refine Duo.Call.real fun hr => ?_
  have hl := Lib.itoa_length_le k h0 h1
  refine Duo.Call.body 12 [(0, .int .i64 k), (1, .bool p)] Tryd.func43 rfl rfl ?_
  refine AW.seqK fun K1 hK1 => ?_
  refine AW.region ?_
  refine awL_k rfl rfl fun K2 h2 => ?_
  simp (disch := omega) only [S0, step1]
  refine h2 _ _ ?_
  clear h2 K2
  refine hK1 _ _ ?_
  clear hK1 K1
  refine AW.seqK fun K3 hK3 => ?_
  refine AW.seqK fun K4 hK4 => ?_
  refine AW.region ?_
  refine awL_k rfl rfl fun K5 h5 => ?_
  simp (disch := omega) only [S0, step1, reduceIte, Nat.reduceEqDiff]
  refine h5 _ _ ?_
  clear h5 K5
  refine hK4 _ _ ?_
  clear hK4 K4
  refine AW.condK _ rfl (fun hb6 => ?_) (fun hb6 => ?_)
  · skip
    skip
    have hp := hb6
    refine AW.seqK fun K7 hK7 => ?_
    refine AW.region ?_
    refine awL_k rfl rfl fun K8 h8 => ?_
    simp (disch := omega) only [S0, step1, reduceIte, Nat.reduceEqDiff]
    refine h8 _ _ ?_
    clear h8 K8
    refine awL_k rfl rfl fun K9 h9 => ?_
    show ent _ _ = true ∧ _
    simp only [S0, reduceIte, Nat.reduceEqDiff, List.map, List.nil_append, List.append_nil]
    refine ⟨Tryd.ent69, Duo.Call.mono (decimal_spec _ (by omega) (by omega) _) ?_⟩
    rintro _ _ ⟨rfl, hcs⟩
    obtain rfl := hcs.symm
    refine h9 _ _ ?_
    clear h9 K9
    refine awL_k rfl rfl fun K10 h10 => ?_
    simp (disch := omega) only [S0, step1, Nat.reduceEqDiff, isNilC, Bool.false_eq_true, binP, strP, if_true, if_false]
    (((repeat' refine And.intro ?_ ?_); all_goals first | refine h10 _ _ ?_ | (simp only [List.length_cons, List.length_nil]; omega)))
    clear h10 K10
    refine awL_k rfl rfl fun K11 h11 => ?_
    simp (disch := omega) only [S0, step1, reduceIte, Nat.reduceEqDiff]
    refine h11 _ _ ?_
    clear h11 K11
    refine hK7 _ _ ?_
    clear hK7 K7
    refine AW.ret ?_
    show (_ ∨ _) ∧ _
    refine ⟨.inr rfl, ?_⟩
    show resP _ _ _ [.tmp 4] _
    simp only [resP, resV, V.trim, S0, reduceIte, Nat.reduceEqDiff]
    refine ⟨_, _, _, Nat.le_refl _, V.le_refl _ _, StLe.refl _, ?_⟩
    exact ⟨by subst hp; rfl, hst.trim⟩
  · skip
    skip
    have hp := hb6
    refine AW.skip ?_
    refine hK3 _ _ ?_
    clear hK3 K3
    refine AW.seqK fun K12 hK12 => ?_
    refine AW.region ?_
    refine awL_k rfl rfl fun K13 h13 => ?_
    simp (disch := omega) only [S0, step1, reduceIte, Nat.reduceEqDiff]
    refine h13 _ _ ?_
    clear h13 K13
    refine awL_k rfl rfl fun K14 h14 => ?_
    show ent _ _ = true ∧ _
    simp only [S0, reduceIte, Nat.reduceEqDiff, List.map, List.nil_append, List.append_nil]
    refine ⟨Tryd.ent69, Duo.Call.mono (decimal_spec _ (by omega) (by omega) _) ?_⟩
    rintro _ _ ⟨rfl, hcs⟩
    obtain rfl := hcs.symm
    refine h14 _ _ ?_
    clear h14 K14
    refine awL_k rfl rfl fun K15 h15 => ?_
    simp (disch := omega) only [S0, step1, Nat.reduceEqDiff, isNilC, Bool.false_eq_true, binP, strP, if_true, if_false]
    (((repeat' refine And.intro ?_ ?_); all_goals first | refine h15 _ _ ?_ | (simp only [List.length_cons, List.length_nil]; omega)))
    clear h15 K15
    refine awL_k rfl rfl fun K16 h16 => ?_
    simp (disch := omega) only [S0, step1, reduceIte, Nat.reduceEqDiff]
    refine h16 _ _ ?_
    clear h16 K16
    refine hK12 _ _ ?_
    clear hK12 K12
    refine AW.ret ?_
    show (_ ∨ _) ∧ _
    refine ⟨.inr rfl, ?_⟩
    show resP _ _ _ [.tmp 4] _
    simp only [resP, resV, V.trim, S0, reduceIte, Nat.reduceEqDiff]
    refine ⟨_, _, _, Nat.le_refl _, V.le_refl _ _, StLe.refl _, ?_⟩
    exact ⟨by subst hp; rfl, hst.trim⟩
set_option maxHeartbeats 8000000 in
theorem pname_spec (k : Int) (p : Bool) (h0 : -9223372036854775808 ≤ k) (h1 : k ≤ 9223372036854775807) (st : List O) : Duo.Call Tryd.prog Tryd.gl 72 [.int .i64 k, .bool p] st (fun v st' => v = .str (nameL k p) ∧ st' = st) := by
  refine Duo.Call.clo fun hst => ?_
  refine Duo.Call.real fun hr => ?_
  have hl := Lib.itoa_length_le k h0 h1
  refine Duo.Call.body 12 [(0, .int .i64 k), (1, .bool p)] Tryd.func72 rfl rfl ?_
  refine AW.seqK fun K1 hK1 => ?_
  refine AW.region ?_
  refine awL_k rfl rfl fun K2 h2 => ?_
  simp (disch := omega) only [S0, step1]
  refine h2 _ _ ?_
  clear h2 K2
  refine hK1 _ _ ?_
  clear hK1 K1
  refine AW.seqK fun K3 hK3 => ?_
  refine AW.seqK fun K4 hK4 => ?_
  refine AW.region ?_
  refine awL_k rfl rfl fun K5 h5 => ?_
  simp (disch := omega) only [S0, step1, reduceIte, Nat.reduceEqDiff]
  refine h5 _ _ ?_
  clear h5 K5
  refine hK4 _ _ ?_
  clear hK4 K4
  refine AW.condK _ rfl (fun hb6 => ?_) (fun hb6 => ?_)
  · skip
    skip
    have hp := hb6
    refine AW.seqK fun K7 hK7 => ?_
    refine AW.region ?_
    refine awL_k rfl rfl fun K8 h8 => ?_
    simp (disch := omega) only [S0, step1, reduceIte, Nat.reduceEqDiff]
    refine h8 _ _ ?_
    clear h8 K8
    refine awL_k rfl rfl fun K9 h9 => ?_
    show ent _ _ = true ∧ _
    simp only [S0, reduceIte, Nat.reduceEqDiff, List.map, List.nil_append, List.append_nil]
    refine ⟨Tryd.ent98, Duo.Call.mono (itoa_spec _ (by omega) (by omega) _) ?_⟩
    rintro _ _ ⟨rfl, hcs⟩
    obtain rfl := hcs.symm
    refine h9 _ _ ?_
    clear h9 K9
    refine awL_k rfl rfl fun K10 h10 => ?_
    simp (disch := omega) only [S0, step1, Nat.reduceEqDiff, isNilC, Bool.false_eq_true, binP, strP, if_true, if_false]
    (((repeat' refine And.intro ?_ ?_); all_goals first | refine h10 _ _ ?_ | (simp only [List.length_cons, List.length_nil]; omega)))
    clear h10 K10
    refine awL_k rfl rfl fun K11 h11 => ?_
    simp (disch := omega) only [S0, step1, reduceIte, Nat.reduceEqDiff]
    refine h11 _ _ ?_
    clear h11 K11
    refine hK7 _ _ ?_
    clear hK7 K7
    refine AW.ret ?_
    show (_ ∨ _) ∧ _
    refine ⟨.inr rfl, ?_⟩
    show resP _ _ _ [.tmp 4] _
    simp only [resP, resV, V.trim, S0, reduceIte, Nat.reduceEqDiff]
    refine ⟨_, _, _, Nat.le_refl _, V.le_refl _ _, StLe.refl _, ?_⟩
    exact ⟨by subst hp; rfl, hst.trim⟩
  · skip
    skip
    have hp := hb6
    refine AW.skip ?_
    refine hK3 _ _ ?_
    clear hK3 K3
    refine AW.seqK fun K12 hK12 => ?_
    refine AW.region ?_
    refine awL_k rfl rfl fun K13 h13 => ?_
    simp (disch := omega) only [S0, step1, reduceIte, Nat.reduceEqDiff]
    refine h13 _ _ ?_
    clear h13 K13
    refine awL_k rfl rfl fun K14 h14 => ?_
    show ent _ _ = true ∧ _
    simp only [S0, reduceIte, Nat.reduceEqDiff, List.map, List.nil_append, List.append_nil]
    refine ⟨Tryd.ent98, Duo.Call.mono (itoa_spec _ (by omega) (by omega) _) ?_⟩
    rintro _ _ ⟨rfl, hcs⟩
    obtain rfl := hcs.symm
    refine h14 _ _ ?_
    clear h14 K14
    refine awL_k rfl rfl fun K15 h15 => ?_
    simp (disch := omega) only [S0, step1, Nat.reduceEqDiff, isNilC, Bool.false_eq_true, binP, strP, if_true, if_false]
    (((repeat' refine And.intro ?_ ?_); all_goals first | refine h15 _ _ ?_ | (simp only [List.length_cons, List.length_nil]; omega)))
    clear h15 K15
    refine awL_k rfl rfl fun K16 h16 => ?_
    simp (disch := omega) only [S0, step1, reduceIte, Nat.reduceEqDiff]
    refine h16 _ _ ?_
    clear h16 K16
    refine hK12 _ _ ?_
    clear hK12 K12
    refine AW.ret ?_
    show (_ ∨ _) ∧ _
    refine ⟨.inr rfl, ?_⟩
    show resP _ _ _ [.tmp 4] _
    simp only [resP, resV, V.trim, S0, reduceIte, Nat.reduceEqDiff]
    refine ⟨_, _, _, Nat.le_refl _, V.le_refl _ _, StLe.refl _, ?_⟩
    exact ⟨by subst hp; rfl, hst.trim⟩
set_option maxHeartbeats 8000000 in
theorem index_spec (l : List Str) (c : Str) (st : List O) : Duo.Call Tryd.prog Tryd.gl 60 [.sl (l.map .str) none, .str c] st (fun v st' => v = .int .i64 (idxL l c) ∧ st' = st) := by
  refine Duo.Call.clo fun hst => ?_
  refine Duo.Call.real fun hr => ?_
  have hl : l.length ≤ 9223372036854775807 := by simpa [maxLen] using (hr (.sl (l.map .str) none) (by simp) (PureV.sl _ _)).sl.1
  refine Duo.Call.body 19 [(0, .sl (l.map .str) none), (1, .str c)] Tryd.func60 rfl rfl ?_
  refine AW.seqK fun K1 hK1 => ?_
  refine AW.region ?_
  refine awL_k rfl rfl fun K2 h2 => ?_
  simp (disch := omega) only [S0, step1]
  refine h2 _ _ ?_
  clear h2 K2
  refine hK1 _ _ ?_
  clear hK1 K1
  refine AW.seqK fun K3 hK3 => ?_
  refine AW.seqK fun K4 hK4 => ?_
  refine AW.region ?_
  refine awL_k rfl rfl fun K5 h5 => ?_
  simp (disch := omega) only [S0, step1, reduceIte, Nat.reduceEqDiff]
  refine h5 _ _ ?_
  clear h5 K5
  refine awL_k rfl rfl fun K6 h6 => ?_
  simp (disch := omega) only [S0, step1, reduceIte, Nat.reduceEqDiff, lenP, Tryd.elt22, Option.isSome, true_and, S1]
  refine h6 _ _ ?_
  clear h6 K6
  refine awL_k rfl rfl fun K7 h7 => ?_
  simp (disch := omega) only [S0, step1]
  refine h7 _ _ ?_
  clear h7 K7
  refine hK4 _ _ ?_
  clear hK4 K4
  refine AW.block ?_
  refine AW.loop (α := { i : Nat // i ≤ l.length ∧ c ∉ l.take i }) 19 (fun i => [(0, .sl (l.map .str) none), (1, .str c), (7, .int .i64 l.length), (8, .int .i64 (i.1 : Nat))]) (fun i => st) (fun i => l.length - i.1) ⟨0, Nat.zero_le _, by simp⟩ (by show _ ≤ _; exact Nat.le_of_ble_eq_true rfl) ⟨V.le_of_eq (by rfl), V.le_of_eq (by rfl), V.le_of_eq (by rfl), V.le_of_eq (by rfl), trivial⟩ (StLe.of_eq (by rfl)) ?_
  rintro ⟨i, hi, hpre⟩
  dsimp only
  refine AW.clo fun hlc => ?_
  refine AW.seqK fun K8 hK8 => ?_
  refine AW.region ?_
  refine awL_k rfl rfl fun K9 h9 => ?_
  simp (disch := omega) only [S0, step1, Nat.reduceEqDiff, isNilC, Bool.false_eq_true, binP, intP, true_and, if_true, if_false]
  refine h9 _ _ ?_
  clear h9 K9
  refine hK8 _ _ ?_
  clear hK8 K8
  refine AW.seqK fun K10 hK10 => ?_
  refine AW.condK _ rfl (fun hb11 => ?_) (fun hb11 => ?_)
  · skip
    simp only [decide_eq_true_eq, Int.ofNat_lt] at hb11
    have hlt : i < l.length := by omega
    refine AW.skip ?_
    refine hK10 _ _ ?_
    clear hK10 K10
    refine AW.seqK fun K12 hK12 => ?_
    refine AW.block ?_
    refine AW.seqK fun K13 hK13 => ?_
    refine AW.region ?_
    refine awL_k rfl rfl fun K14 h14 => ?_
    simp (disch := omega) only [S0, step1, reduceIte, Nat.reduceEqDiff]
    refine h14 _ _ ?_
    clear h14 K14
    refine awL_k rfl rfl fun K15 h15 => ?_
    simp (disch := omega) only [S0, step1, reduceIte, Nat.reduceEqDiff]
    refine h15 _ _ ?_
    clear h15 K15
    refine hK13 _ _ ?_
    clear hK13 K13
    refine AW.seqK fun K16 hK16 => ?_
    refine AW.region ?_
    refine awL_k rfl rfl fun K17 h17 => ?_
    simp (disch := omega) only [S0, step1, reduceIte, Nat.reduceEqDiff]
    refine h17 _ _ ?_
    clear h17 K17
    refine awL_k rfl rfl fun K18 h18 => ?_
    simp (disch := omega) only [S0, step1, reduceIte, Nat.reduceEqDiff]
    refine h18 _ _ ?_
    clear h18 K18
    refine awL_k rfl rfl fun K19 h19 => ?_
    simp (disch := omega) only [S0, step1, reduceIte, Nat.reduceEqDiff]
    refine h19 _ _ ?_
    clear h19 K19
    refine awL_k rfl rfl fun K20 h20 => ?_
    simp (disch := omega) only [S0, step1, reduceIte, Nat.reduceEqDiff, iaP, Tryd.elt22, S3, S1, KB]
    (((repeat' refine And.intro ?_ ?_); all_goals first | refine h20 _ _ ?_ | omega))
    clear h20 K20
    refine awL_k rfl rfl fun K21 h21 => ?_
    simp (disch := omega) only [S0, step1, reduceIte, Nat.reduceEqDiff, loadP, Tryd.lay9, pack, S1]
    refine h21 _ _ ?_
    clear h21 K21
    refine awL_k rfl rfl fun K22 h22 => ?_
    simp (disch := omega) only [S0, step1, Nat.reduceEqDiff, isNilC, Bool.false_eq_true, binP, strP, if_true, if_false]
    refine h22 _ _ ?_
    clear h22 K22
    refine hK16 _ _ ?_
    clear hK16 K16
    refine AW.condK _ rfl (fun hb23 => ?_) (fun hb23 => ?_)
    · skip
      simp only [decide_eq_true_eq] at hb23
      have hq : l[i] = c := hb23.symm
      refine AW.seqK fun K24 hK24 => ?_
      refine AW.region ?_
      refine awL_k rfl rfl fun K25 h25 => ?_
      simp (disch := omega) only [S0, step1, reduceIte, Nat.reduceEqDiff]
      refine h25 _ _ ?_
      clear h25 K25
      refine awL_k rfl rfl fun K26 h26 => ?_
      simp (disch := omega) only [S0, step1, reduceIte, Nat.reduceEqDiff]
      refine h26 _ _ ?_
      clear h26 K26
      refine hK24 _ _ ?_
      clear hK24 K24
      refine AW.ret ?_
      show (_ ∨ _) ∧ _
      refine ⟨.inr rfl, ?_⟩
      show resP _ _ _ [.tmp 4] _
      simp only [resP, resV, V.trim, S0, reduceIte, Nat.reduceEqDiff]
      refine ⟨_, _, _, Nat.le_refl _, V.le_refl _ _, StLe.refl _, ?_⟩
      exact ⟨by rw [idxL_at hpre hlt hq], hst.trim⟩
    · skip
      simp only [decide_eq_false_iff_not] at hb23
      have hq : ¬ l[i] = c := fun h => hb23 h.symm
      refine AW.skip ?_
      refine hK12 _ _ ?_
      clear hK12 K12
      refine AW.region ?_
      refine awL_k rfl rfl fun K27 h27 => ?_
      simp (disch := omega) only [S0, step1, Nat.reduceEqDiff, isNilC, Bool.false_eq_true, binP, intP, true_and, if_true, if_false, KB]
      refine h27 _ _ ?_
      clear h27 K27
      refine awL_k rfl rfl fun K28 h28 => ?_
      simp (disch := omega) only [S0, step1, reduceIte, Nat.reduceEqDiff]
      refine h28 _ _ ?_
      clear h28 K28
      refine ⟨⟨i + 1, by omega, notin_step hpre hlt hq⟩, by simp only []; omega, _, Nat.le_refl _, Nat.le_of_ble_eq_true rfl, ⟨V.le_of_eq (by rw [Env.trim_get]; simp only [S0, reduceIte, Nat.reduceEqDiff, V.trim] <;> first | rfl | (rw [if_pos (by simp)]; done) | (simp; done)), V.le_of_eq (by rw [Env.trim_get]; simp only [S0, reduceIte, Nat.reduceEqDiff, V.trim] <;> first | rfl | (rw [if_pos (by simp)]; done) | (simp; done)), V.le_of_eq (by rw [Env.trim_get]; simp only [S0, reduceIte, Nat.reduceEqDiff, V.trim] <;> first | rfl | (rw [if_pos (by simp)]; done) | (simp; done)), V.le_of_eq (by rw [Env.trim_get]; simp only [S0, reduceIte, Nat.reduceEqDiff, V.trim] <;> rfl), trivial⟩, StLe.of_eq (by exact hlc.trim)⟩
  · skip
    simp only [decide_eq_false_iff_not, Int.ofNat_lt] at hb11
    have hge : i = l.length := by omega
    refine AW.exit ?_
    refine hK3 _ _ ?_
    refine AW.seqK fun K29 hK29 => ?_
    refine AW.region ?_
    refine awL_k rfl rfl fun K30 h30 => ?_
    simp (disch := omega) only [S0, step1]
    refine h30 _ _ ?_
    clear h30 K30
    refine hK29 _ _ ?_
    clear hK29 K29
    refine AW.ret ?_
    show (_ ∨ _) ∧ _
    refine ⟨.inr rfl, ?_⟩
    show resP _ _ _ [.tmp 4] _
    simp only [resP, resV, V.trim, S0, reduceIte, Nat.reduceEqDiff]
    refine ⟨_, _, _, Nat.le_refl _, V.le_refl _ _, StLe.refl _, ?_⟩
    exact ⟨by rw [idxL_none (by subst hge; simpa using hpre)], hst.trim⟩
set_option maxHeartbeats 8000000 in
theorem contains_spec (l : List Str) (c : Str) (st : List O) : Duo.Call Tryd.prog Tryd.gl 39 [.sl (l.map .str) none, .str c] st (fun v st' => v = .bool (decide (c ∈ l)) ∧ st' = st) := by
  refine Duo.Call.clo fun hst => ?_
  refine Duo.Call.real fun hr => ?_
  refine Duo.Call.body 9 [(0, .sl (l.map .str) none), (1, .str c)] Tryd.func39 rfl rfl ?_
  refine AW.seqK fun K1 hK1 => ?_
  refine AW.region ?_
  refine awL_k rfl rfl fun K2 h2 => ?_
  simp (disch := omega) only [S0, step1]
  refine h2 _ _ ?_
  clear h2 K2
  refine hK1 _ _ ?_
  clear hK1 K1
  refine AW.seqK fun K3 hK3 => ?_
  refine AW.region ?_
  refine awL_k rfl rfl fun K4 h4 => ?_
  simp (disch := omega) only [S0, step1, reduceIte, Nat.reduceEqDiff]
  refine h4 _ _ ?_
  clear h4 K4
  refine awL_k rfl rfl fun K5 h5 => ?_
  simp (disch := omega) only [S0, step1, reduceIte, Nat.reduceEqDiff]
  refine h5 _ _ ?_
  clear h5 K5
  refine awL_k rfl rfl fun K6 h6 => ?_
  show ent _ _ = true ∧ _
  simp only [S0, reduceIte, Nat.reduceEqDiff, List.map, List.nil_append, List.append_nil]
  refine ⟨Tryd.ent60, Duo.Call.mono (index_spec _ _ _) ?_⟩
  rintro _ _ ⟨rfl, hcs⟩
  obtain rfl := hcs.symm
  refine h6 _ _ ?_
  clear h6 K6
  refine awL_k rfl rfl fun K7 h7 => ?_
  simp (disch := omega) only [S0, step1, Nat.reduceEqDiff, isNilC, Bool.false_eq_true, binP, intP, true_and, if_true, if_false]
  refine h7 _ _ ?_
  clear h7 K7
  refine awL_k rfl rfl fun K8 h8 => ?_
  simp (disch := omega) only [S0, step1, reduceIte, Nat.reduceEqDiff]
  refine h8 _ _ ?_
  clear h8 K8
  refine hK3 _ _ ?_
  clear hK3 K3
  refine AW.ret ?_
  show (_ ∨ _) ∧ _
  refine ⟨.inr rfl, ?_⟩
  show resP _ _ _ [.tmp 4] _
  simp only [resP, resV, V.trim, S0, reduceIte, Nat.reduceEqDiff]
  refine ⟨_, _, _, Nat.le_refl _, V.le_refl _ _, StLe.refl _, ?_⟩
  exact ⟨by rw [idxL_ge], hst.trim⟩
set_option maxHeartbeats 8000000 in
theorem in_spec (c : Str) (l : List Str) (st : List O) : Duo.Call Tryd.prog Tryd.gl 74 [.str c, .sl (l.map .str) none] st (fun v st' => v = .bool (decide (c ∈ l)) ∧ st' = st) := by
  refine Duo.Call.clo fun hst => ?_
  refine Duo.Call.real fun hr => ?_
  have hl : l.length ≤ 9223372036854775807 := by simpa [maxLen] using (hr (.sl (l.map .str) none) (by simp) (PureV.sl _ _)).sl.1
  refine Duo.Call.body 18 [(0, .str c), (1, .sl (l.map .str) none)] Tryd.func74 rfl rfl ?_
  refine AW.seqK fun K1 hK1 => ?_
  refine AW.region ?_
  refine awL_k rfl rfl fun K2 h2 => ?_
  simp (disch := omega) only [S0, step1]
  refine h2 _ _ ?_
  clear h2 K2
  refine hK1 _ _ ?_
  clear hK1 K1
  refine AW.seqK fun K3 hK3 => ?_
  refine AW.seqK fun K4 hK4 => ?_
  refine AW.region ?_
  refine awL_k rfl rfl fun K5 h5 => ?_
  simp (disch := omega) only [S0, step1]
  refine h5 _ _ ?_
  clear h5 K5
  refine hK4 _ _ ?_
  clear hK4 K4
  refine AW.block ?_
  refine AW.loop (α := { i : Nat // i ≤ l.length ∧ c ∉ l.take i }) 18 (fun i => [(0, .str c), (1, .sl (l.map .str) none), (5, .int .i64 (i.1 : Nat))]) (fun i => st) (fun i => l.length - i.1) ⟨0, Nat.zero_le _, by simp⟩ (by show _ ≤ _; exact Nat.le_of_ble_eq_true rfl) ⟨V.le_of_eq (by rfl), V.le_of_eq (by rfl), V.le_of_eq (by rfl), trivial⟩ (StLe.of_eq (by rfl)) ?_
  rintro ⟨i, hi, hpre⟩
  dsimp only
  refine AW.clo fun hlc => ?_
  refine AW.seqK fun K6 hK6 => ?_
  refine AW.seqK fun K7 hK7 => ?_
  refine AW.region ?_
  refine awL_k rfl rfl fun K8 h8 => ?_
  simp (disch := omega) only [S0, step1, reduceIte, Nat.reduceEqDiff]
  refine h8 _ _ ?_
  clear h8 K8
  refine awL_k rfl rfl fun K9 h9 => ?_
  simp (disch := omega) only [S0, step1, reduceIte, Nat.reduceEqDiff]
  refine h9 _ _ ?_
  clear h9 K9
  refine awL_k rfl rfl fun K10 h10 => ?_
  simp (disch := omega) only [S0, step1, reduceIte, Nat.reduceEqDiff, lenP, Tryd.elt22, Option.isSome, true_and, S1]
  refine h10 _ _ ?_
  clear h10 K10
  refine awL_k rfl rfl fun K11 h11 => ?_
  simp (disch := omega) only [S0, step1, Nat.reduceEqDiff, isNilC, Bool.false_eq_true, binP, intP, true_and, if_true, if_false]
  refine h11 _ _ ?_
  clear h11 K11
  refine hK7 _ _ ?_
  clear hK7 K7
  refine AW.condK _ rfl (fun hb12 => ?_) (fun hb12 => ?_)
  · skip
    simp only [decide_eq_true_eq, Int.ofNat_lt] at hb12
    have hlt : i < l.length := by omega
    refine AW.skip ?_
    refine hK6 _ _ ?_
    clear hK6 K6
    refine AW.seqK fun K13 hK13 => ?_
    refine AW.block ?_
    refine AW.seqK fun K14 hK14 => ?_
    refine AW.region ?_
    refine awL_k rfl rfl fun K15 h15 => ?_
    simp (disch := omega) only [S0, step1, reduceIte, Nat.reduceEqDiff]
    refine h15 _ _ ?_
    clear h15 K15
    refine awL_k rfl rfl fun K16 h16 => ?_
    simp (disch := omega) only [S0, step1, reduceIte, Nat.reduceEqDiff]
    refine h16 _ _ ?_
    clear h16 K16
    refine awL_k rfl rfl fun K17 h17 => ?_
    simp (disch := omega) only [S0, step1, reduceIte, Nat.reduceEqDiff, iaP, Tryd.elt22, S3, S1, KB]
    (((repeat' refine And.intro ?_ ?_); all_goals first | refine h17 _ _ ?_ | omega))
    clear h17 K17
    refine awL_k rfl rfl fun K18 h18 => ?_
    simp (disch := omega) only [S0, step1, reduceIte, Nat.reduceEqDiff, loadP, Tryd.lay9, pack, S1]
    refine h18 _ _ ?_
    clear h18 K18
    refine awL_k rfl rfl fun K19 h19 => ?_
    simp (disch := omega) only [S0, step1, reduceIte, Nat.reduceEqDiff]
    refine h19 _ _ ?_
    clear h19 K19
    refine awL_k rfl rfl fun K20 h20 => ?_
    simp (disch := omega) only [S0, step1, Nat.reduceEqDiff, isNilC, Bool.false_eq_true, binP, strP, if_true, if_false]
    refine h20 _ _ ?_
    clear h20 K20
    refine hK14 _ _ ?_
    clear hK14 K14
    refine AW.condK _ rfl (fun hb21 => ?_) (fun hb21 => ?_)
    · skip
      simp only [decide_eq_true_eq] at hb21
      have hq : l[i] = c := hb21
      refine AW.seqK fun K22 hK22 => ?_
      refine AW.region ?_
      refine awL_k rfl rfl fun K23 h23 => ?_
      simp (disch := omega) only [S0, step1]
      refine h23 _ _ ?_
      clear h23 K23
      refine hK22 _ _ ?_
      clear hK22 K22
      refine AW.ret ?_
      show (_ ∨ _) ∧ _
      refine ⟨.inr rfl, ?_⟩
      show resP _ _ _ [.tmp 4] _
      simp only [resP, resV, V.trim, S0, reduceIte, Nat.reduceEqDiff]
      refine ⟨_, _, _, Nat.le_refl _, V.le_refl _ _, StLe.refl _, ?_⟩
      exact ⟨by rw [decide_eq_true (hq ▸ List.getElem_mem hlt)], hst.trim⟩
    · skip
      simp only [decide_eq_false_iff_not] at hb21
      have hq : ¬ l[i] = c := hb21
      refine AW.skip ?_
      refine hK13 _ _ ?_
      clear hK13 K13
      refine AW.region ?_
      refine awL_k rfl rfl fun K24 h24 => ?_
      simp (disch := omega) only [S0, step1, reduceIte, Nat.reduceEqDiff]
      refine h24 _ _ ?_
      clear h24 K24
      refine awL_k rfl rfl fun K25 h25 => ?_
      simp (disch := omega) only [S0, step1, Nat.reduceEqDiff, isNilC, Bool.false_eq_true, binP, intP, true_and, if_true, if_false, KB]
      refine h25 _ _ ?_
      clear h25 K25
      refine awL_k rfl rfl fun K26 h26 => ?_
      simp (disch := omega) only [S0, step1, reduceIte, Nat.reduceEqDiff]
      refine h26 _ _ ?_
      clear h26 K26
      refine ⟨⟨i + 1, by omega, notin_step hpre hlt hq⟩, by simp only []; omega, _, Nat.le_refl _, Nat.le_of_ble_eq_true rfl, ⟨V.le_of_eq (by rw [Env.trim_get]; simp only [S0, reduceIte, Nat.reduceEqDiff, V.trim] <;> first | rfl | (rw [if_pos (by simp)]; done) | (simp; done)), V.le_of_eq (by rw [Env.trim_get]; simp only [S0, reduceIte, Nat.reduceEqDiff, V.trim] <;> first | rfl | (rw [if_pos (by simp)]; done) | (simp; done)), V.le_of_eq (by rw [Env.trim_get]; simp only [S0, reduceIte, Nat.reduceEqDiff, V.trim] <;> rfl), trivial⟩, StLe.of_eq (by exact hlc.trim)⟩
  · skip
    simp only [decide_eq_false_iff_not, Int.ofNat_lt] at hb12
    have hge : i = l.length := by omega
    refine AW.exit ?_
    refine hK3 _ _ ?_
    refine AW.seqK fun K27 hK27 => ?_
    refine AW.region ?_
    refine awL_k rfl rfl fun K28 h28 => ?_
    simp (disch := omega) only [S0, step1]
    refine h28 _ _ ?_
    clear h28 K28
    refine hK27 _ _ ?_
    clear hK27 K27
    refine AW.ret ?_
    show (_ ∨ _) ∧ _
    refine ⟨.inr rfl, ?_⟩
    show resP _ _ _ [.tmp 4] _
    simp only [resP, resV, V.trim, S0, reduceIte, Nat.reduceEqDiff]
    refine ⟨_, _, _, Nat.le_refl _, V.le_refl _ _, StLe.refl _, ?_⟩
    exact ⟨by rw [decide_eq_false (by subst hge; simpa using hpre)], hst.trim⟩
set_option maxHeartbeats 8000000 in
theorem rendpoint_spec (s : Str) (st : List O) : Duo.Call Tryd.prog Tryd.gl 48 [.str s] st (fun v st' => v = epV s ∧ st' = st) := by
  refine Duo.Call.clo fun hst => ?_
  refine Duo.Call.real fun hr => ?_
  refine Duo.Call.body 61 [(0, .str s)] Tryd.func48 rfl rfl ?_
  refine AW.seqK fun K1 hK1 => ?_
  refine AW.region ?_
  refine awL_k rfl rfl fun K2 h2 => ?_
  simp (disch := omega) only [S0, step1]
  refine h2 _ _ ?_
  clear h2 K2
  refine awL_k rfl rfl fun K3 h3 => ?_
  simp (disch := omega) only [S0, step1]
  refine h3 _ _ ?_
  clear h3 K3
  refine awL_k rfl rfl fun K4 h4 => ?_
  simp (disch := omega) only [S0, step1]
  refine h4 _ _ ?_
  clear h4 K4
  refine hK1 _ _ ?_
  clear hK1 K1
  refine AW.seqK fun K5 hK5 => ?_
  refine AW.seqK fun K6 hK6 => ?_
  refine AW.region ?_
  refine awL_k rfl rfl fun K7 h7 => ?_
  simp (disch := omega) only [S0, step1, reduceIte, Nat.reduceEqDiff]
  refine h7 _ _ ?_
  clear h7 K7
  refine awL_k rfl rfl fun K8 h8 => ?_
  simp (disch := omega) only [S0, step1, reduceIte, Nat.reduceEqDiff, lenP, Tryd.u9, true_and]
  refine h8 _ _ ?_
  clear h8 K8
  refine awL_k rfl rfl fun K9 h9 => ?_
  simp (disch := omega) only [S0, step1, Nat.reduceEqDiff, isNilC, Bool.false_eq_true, binP, intP, true_and, if_true, if_false]
  refine h9 _ _ ?_
  clear h9 K9
  refine awL_k rfl rfl fun K10 h10 => ?_
  simp (disch := omega) only [S0, step1, reduceIte, Nat.reduceEqDiff]
  refine h10 _ _ ?_
  clear h10 K10
  refine awL_case 10 rfl (fun hg11 => ?_) (fun hg11 => ?_)
  · rw [hg11]
    simp only [decide_eq_true_eq] at hg11
    refine awL_no rfl rfl rfl rfl ?_
    refine awL_no rfl rfl rfl rfl ?_
    refine awL_no rfl rfl rfl rfl ?_
    refine awL_k rfl rfl fun K12 h12 => ?_
    simp (disch := omega) only [S0, step1, reduceIte, Nat.reduceEqDiff]
    refine h12 _ _ ?_
    clear h12 K12
    refine hK6 _ _ ?_
    clear hK6 K6
    refine AW.condK _ rfl (fun hb13 => ?_) (fun hb13 => ?_)
    · skip
      refine AW.seqK fun K14 hK14 => ?_
      refine AW.region ?_
      refine awL_k rfl rfl fun K15 h15 => ?_
      simp (disch := omega) only [S0, step1]
      refine h15 _ _ ?_
      clear h15 K15
      refine awL_k rfl rfl fun K16 h16 => ?_
      simp (disch := omega) only [S0, step1]
      refine h16 _ _ ?_
      clear h16 K16
      refine awL_k rfl rfl fun K17 h17 => ?_
      simp (disch := omega) only [S0, step1]
      refine h17 _ _ ?_
      clear h17 K17
      refine hK14 _ _ ?_
      clear hK14 K14
      refine AW.ret ?_
      show (_ ∨ _) ∧ _
      refine ⟨.inr rfl, ?_⟩
      show resP _ _ _ [.tmp 2, .tmp 3, .tmp 4] _
      simp only [resP, resV, V.trim, V.trim.trimL, S0, reduceIte, Nat.reduceEqDiff]
      refine ⟨_, _, _, Nat.le_refl _, V.le_refl _ _, StLe.refl _, ?_⟩
      exact ⟨by rw [ref_short (by omega)], hst.trim⟩
    · skip
      cases hb13
  · rw [hg11]
    simp only [decide_eq_false_iff_not, Int.not_lt] at hg11
    refine awL_kyes rfl rfl rfl rfl fun K18 h18 => ?_
    simp (disch := omega) only [S0, step1, reduceIte, Nat.reduceEqDiff]
    refine h18 _ _ ?_
    clear h18 K18
    refine awL_kyes rfl rfl rfl rfl fun K19 h19 => ?_
    simp (disch := omega) only [S0, step1, reduceIte, Nat.reduceEqDiff, lenP, Tryd.u9, true_and]
    refine h19 _ _ ?_
    clear h19 K19
    refine awL_kyes rfl rfl rfl rfl fun K20 h20 => ?_
    simp (disch := omega) only [S0, step1, Nat.reduceEqDiff, isNilC, Bool.false_eq_true, binP, intP, true_and, if_true, if_false]
    refine h20 _ _ ?_
    clear h20 K20
    refine awL_k rfl rfl fun K21 h21 => ?_
    simp (disch := omega) only [S0, step1, reduceIte, Nat.reduceEqDiff]
    refine h21 _ _ ?_
    clear h21 K21
    refine hK6 _ _ ?_
    clear hK6 K6
    refine AW.condK _ rfl (fun hb22 => ?_) (fun hb22 => ?_)
    · skip
      simp only [decide_eq_true_eq] at hb22
      refine AW.seqK fun K23 hK23 => ?_
      refine AW.region ?_
      refine awL_k rfl rfl fun K24 h24 => ?_
      simp (disch := omega) only [S0, step1]
      refine h24 _ _ ?_
      clear h24 K24
      refine awL_k rfl rfl fun K25 h25 => ?_
      simp (disch := omega) only [S0, step1]
      refine h25 _ _ ?_
      clear h25 K25
      refine awL_k rfl rfl fun K26 h26 => ?_
      simp (disch := omega) only [S0, step1]
      refine h26 _ _ ?_
      clear h26 K26
      refine hK23 _ _ ?_
      clear hK23 K23
      refine AW.ret ?_
      show (_ ∨ _) ∧ _
      refine ⟨.inr rfl, ?_⟩
      show resP _ _ _ [.tmp 2, .tmp 3, .tmp 4] _
      simp only [resP, resV, V.trim, V.trim.trimL, S0, reduceIte, Nat.reduceEqDiff]
      refine ⟨_, _, _, Nat.le_refl _, V.le_refl _ _, StLe.refl _, ?_⟩
      exact ⟨by rw [ref_short (by omega)], hst.trim⟩
    · skip
      simp only [decide_eq_false_iff_not, Int.not_lt] at hb22
      refine AW.skip ?_
      refine hK5 _ _ ?_
      clear hK5 K5
      refine AW.seqK fun K27 hK27 => ?_
      refine AW.region ?_
      refine awL_k rfl rfl fun K28 h28 => ?_
      simp (disch := omega) only [S0, step1]
      refine h28 _ _ ?_
      clear h28 K28
      refine hK27 _ _ ?_
      clear hK27 K27
      refine AW.seqK fun K29 hK29 => ?_
      refine AW.seqK fun K30 hK30 => ?_
      refine AW.region ?_
      refine awL_k rfl rfl fun K31 h31 => ?_
      simp (disch := omega) only [S0, step1]
      refine h31 _ _ ?_
      clear h31 K31
      refine hK30 _ _ ?_
      clear hK30 K30
      refine AW.block ?_
      refine AW.loop (α := { i : Nat // i ≤ s.length - 1 ∧ ∀ c ∈ s.take i, dig c = true }) 61 (fun i => [(0, .str s), (5, .int .i64 (foldD 0 (s.take i.1) : Nat)), (6, .int .i64 (i.1 : Nat))]) (fun i => st) (fun i => s.length - i.1) ⟨0, Nat.zero_le _, by simp⟩ (by show _ ≤ _; exact Nat.le_of_ble_eq_true rfl) ⟨V.le_of_eq (by rfl), V.le_of_eq (by rfl), V.le_of_eq (by rfl), trivial⟩ (StLe.of_eq (by rfl)) ?_
      rintro ⟨i, hi, hpre⟩
      dsimp only
      refine AW.clo fun hlc => ?_
      refine AW.seqK fun K32 hK32 => ?_
      refine AW.seqK fun K33 hK33 => ?_
      refine AW.region ?_
      refine awL_k rfl rfl fun K34 h34 => ?_
      simp (disch := omega) only [S0, step1, reduceIte, Nat.reduceEqDiff]
      refine h34 _ _ ?_
      clear h34 K34
      refine awL_k rfl rfl fun K35 h35 => ?_
      simp (disch := omega) only [S0, step1, reduceIte, Nat.reduceEqDiff]
      refine h35 _ _ ?_
      clear h35 K35
      refine awL_k rfl rfl fun K36 h36 => ?_
      simp (disch := omega) only [S0, step1, reduceIte, Nat.reduceEqDiff, lenP, Tryd.u9, true_and]
      refine h36 _ _ ?_
      clear h36 K36
      refine awL_k rfl rfl fun K37 h37 => ?_
      simp (disch := omega) only [S0, step1, Nat.reduceEqDiff, isNilC, Bool.false_eq_true, binP, intP, true_and, if_true, if_false, KB]
      refine h37 _ _ ?_
      clear h37 K37
      refine awL_k rfl rfl fun K38 h38 => ?_
      simp (disch := omega) only [S0, step1, Nat.reduceEqDiff, isNilC, Bool.false_eq_true, binP, intP, true_and, if_true, if_false]
      refine h38 _ _ ?_
      clear h38 K38
      refine hK33 _ _ ?_
      clear hK33 K33
      refine AW.condK _ rfl (fun hb39 => ?_) (fun hb39 => ?_)
      · skip
        simp only [decide_eq_true_eq] at hb39
        have hlt : i < s.length := by omega
        have hb := foldD_bound hpre (by rw [List.length_take]; omega)
        have hn := foldD_take hlt
        refine AW.skip ?_
        refine hK32 _ _ ?_
        clear hK32 K32
        refine AW.seqK fun K40 hK40 => ?_
        refine AW.block ?_
        refine AW.seqK fun K41 hK41 => ?_
        refine AW.seqK fun K42 hK42 => ?_
        refine AW.region ?_
        refine awL_k rfl rfl fun K43 h43 => ?_
        simp (disch := omega) only [S0, step1, reduceIte, Nat.reduceEqDiff]
        refine h43 _ _ ?_
        clear h43 K43
        refine awL_k rfl rfl fun K44 h44 => ?_
        simp (disch := omega) only [S0, step1, reduceIte, Nat.reduceEqDiff]
        refine h44 _ _ ?_
        clear h44 K44
        refine awL_k rfl rfl fun K45 h45 => ?_
        simp (disch := omega) only [S0, step1, reduceIte, Nat.reduceEqDiff, ixP, Tryd.u9, S1, KB]
        (((repeat' refine And.intro ?_ ?_); all_goals first | refine h45 _ _ ?_ | omega))
        clear h45 K45
        refine awL_k rfl rfl fun K46 h46 => ?_
        simp (disch := omega) only [S0, step1, Nat.reduceEqDiff, isNilC, Bool.false_eq_true, binP, intP, true_and, if_true, if_false]
        refine h46 _ _ ?_
        clear h46 K46
        refine awL_k rfl rfl fun K47 h47 => ?_
        simp (disch := omega) only [S0, step1, reduceIte, Nat.reduceEqDiff]
        refine h47 _ _ ?_
        clear h47 K47
        refine awL_case 26 rfl (fun hg48 => ?_) (fun hg48 => ?_)
        · rw [hg48]
          simp only [decide_eq_true_eq] at hg48
          refine awL_no rfl rfl rfl rfl ?_
          refine awL_no rfl rfl rfl rfl ?_
          refine awL_no rfl rfl rfl rfl ?_
          refine awL_no rfl rfl rfl rfl ?_
          refine awL_k rfl rfl fun K49 h49 => ?_
          simp (disch := omega) only [S0, step1, reduceIte, Nat.reduceEqDiff]
          refine h49 _ _ ?_
          clear h49 K49
          refine hK42 _ _ ?_
          clear hK42 K42
          refine AW.condK _ rfl (fun hb50 => ?_) (fun hb50 => ?_)
          · skip
            refine AW.seqK fun K51 hK51 => ?_
            refine AW.region ?_
            refine awL_k rfl rfl fun K52 h52 => ?_
            simp (disch := omega) only [S0, step1]
            refine h52 _ _ ?_
            clear h52 K52
            refine awL_k rfl rfl fun K53 h53 => ?_
            simp (disch := omega) only [S0, step1]
            refine h53 _ _ ?_
            clear h53 K53
            refine awL_k rfl rfl fun K54 h54 => ?_
            simp (disch := omega) only [S0, step1]
            refine h54 _ _ ?_
            clear h54 K54
            refine hK51 _ _ ?_
            clear hK51 K51
            refine AW.ret ?_
            show (_ ∨ _) ∧ _
            refine ⟨.inr rfl, ?_⟩
            show resP _ _ _ [.tmp 2, .tmp 3, .tmp 4] _
            simp only [resP, resV, V.trim, V.trim.trimL, S0, reduceIte, Nat.reduceEqDiff]
            refine ⟨_, _, _, Nat.le_refl _, V.le_refl _ _, StLe.refl _, ?_⟩
            exact ⟨by rw [ref_nodig hlt (by omega) (by omega)], hst.trim⟩
          · skip
            cases hb50
        · rw [hg48]
          simp only [decide_eq_false_iff_not, Int.not_lt] at hg48
          refine awL_kyes rfl rfl rfl rfl fun K55 h55 => ?_
          simp (disch := omega) only [S0, step1, reduceIte, Nat.reduceEqDiff]
          refine h55 _ _ ?_
          clear h55 K55
          refine awL_kyes rfl rfl rfl rfl fun K56 h56 => ?_
          simp (disch := omega) only [S0, step1, reduceIte, Nat.reduceEqDiff]
          refine h56 _ _ ?_
          clear h56 K56
          refine awL_kyes rfl rfl rfl rfl fun K57 h57 => ?_
          simp (disch := omega) only [S0, step1, reduceIte, Nat.reduceEqDiff, ixP, Tryd.u9, S1, KB]
          (((repeat' refine And.intro ?_ ?_); all_goals first | refine h57 _ _ ?_ | omega))
          clear h57 K57
          refine awL_kyes rfl rfl rfl rfl fun K58 h58 => ?_
          simp (disch := omega) only [S0, step1, Nat.reduceEqDiff, isNilC, Bool.false_eq_true, binP, intP, true_and, if_true, if_false]
          refine h58 _ _ ?_
          clear h58 K58
          refine awL_k rfl rfl fun K59 h59 => ?_
          simp (disch := omega) only [S0, step1, reduceIte, Nat.reduceEqDiff]
          refine h59 _ _ ?_
          clear h59 K59
          refine hK42 _ _ ?_
          clear hK42 K42
          refine AW.condK _ rfl (fun hb60 => ?_) (fun hb60 => ?_)
          · skip
            simp only [decide_eq_true_eq] at hb60
            refine AW.seqK fun K61 hK61 => ?_
            refine AW.region ?_
            refine awL_k rfl rfl fun K62 h62 => ?_
            simp (disch := omega) only [S0, step1]
            refine h62 _ _ ?_
            clear h62 K62
            refine awL_k rfl rfl fun K63 h63 => ?_
            simp (disch := omega) only [S0, step1]
            refine h63 _ _ ?_
            clear h63 K63
            refine awL_k rfl rfl fun K64 h64 => ?_
            simp (disch := omega) only [S0, step1]
            refine h64 _ _ ?_
            clear h64 K64
            refine hK61 _ _ ?_
            clear hK61 K61
            refine AW.ret ?_
            show (_ ∨ _) ∧ _
            refine ⟨.inr rfl, ?_⟩
            show resP _ _ _ [.tmp 2, .tmp 3, .tmp 4] _
            simp only [resP, resV, V.trim, V.trim.trimL, S0, reduceIte, Nat.reduceEqDiff]
            refine ⟨_, _, _, Nat.le_refl _, V.le_refl _ _, StLe.refl _, ?_⟩
            exact ⟨by rw [ref_nodig hlt (by omega) (by omega)], hst.trim⟩
          · skip
            simp only [decide_eq_false_iff_not, Int.not_lt] at hb60
            refine AW.skip ?_
            refine hK41 _ _ ?_
            clear hK41 K41
            refine AW.region ?_
            refine awL_k rfl rfl fun K65 h65 => ?_
            simp (disch := omega) only [S0, step1, reduceIte, Nat.reduceEqDiff]
            refine h65 _ _ ?_
            clear h65 K65
            refine awL_k rfl rfl fun K66 h66 => ?_
            simp (disch := omega) only [S0, step1, Nat.reduceEqDiff, isNilC, Bool.false_eq_true, binP, intP, true_and, if_true, if_false, KB]
            refine h66 _ _ ?_
            clear h66 K66
            refine awL_k rfl rfl fun K67 h67 => ?_
            simp (disch := omega) only [S0, step1, reduceIte, Nat.reduceEqDiff]
            refine h67 _ _ ?_
            clear h67 K67
            refine awL_k rfl rfl fun K68 h68 => ?_
            simp (disch := omega) only [S0, step1, reduceIte, Nat.reduceEqDiff]
            refine h68 _ _ ?_
            clear h68 K68
            refine awL_k rfl rfl fun K69 h69 => ?_
            simp (disch := omega) only [S0, step1, reduceIte, Nat.reduceEqDiff, ixP, Tryd.u9, S1, KB]
            (((repeat' refine And.intro ?_ ?_); all_goals first | refine h69 _ _ ?_ | omega))
            clear h69 K69
            refine awL_k rfl rfl fun K70 h70 => ?_
            simp (disch := omega) only [S0, step1, reduceIte, Nat.reduceEqDiff, Tryd.u5, Tryd.u3, KB]
            refine h70 _ _ ?_
            clear h70 K70
            refine awL_k rfl rfl fun K71 h71 => ?_
            simp (disch := omega) only [S0, step1, Nat.reduceEqDiff, isNilC, Bool.false_eq_true, binP, intP, true_and, if_true, if_false, KB]
            refine h71 _ _ ?_
            clear h71 K71
            refine awL_k rfl rfl fun K72 h72 => ?_
            simp (disch := omega) only [S0, step1, Nat.reduceEqDiff, isNilC, Bool.false_eq_true, binP, intP, true_and, if_true, if_false, KB]
            refine h72 _ _ ?_
            clear h72 K72
            refine awL_k rfl rfl fun K73 h73 => ?_
            simp (disch := omega) only [S0, step1, reduceIte, Nat.reduceEqDiff]
            refine h73 _ _ ?_
            clear h73 K73
            refine hK40 _ _ ?_
            clear hK40 K40
            refine AW.region ?_
            refine awL_k rfl rfl fun K74 h74 => ?_
            simp (disch := omega) only [S0, step1, reduceIte, Nat.reduceEqDiff]
            refine h74 _ _ ?_
            clear h74 K74
            refine awL_k rfl rfl fun K75 h75 => ?_
            simp (disch := omega) only [S0, step1, Nat.reduceEqDiff, isNilC, Bool.false_eq_true, binP, intP, true_and, if_true, if_false, KB]
            refine h75 _ _ ?_
            clear h75 K75
            refine awL_k rfl rfl fun K76 h76 => ?_
            simp (disch := omega) only [S0, step1, reduceIte, Nat.reduceEqDiff]
            refine h76 _ _ ?_
            clear h76 K76
            refine ⟨⟨i + 1, by omega, dig_take hlt hpre (by omega) (by omega)⟩, by simp only []; omega, _, Nat.le_refl _, Nat.le_of_ble_eq_true rfl, ⟨V.le_of_eq (by rw [Env.trim_get]; simp only [S0, reduceIte, Nat.reduceEqDiff, V.trim] <;> first | rfl | (rw [if_pos (by simp)]; done) | (simp; done)), V.le_of_eq (by rw [Env.trim_get]; simp only [S0, reduceIte, Nat.reduceEqDiff, V.trim]; congr 1; omega), V.le_of_eq (by rw [Env.trim_get]; simp only [S0, reduceIte, Nat.reduceEqDiff, V.trim] <;> rfl), trivial⟩, StLe.of_eq (by exact hlc.trim)⟩
      · skip
        simp only [decide_eq_false_iff_not, Int.not_lt] at hb39
        have hge : i = s.length - 1 := by omega
        have hb := foldD_bound hpre (by rw [List.length_take]; omega)
        refine AW.exit ?_
        refine hK29 _ _ ?_
        refine AW.seqK fun K77 hK77 => ?_
        refine AW.seqK fun K78 hK78 => ?_
        refine AW.region ?_
        refine awL_k rfl rfl fun K79 h79 => ?_
        simp (disch := omega) only [S0, step1, reduceIte, Nat.reduceEqDiff]
        refine h79 _ _ ?_
        clear h79 K79
        refine awL_k rfl rfl fun K80 h80 => ?_
        simp (disch := omega) only [S0, step1, Nat.reduceEqDiff, isNilC, Bool.false_eq_true, binP, intP, true_and, if_true, if_false]
        refine h80 _ _ ?_
        clear h80 K80
        refine awL_k rfl rfl fun K81 h81 => ?_
        simp (disch := omega) only [S0, step1, reduceIte, Nat.reduceEqDiff]
        refine h81 _ _ ?_
        clear h81 K81
        refine awL_case 42 rfl (fun hg82 => ?_) (fun hg82 => ?_)
        · rw [hg82]
          simp only [decide_eq_true_eq] at hg82
          refine awL_no rfl rfl rfl rfl ?_
          refine awL_no rfl rfl rfl rfl ?_
          refine awL_no rfl rfl rfl rfl ?_
          refine awL_no rfl rfl rfl rfl ?_
          refine awL_no rfl rfl rfl rfl ?_
          refine awL_hole rfl rfl rfl rfl ?_
          refine awL_hole rfl rfl rfl rfl ?_
          refine awL_hole rfl rfl rfl rfl ?_
          refine awL_hole rfl rfl rfl rfl ?_
          refine awL_no rfl rfl rfl rfl ?_
          refine awL_k rfl rfl fun K83 h83 => ?_
          simp (disch := omega) only [S0, step1, reduceIte, Nat.reduceEqDiff]
          refine h83 _ _ ?_
          clear h83 K83
          refine hK78 _ _ ?_
          clear hK78 K78
          refine AW.condK _ rfl (fun hb84 => ?_) (fun hb84 => ?_)
          · skip
            refine AW.seqK fun K85 hK85 => ?_
            refine AW.region ?_
            refine awL_k rfl rfl fun K86 h86 => ?_
            simp (disch := omega) only [S0, step1]
            refine h86 _ _ ?_
            clear h86 K86
            refine awL_k rfl rfl fun K87 h87 => ?_
            simp (disch := omega) only [S0, step1]
            refine h87 _ _ ?_
            clear h87 K87
            refine awL_k rfl rfl fun K88 h88 => ?_
            simp (disch := omega) only [S0, step1]
            refine h88 _ _ ?_
            clear h88 K88
            refine hK85 _ _ ?_
            clear hK85 K85
            refine AW.ret ?_
            show (_ ∨ _) ∧ _
            refine ⟨.inr rfl, ?_⟩
            show resP _ _ _ [.tmp 2, .tmp 3, .tmp 4] _
            simp only [resP, resV, V.trim, V.trim.trimL, S0, reduceIte, Nat.reduceEqDiff]
            refine ⟨_, _, _, Nat.le_refl _, V.le_refl _ _, StLe.refl _, ?_⟩
            exact ⟨by subst hge; rw [ref_noname (.inl (by omega))], hst.trim⟩
          · skip
            cases hb84
        · rw [hg82]
          simp only [decide_eq_false_iff_not, Int.not_lt] at hg82
          refine awL_kyes rfl rfl rfl rfl fun K89 h89 => ?_
          simp (disch := omega) only [S0, step1, reduceIte, Nat.reduceEqDiff]
          refine h89 _ _ ?_
          clear h89 K89
          refine awL_kyes rfl rfl rfl rfl fun K90 h90 => ?_
          simp (disch := omega) only [S0, step1, reduceIte, Nat.reduceEqDiff]
          refine h90 _ _ ?_
          clear h90 K90
          refine awL_kyes rfl rfl rfl rfl fun K91 h91 => ?_
          show ent _ _ = true ∧ _
          simp only [S0, reduceIte, Nat.reduceEqDiff, List.map, List.nil_append, List.append_nil]
          refine ⟨Tryd.ent43, Duo.Call.mono (rname_spec _ _ (by omega) (by omega) _) ?_⟩
          rintro _ _ ⟨rfl, hcs⟩
          obtain rfl := hcs.symm
          refine h91 _ _ ?_
          clear h91 K91
          refine awL_kyes rfl rfl rfl rfl fun K92 h92 => ?_
          simp (disch := omega) only [S0, step1, Nat.reduceEqDiff, isNilC, Bool.false_eq_true, binP, strP, if_true, if_false]
          refine h92 _ _ ?_
          clear h92 K92
          refine awL_kyes rfl rfl rfl rfl fun K93 h93 => ?_
          simp (disch := omega) only [S0, step1, reduceIte, Nat.reduceEqDiff]
          refine h93 _ _ ?_
          clear h93 K93
          refine awL_case 47 rfl (fun hg94 => ?_) (fun hg94 => ?_)
          · rw [hg94]
            simp only [decide_eq_true_eq, ne_eq] at hg94
            refine awL_kyes rfl rfl rfl rfl fun K95 h95 => ?_
            simp (disch := omega) only [S0, step1, reduceIte, Nat.reduceEqDiff]
            refine h95 _ _ ?_
            clear h95 K95
            refine awL_kyes rfl rfl rfl rfl fun K96 h96 => ?_
            simp (disch := omega) only [S0, step1, reduceIte, Nat.reduceEqDiff]
            refine h96 _ _ ?_
            clear h96 K96
            refine awL_kyes rfl rfl rfl rfl fun K97 h97 => ?_
            show ent _ _ = true ∧ _
            simp only [S0, reduceIte, Nat.reduceEqDiff, List.map, List.nil_append, List.append_nil]
            refine ⟨Tryd.ent43, Duo.Call.mono (rname_spec _ _ (by omega) (by omega) _) ?_⟩
            rintro _ _ ⟨rfl, hcs⟩
            obtain rfl := hcs.symm
            refine h97 _ _ ?_
            clear h97 K97
            refine awL_kyes rfl rfl rfl rfl fun K98 h98 => ?_
            simp (disch := omega) only [S0, step1, Nat.reduceEqDiff, isNilC, Bool.false_eq_true, binP, strP, if_true, if_false]
            refine h98 _ _ ?_
            clear h98 K98
            refine awL_kyes rfl rfl rfl rfl fun K99 h99 => ?_
            simp (disch := omega) only [S0, step1, reduceIte, Nat.reduceEqDiff]
            refine h99 _ _ ?_
            clear h99 K99
            refine awL_k rfl rfl fun K100 h100 => ?_
            simp (disch := omega) only [S0, step1, reduceIte, Nat.reduceEqDiff]
            refine h100 _ _ ?_
            clear h100 K100
            refine hK78 _ _ ?_
            clear hK78 K78
            refine AW.condK _ rfl (fun hb101 => ?_) (fun hb101 => ?_)
            · skip
              simp only [decide_eq_true_eq, ne_eq] at hb101
              refine AW.seqK fun K102 hK102 => ?_
              refine AW.region ?_
              refine awL_k rfl rfl fun K103 h103 => ?_
              simp (disch := omega) only [S0, step1]
              refine h103 _ _ ?_
              clear h103 K103
              refine awL_k rfl rfl fun K104 h104 => ?_
              simp (disch := omega) only [S0, step1]
              refine h104 _ _ ?_
              clear h104 K104
              refine awL_k rfl rfl fun K105 h105 => ?_
              simp (disch := omega) only [S0, step1]
              refine h105 _ _ ?_
              clear h105 K105
              refine hK102 _ _ ?_
              clear hK102 K102
              refine AW.ret ?_
              show (_ ∨ _) ∧ _
              refine ⟨.inr rfl, ?_⟩
              show resP _ _ _ [.tmp 2, .tmp 3, .tmp 4] _
              simp only [resP, resV, V.trim, V.trim.trimL, S0, reduceIte, Nat.reduceEqDiff]
              refine ⟨_, _, _, Nat.le_refl _, V.le_refl _ _, StLe.refl _, ?_⟩
              exact ⟨by subst hge; rw [ref_noname (.inr ⟨by assumption, by assumption⟩)], hst.trim⟩
            · skip
              simp only [decide_eq_false_iff_not, ne_eq, Decidable.not_not] at hb101
              refine AW.skip ?_
              refine hK77 _ _ ?_
              clear hK77 K77
              refine AW.seqK fun K106 hK106 => ?_
              refine AW.any Tryd.mix 8 rfl ?_
              refine awA_c rfl rfl rfl fun K107 h107 => ?_
              simp (disch := omega) only [S0, step1, reduceIte, Nat.reduceEqDiff]
              refine h107 _ _ rfl ?_
              clear h107 K107
              refine awA_c rfl rfl rfl fun K108 h108 => ?_
              simp (disch := omega) only [S0, step1, reduceIte, Nat.reduceEqDiff]
              refine h108 _ _ rfl ?_
              clear h108 K108
              refine awA_c rfl rfl rfl fun K109 h109 => ?_
              simp (disch := omega) only [S0, step1, reduceIte, Nat.reduceEqDiff]
              refine h109 _ _ rfl ?_
              clear h109 K109
              refine awA_c rfl rfl rfl fun K110 h110 => ?_
              simp (disch := omega) only [S0, step1, reduceIte, Nat.reduceEqDiff, lenP, Tryd.u9, true_and, S1]
              refine h110 _ _ rfl ?_
              clear h110 K110
              refine awA_c rfl rfl rfl fun K111 h111 => ?_
              simp (disch := omega) only [S0, step1, Nat.reduceEqDiff, isNilC, Bool.false_eq_true, binP, intP, true_and, if_true, if_false, KB]
              refine h111 _ _ rfl ?_
              clear h111 K111
              refine awA_c rfl rfl rfl fun K112 h112 => ?_
              simp (disch := omega) only [S0, step1, reduceIte, Nat.reduceEqDiff, ixP, Tryd.u9, S1, KB]
              (((repeat' refine And.intro ?_ ?_); all_goals first | refine h112 _ _ rfl ?_ | omega))
              clear h112 K112
              refine awA_c rfl rfl rfl fun K113 h113 => ?_
              simp (disch := omega) only [S0, step1, Nat.reduceEqDiff, isNilC, Bool.false_eq_true, binP, intP, true_and, if_true, if_false]
              refine h113 _ _ rfl ?_
              clear h113 K113
              refine awA_c rfl rfl rfl fun K114 h114 => ?_
              simp (disch := omega) only [S0, step1, reduceIte, Nat.reduceEqDiff]
              refine h114 _ _ rfl ?_
              clear h114 K114
              show awA _ _ _ [] _ _ _ _
              simp only [awA, applyUps]
              show awL _ _ _ _ _ _ _
              refine awL_k rfl rfl fun K115 h115 => ?_
              simp (disch := omega) only [S0, step1, reduceIte, Nat.reduceEqDiff]
              refine h115 _ _ ?_
              clear h115 K115
              refine awL_k rfl rfl fun K116 h116 => ?_
              simp (disch := omega) only [S0, step1]
              refine h116 _ _ ?_
              clear h116 K116
              refine hK106 _ _ ?_
              clear hK106 K106
              refine AW.ret ?_
              show (_ ∨ _) ∧ _
              refine ⟨.inr rfl, ?_⟩
              show resP _ _ _ [.tmp 2, .tmp 3, .tmp 4] _
              simp only [resP, resV, V.trim, V.trim.trimL, S0, reduceIte, Nat.reduceEqDiff]
              refine ⟨_, _, _, Nat.le_refl _, V.le_refl _ _, StLe.refl _, ?_⟩
              exact ⟨by subst hge; rw [ref_name (n := foldD 0 (List.take (s.length - 1) s)) (by omega) (by omega) (.inr (by assumption))], hst.trim⟩
          · rw [hg94]
            simp only [decide_eq_false_iff_not, ne_eq, Decidable.not_not] at hg94
            refine awL_no rfl rfl rfl rfl ?_
            refine awL_no rfl rfl rfl rfl ?_
            refine awL_no rfl rfl rfl rfl ?_
            refine awL_no rfl rfl rfl rfl ?_
            refine awL_kyes rfl rfl rfl rfl fun K117 h117 => ?_
            simp (disch := omega) only [S0, step1, reduceIte, Nat.reduceEqDiff]
            refine h117 _ _ ?_
            clear h117 K117
            refine awL_k rfl rfl fun K118 h118 => ?_
            simp (disch := omega) only [S0, step1, reduceIte, Nat.reduceEqDiff]
            refine h118 _ _ ?_
            clear h118 K118
            refine hK78 _ _ ?_
            clear hK78 K78
            refine AW.condK _ rfl (fun hb119 => ?_) (fun hb119 => ?_)
            · skip
              cases hb119
            · skip
              refine AW.skip ?_
              refine hK77 _ _ ?_
              clear hK77 K77
              refine AW.seqK fun K120 hK120 => ?_
              refine AW.any Tryd.mix 8 rfl ?_
              refine awA_c rfl rfl rfl fun K121 h121 => ?_
              simp (disch := omega) only [S0, step1, reduceIte, Nat.reduceEqDiff]
              refine h121 _ _ rfl ?_
              clear h121 K121
              refine awA_c rfl rfl rfl fun K122 h122 => ?_
              simp (disch := omega) only [S0, step1, reduceIte, Nat.reduceEqDiff]
              refine h122 _ _ rfl ?_
              clear h122 K122
              refine awA_c rfl rfl rfl fun K123 h123 => ?_
              simp (disch := omega) only [S0, step1, reduceIte, Nat.reduceEqDiff]
              refine h123 _ _ rfl ?_
              clear h123 K123
              refine awA_c rfl rfl rfl fun K124 h124 => ?_
              simp (disch := omega) only [S0, step1, reduceIte, Nat.reduceEqDiff, lenP, Tryd.u9, true_and, S1]
              refine h124 _ _ rfl ?_
              clear h124 K124
              refine awA_c rfl rfl rfl fun K125 h125 => ?_
              simp (disch := omega) only [S0, step1, Nat.reduceEqDiff, isNilC, Bool.false_eq_true, binP, intP, true_and, if_true, if_false, KB]
              refine h125 _ _ rfl ?_
              clear h125 K125
              refine awA_c rfl rfl rfl fun K126 h126 => ?_
              simp (disch := omega) only [S0, step1, reduceIte, Nat.reduceEqDiff, ixP, Tryd.u9, S1, KB]
              (((repeat' refine And.intro ?_ ?_); all_goals first | refine h126 _ _ rfl ?_ | omega))
              clear h126 K126
              refine awA_c rfl rfl rfl fun K127 h127 => ?_
              simp (disch := omega) only [S0, step1, Nat.reduceEqDiff, isNilC, Bool.false_eq_true, binP, intP, true_and, if_true, if_false]
              refine h127 _ _ rfl ?_
              clear h127 K127
              refine awA_c rfl rfl rfl fun K128 h128 => ?_
              simp (disch := omega) only [S0, step1, reduceIte, Nat.reduceEqDiff]
              refine h128 _ _ rfl ?_
              clear h128 K128
              show awA _ _ _ [] _ _ _ _
              simp only [awA, applyUps]
              show awL _ _ _ _ _ _ _
              refine awL_k rfl rfl fun K129 h129 => ?_
              simp (disch := omega) only [S0, step1, reduceIte, Nat.reduceEqDiff]
              refine h129 _ _ ?_
              clear h129 K129
              refine awL_k rfl rfl fun K130 h130 => ?_
              simp (disch := omega) only [S0, step1]
              refine h130 _ _ ?_
              clear h130 K130
              refine hK120 _ _ ?_
              clear hK120 K120
              refine AW.ret ?_
              show (_ ∨ _) ∧ _
              refine ⟨.inr rfl, ?_⟩
              show resP _ _ _ [.tmp 2, .tmp 3, .tmp 4] _
              simp only [resP, resV, V.trim, V.trim.trimL, S0, reduceIte, Nat.reduceEqDiff]
              refine ⟨_, _, _, Nat.le_refl _, V.le_refl _ _, StLe.refl _, ?_⟩
              exact ⟨by subst hge; rw [ref_name (n := foldD 0 (List.take (s.length - 1) s)) (by omega) (by omega) (.inl (by assumption))], hst.trim⟩
set_option maxHeartbeats 8000000 in
theorem pendpoint_spec (s : Str) (hsz : s.length ≤ 2147483647) (st : List O) : Duo.Call Tryd.prog Tryd.gl 71 [.str s] st (fun v st' => v = epV s ∧ st' = st) := by
  refine Duo.Call.clo fun hst => ?_
  refine Duo.Call.real fun hr => ?_
  refine Duo.Call.body 41 [(0, .str s)] Tryd.func71 rfl rfl ?_
  refine AW.seqK fun K1 hK1 => ?_
  refine AW.region ?_
  refine awL_k rfl rfl fun K2 h2 => ?_
  simp (disch := omega) only [S0, step1]
  refine h2 _ _ ?_
  clear h2 K2
  refine awL_k rfl rfl fun K3 h3 => ?_
  simp (disch := omega) only [S0, step1]
  refine h3 _ _ ?_
  clear h3 K3
  refine awL_k rfl rfl fun K4 h4 => ?_
  simp (disch := omega) only [S0, step1]
  refine h4 _ _ ?_
  clear h4 K4
  refine hK1 _ _ ?_
  clear hK1 K1
  refine AW.seqK fun K5 hK5 => ?_
  refine AW.seqK fun K6 hK6 => ?_
  refine AW.region ?_
  refine awL_k rfl rfl fun K7 h7 => ?_
  simp (disch := omega) only [S0, step1, reduceIte, Nat.reduceEqDiff]
  refine h7 _ _ ?_
  clear h7 K7
  refine awL_k rfl rfl fun K8 h8 => ?_
  simp (disch := omega) only [S0, step1, Nat.reduceEqDiff, isNilC, Bool.false_eq_true, binP, strP, if_true, if_false]
  refine h8 _ _ ?_
  clear h8 K8
  refine hK6 _ _ ?_
  clear hK6 K6
  refine AW.condK _ rfl (fun hb9 => ?_) (fun hb9 => ?_)
  · skip
    simp only [decide_eq_true_eq] at hb9
    subst hb9
    refine AW.seqK fun K10 hK10 => ?_
    refine AW.region ?_
    refine awL_k rfl rfl fun K11 h11 => ?_
    simp (disch := omega) only [S0, step1]
    refine h11 _ _ ?_
    clear h11 K11
    refine awL_k rfl rfl fun K12 h12 => ?_
    simp (disch := omega) only [S0, step1]
    refine h12 _ _ ?_
    clear h12 K12
    refine awL_k rfl rfl fun K13 h13 => ?_
    simp (disch := omega) only [S0, step1]
    refine h13 _ _ ?_
    clear h13 K13
    refine hK10 _ _ ?_
    clear hK10 K10
    refine AW.ret ?_
    show (_ ∨ _) ∧ _
    refine ⟨.inr rfl, ?_⟩
    show resP _ _ _ [.tmp 2, .tmp 3, .tmp 4] _
    simp only [resP, resV, V.trim, V.trim.trimL, S0, reduceIte, Nat.reduceEqDiff]
    refine ⟨_, _, _, Nat.le_refl _, V.le_refl _ _, StLe.refl _, ?_⟩
    exact ⟨by unfold epV; rw [epL_nil], hst.trim⟩
  · skip
    simp only [decide_eq_false_iff_not] at hb9
    obtain ⟨a, c, rfl⟩ := snoc s hb9
    have hpi := fun k => @parseIntB_ok a k
    have hal : a.length ≤ 2147483647 := by rw [List.length_append] at hsz; omega
    refine AW.skip ?_
    refine hK5 _ _ ?_
    clear hK5 K5
    refine AW.seqK fun K14 hK14 => ?_
    refine AW.region ?_
    refine awL_k rfl rfl fun K15 h15 => ?_
    simp (disch := omega) only [S0, step1, reduceIte, Nat.reduceEqDiff]
    refine h15 _ _ ?_
    clear h15 K15
    refine awL_k rfl rfl fun K16 h16 => ?_
    simp (disch := omega) only [S0, step1, reduceIte, Nat.reduceEqDiff, lenP, Tryd.u9, true_and, snoc_len]
    refine h16 _ _ ?_
    clear h16 K16
    refine awL_k rfl rfl fun K17 h17 => ?_
    simp (disch := omega) only [S0, step1, Nat.reduceEqDiff, isNilC, Bool.false_eq_true, binP, intP, true_and, if_true, if_false, KB]
    refine h17 _ _ ?_
    clear h17 K17
    refine awL_k rfl rfl fun K18 h18 => ?_
    simp (disch := omega) only [S0, step1, reduceIte, Nat.reduceEqDiff]
    refine h18 _ _ ?_
    clear h18 K18
    refine hK14 _ _ ?_
    clear hK14 K14
    refine AW.seqK fun K19 hK19 => ?_
    refine AW.region ?_
    refine awL_k rfl rfl fun K20 h20 => ?_
    simp (disch := omega) only [S0, step1, reduceIte, Nat.reduceEqDiff]
    refine h20 _ _ ?_
    clear h20 K20
    refine awL_k rfl rfl fun K21 h21 => ?_
    simp (disch := omega) only [S0, step1, reduceIte, Nat.reduceEqDiff]
    refine h21 _ _ ?_
    clear h21 K21
    refine awL_k rfl rfl fun K22 h22 => ?_
    simp (disch := omega) only [S0, step1, reduceIte, Nat.reduceEqDiff, sliceP, bndOf, Option.map, Int.toNat_zero, List.drop_zero, Nat.add_sub_cancel, Tryd.u9, S1, snoc_len, snoc_take, KB]
    (((repeat' refine And.intro ?_ ?_); all_goals first | refine h22 _ _ ?_ | omega))
    clear h22 K22
    refine awL_k rfl rfl fun K23 h23 => ?_
    show ent _ _ = true ∧ _
    simp only [S0, reduceIte, Nat.reduceEqDiff, List.map, List.nil_append, List.append_nil]
    refine ⟨Tryd.ent97, Duo.Call.mono (parse_spec _ (by omega) _) ?_⟩
    rintro _ _ ⟨rfl, hcs⟩
    obtain rfl := hcs.symm
    refine h23 _ _ ?_
    clear h23 K23
    refine awL_k rfl rfl fun K24 h24 => ?_
    simp (disch := omega) only [S0, step1, reduceIte, Nat.reduceEqDiff]
    refine h24 _ _ ?_
    clear h24 K24
    refine awL_k rfl rfl fun K25 h25 => ?_
    simp (disch := omega) only [S0, step1, reduceIte, Nat.reduceEqDiff, List.getD_cons_zero, parV_eq]
    (((repeat' refine And.intro ?_ ?_); all_goals first | refine h25 _ _ ?_ | exact Nat.le_of_ble_eq_true rfl))
    clear h25 K25
    refine awL_k rfl rfl fun K26 h26 => ?_
    simp (disch := omega) only [S0, step1, reduceIte, Nat.reduceEqDiff, List.getD_cons_zero, List.getD_cons_succ, parV_eq]
    (((repeat' refine And.intro ?_ ?_); all_goals first | refine h26 _ _ ?_ | exact Nat.le_of_ble_eq_true rfl))
    clear h26 K26
    refine awL_k rfl rfl fun K27 h27 => ?_
    simp (disch := omega) only [S0, step1, reduceIte, Nat.reduceEqDiff]
    refine h27 _ _ ?_
    clear h27 K27
    refine awL_k rfl rfl fun K28 h28 => ?_
    simp (disch := omega) only [S0, step1, reduceIte, Nat.reduceEqDiff]
    refine h28 _ _ ?_
    clear h28 K28
    refine hK19 _ _ ?_
    clear hK19 K19
    refine AW.seqK fun K29 hK29 => ?_
    refine AW.seqK fun K30 hK30 => ?_
    refine AW.region ?_
    refine awL_k rfl rfl fun K31 h31 => ?_
    simp (disch := omega) only [S0, step1, reduceIte, Nat.reduceEqDiff]
    refine h31 _ _ ?_
    clear h31 K31
    refine awL_k rfl rfl fun K32 h32 => ?_
    simp (disch := omega) only [S0, step1, Nat.reduceEqDiff, isNilC, binP, intP, strP, if_true, if_false, parV_eq, ifc_par]
    refine h32 _ _ ?_
    clear h32 K32
    refine awL_k rfl rfl fun K33 h33 => ?_
    simp (disch := omega) only [S0, step1, reduceIte, Nat.reduceEqDiff]
    refine h33 _ _ ?_
    clear h33 K33
    refine awL_case 22 rfl (fun hg34 => ?_) (fun hg34 => ?_)
    · rw [hg34]
      simp only [Bool.not_eq_true'] at hg34
      refine awL_no rfl rfl rfl rfl ?_
      refine awL_no rfl rfl rfl rfl ?_
      refine awL_no rfl rfl rfl rfl ?_
      refine awL_no rfl rfl rfl rfl ?_
      refine awL_no rfl rfl rfl rfl ?_
      refine awL_no rfl rfl rfl rfl ?_
      refine awL_no rfl rfl rfl rfl ?_
      refine awL_no rfl rfl rfl rfl ?_
      refine awL_k rfl rfl fun K35 h35 => ?_
      simp (disch := omega) only [S0, step1, reduceIte, Nat.reduceEqDiff]
      refine h35 _ _ ?_
      clear h35 K35
      refine awL_k rfl rfl fun K36 h36 => ?_
      simp (disch := omega) only [S0, step1, reduceIte, Nat.reduceEqDiff]
      refine h36 _ _ ?_
      clear h36 K36
      refine awL_no rfl rfl rfl rfl ?_
      refine awL_no rfl rfl rfl rfl ?_
      refine awL_k rfl rfl fun K37 h37 => ?_
      simp (disch := omega) only [S0, step1, reduceIte, Nat.reduceEqDiff]
      refine h37 _ _ ?_
      clear h37 K37
      refine hK30 _ _ ?_
      clear hK30 K30
      refine AW.condK _ rfl (fun hb38 => ?_) (fun hb38 => ?_)
      · skip
        refine AW.seqK fun K39 hK39 => ?_
        refine AW.region ?_
        refine awL_k rfl rfl fun K40 h40 => ?_
        simp (disch := omega) only [S0, step1]
        refine h40 _ _ ?_
        clear h40 K40
        refine awL_k rfl rfl fun K41 h41 => ?_
        simp (disch := omega) only [S0, step1]
        refine h41 _ _ ?_
        clear h41 K41
        refine awL_k rfl rfl fun K42 h42 => ?_
        simp (disch := omega) only [S0, step1]
        refine h42 _ _ ?_
        clear h42 K42
        refine hK39 _ _ ?_
        clear hK39 K39
        refine AW.ret ?_
        show (_ ∨ _) ∧ _
        refine ⟨.inr rfl, ?_⟩
        show resP _ _ _ [.tmp 2, .tmp 3, .tmp 4] _
        simp only [resP, resV, V.trim, V.trim.trimL, S0, reduceIte, Nat.reduceEqDiff]
        refine ⟨_, _, _, Nat.le_refl _, V.le_refl _ _, StLe.refl _, ?_⟩
        exact ⟨by rw [epL_prog_none fun k hk _ => absurd (par_of_ok hk).1 (by simp_all)], hst.trim⟩
      · skip
        cases hb38
    · rw [hg34]
      simp only [Bool.not_eq_false'] at hg34
      have hn0 := parN_ge hg34
      have hn1 := parseIntB_ok (par_ok hg34)
      refine awL_kyes rfl rfl rfl rfl fun K43 h43 => ?_
      simp (disch := omega) only [S0, step1, reduceIte, Nat.reduceEqDiff]
      refine h43 _ _ ?_
      clear h43 K43
      refine awL_kyes rfl rfl rfl rfl fun K44 h44 => ?_
      simp (disch := omega) only [S0, step1, reduceIte, Nat.reduceEqDiff]
      refine h44 _ _ ?_
      clear h44 K44
      refine awL_kyes rfl rfl rfl rfl fun K45 h45 => ?_
      simp (disch := omega) only [S0, step1, reduceIte, Nat.reduceEqDiff]
      refine h45 _ _ ?_
      clear h45 K45
      refine awL_kyes rfl rfl rfl rfl fun K46 h46 => ?_
      simp (disch := omega) only [S0, step1, reduceIte, Nat.reduceEqDiff, sliceP, bndOf, Option.map, Nat.add_sub_cancel, Tryd.u9, S1, snoc_len, snoc_drop, snoc_take1, parV_eq, KB]
      (((repeat' refine And.intro ?_ ?_); all_goals first | refine h46 _ _ ?_ | omega))
      clear h46 K46
      refine awL_kyes rfl rfl rfl rfl fun K47 h47 => ?_
      simp (disch := omega) only [S0, step1, Nat.reduceEqDiff, isNilC, Bool.false_eq_true, binP, strP, if_true, if_false, parV_eq]
      refine h47 _ _ ?_
      clear h47 K47
      refine awL_kyes rfl rfl rfl rfl fun K48 h48 => ?_
      show ent _ _ = true ∧ _
      simp only [S0, reduceIte, Nat.reduceEqDiff, parV_eq, List.map, List.nil_append, List.append_nil]
      refine ⟨Tryd.ent72, Duo.Call.mono (pname_spec _ _ (by omega) (by omega) _) ?_⟩
      rintro _ _ ⟨rfl, hcs⟩
      obtain rfl := hcs.symm
      refine h48 _ _ ?_
      clear h48 K48
      refine awL_kyes rfl rfl rfl rfl fun K49 h49 => ?_
      simp (disch := omega) only [S0, step1, reduceIte, Nat.reduceEqDiff]
      refine h49 _ _ ?_
      clear h49 K49
      refine awL_kyes rfl rfl rfl rfl fun K50 h50 => ?_
      simp (disch := omega) only [S0, step1, Nat.reduceEqDiff, isNilC, Bool.false_eq_true, binP, strP, if_true, if_false, parV_eq]
      refine h50 _ _ ?_
      clear h50 K50
      refine awL_k rfl rfl fun K51 h51 => ?_
      simp (disch := omega) only [S0, step1, reduceIte, Nat.reduceEqDiff]
      refine h51 _ _ ?_
      clear h51 K51
      refine awL_k rfl rfl fun K52 h52 => ?_
      simp (disch := omega) only [S0, step1, reduceIte, Nat.reduceEqDiff]
      refine h52 _ _ ?_
      clear h52 K52
      refine awL_case 32 rfl (fun hg53 => ?_) (fun hg53 => ?_)
      · rw [hg53]
        simp only [decide_eq_true_eq, ne_eq] at hg53
        refine awL_no rfl rfl rfl rfl ?_
        refine awL_no rfl rfl rfl rfl ?_
        refine awL_k rfl rfl fun K54 h54 => ?_
        simp (disch := omega) only [S0, step1, reduceIte, Nat.reduceEqDiff]
        refine h54 _ _ ?_
        clear h54 K54
        refine hK30 _ _ ?_
        clear hK30 K30
        refine AW.condK _ rfl (fun hb55 => ?_) (fun hb55 => ?_)
        · skip
          refine AW.seqK fun K56 hK56 => ?_
          refine AW.region ?_
          refine awL_k rfl rfl fun K57 h57 => ?_
          simp (disch := omega) only [S0, step1, reduceIte]
          refine h57 _ _ ?_
          clear h57 K57
          refine awL_k rfl rfl fun K58 h58 => ?_
          simp (disch := omega) only [S0, step1, reduceIte]
          refine h58 _ _ ?_
          clear h58 K58
          refine awL_k rfl rfl fun K59 h59 => ?_
          simp (disch := omega) only [S0, step1, reduceIte]
          refine h59 _ _ ?_
          clear h59 K59
          refine hK56 _ _ ?_
          clear hK56 K56
          refine AW.ret ?_
          show (_ ∨ _) ∧ _
          refine ⟨.inr rfl, ?_⟩
          show resP _ _ _ [.tmp 2, .tmp 3, .tmp 4] _
          simp only [resP, resV, V.trim, V.trim.trimL, S0, reduceIte, Nat.reduceEqDiff]
          refine ⟨_, _, _, Nat.le_refl _, V.le_refl _ _, StLe.refl _, ?_⟩
          exact ⟨by rw [epL_prog_none fun k hk h => absurd ((par_of_ok hk).2 ▸ h) (by assumption)], hst.trim⟩
        · skip
          cases hb55
      · rw [hg53]
        simp only [decide_eq_false_iff_not, ne_eq, Decidable.not_not] at hg53
        refine awL_kyes rfl rfl rfl rfl fun K60 h60 => ?_
        simp (disch := omega) only [S0, step1, reduceIte, Nat.reduceEqDiff]
        refine h60 _ _ ?_
        clear h60 K60
        refine awL_kyes rfl rfl rfl rfl fun K61 h61 => ?_
        simp (disch := omega) only [S0, step1, Nat.reduceEqDiff, isNilC, Bool.false_eq_true, binP, intP, true_and, if_true, if_false, parV_eq]
        refine h61 _ _ ?_
        clear h61 K61
        refine awL_k rfl rfl fun K62 h62 => ?_
        simp (disch := omega) only [S0, step1, reduceIte, Nat.reduceEqDiff]
        refine h62 _ _ ?_
        clear h62 K62
        refine hK30 _ _ ?_
        clear hK30 K30
        refine AW.condK _ rfl (fun hb63 => ?_) (fun hb63 => ?_)
        · skip
          simp only [decide_eq_true_eq] at hb63
          refine AW.seqK fun K64 hK64 => ?_
          refine AW.region ?_
          refine awL_k rfl rfl fun K65 h65 => ?_
          simp (disch := omega) only [S0, step1]
          refine h65 _ _ ?_
          clear h65 K65
          refine awL_k rfl rfl fun K66 h66 => ?_
          simp (disch := omega) only [S0, step1]
          refine h66 _ _ ?_
          clear h66 K66
          refine awL_k rfl rfl fun K67 h67 => ?_
          simp (disch := omega) only [S0, step1]
          refine h67 _ _ ?_
          clear h67 K67
          refine hK64 _ _ ?_
          clear hK64 K64
          refine AW.ret ?_
          show (_ ∨ _) ∧ _
          refine ⟨.inr rfl, ?_⟩
          show resP _ _ _ [.tmp 2, .tmp 3, .tmp 4] _
          simp only [resP, resV, V.trim, V.trim.trimL, S0, reduceIte, Nat.reduceEqDiff]
          refine ⟨_, _, _, Nat.le_refl _, V.le_refl _ _, StLe.refl _, ?_⟩
          exact ⟨by rw [epL_prog_none fun k hk h => (par_of_ok hk).2 ▸ (by assumption)], hst.trim⟩
        · skip
          simp only [decide_eq_false_iff_not, Int.not_lt] at hb63
          refine AW.skip ?_
          refine hK29 _ _ ?_
          clear hK29 K29
          refine AW.seqK fun K68 hK68 => ?_
          refine AW.any Tryd.mix 6 rfl ?_
          refine awA_c rfl rfl rfl fun K69 h69 => ?_
          simp (disch := omega) only [S0, step1, reduceIte, Nat.reduceEqDiff]
          refine h69 _ _ rfl ?_
          clear h69 K69
          refine awA_c rfl rfl rfl fun K70 h70 => ?_
          simp (disch := omega) only [S0, step1, reduceIte, Nat.reduceEqDiff]
          refine h70 _ _ rfl ?_
          clear h70 K70
          refine awA_c rfl rfl rfl fun K71 h71 => ?_
          simp (disch := omega) only [S0, step1, reduceIte, Nat.reduceEqDiff]
          refine h71 _ _ rfl ?_
          clear h71 K71
          refine awA_c rfl rfl rfl fun K72 h72 => ?_
          simp (disch := omega) only [S0, step1, reduceIte, Nat.reduceEqDiff, sliceP, bndOf, Option.map, Nat.add_sub_cancel, Tryd.u9, S1, snoc_len, snoc_drop, snoc_take1, parV_eq, KB]
          (((repeat' refine And.intro ?_ ?_); all_goals first | refine h72 _ _ rfl ?_ | omega))
          clear h72 K72
          refine awA_c rfl rfl rfl fun K73 h73 => ?_
          simp (disch := omega) only [S0, step1, Nat.reduceEqDiff, isNilC, Bool.false_eq_true, binP, strP, if_true, if_false, parV_eq]
          refine h73 _ _ rfl ?_
          clear h73 K73
          refine awA_c rfl rfl rfl fun K74 h74 => ?_
          simp (disch := omega) only [S0, step1, reduceIte, Nat.reduceEqDiff]
          refine h74 _ _ rfl ?_
          clear h74 K74
          show awA _ _ _ [] _ _ _ _
          simp only [awA, applyUps]
          show awL _ _ _ _ _ _ _
          refine awL_k rfl rfl fun K75 h75 => ?_
          simp (disch := omega) only [S0, step1, reduceIte, Nat.reduceEqDiff]
          refine h75 _ _ ?_
          clear h75 K75
          refine awL_k rfl rfl fun K76 h76 => ?_
          simp (disch := omega) only [S0, step1]
          refine h76 _ _ ?_
          clear h76 K76
          refine hK68 _ _ ?_
          clear hK68 K68
          refine AW.ret ?_
          show (_ ∨ _) ∧ _
          refine ⟨.inr rfl, ?_⟩
          show resP _ _ _ [.tmp 2, .tmp 3, .tmp 4] _
          simp only [resP, resV, V.trim, V.trim.trimL, S0, reduceIte, Nat.reduceEqDiff]
          refine ⟨_, _, _, Nat.le_refl _, V.le_refl _ _, StLe.refl _, ?_⟩
          exact ⟨by rw [epL_prog_some (par_ok (by assumption)) (by assumption) (by omega)], hst.trim⟩
end Tryd
end Go.Proofs
