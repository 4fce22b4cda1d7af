/-
  A part of the proof.
-/
import Derived.Test.YtmjngcfigfkafaaDoorLib
import Derived.Test.YtmjngcfigfkafaaDoorSW3
import Derived.Test.YtmjngcfigfkafaaDoorDat2
import Derived.Test.YtmjngcfigfkafaaDoorWkFacts
import Derived.Test.YtmjngcfigfkafaaDoorDS3
import Derived.Test.YtmjngcfigfkafaaDoorDLate3
import Derived.Test.YtmjngcfigfkafaaDoorWkF
set_option linter.all false
namespace Go.Proofs
open Go Go.Duo
namespace Tryd
attribute [local irreducible] awL awA awT AW
set_option maxRecDepth 100000 in
set_option maxHeartbeats 8000000 in
theorem nodeC_spec (w : Pg) (hw : w.defs.length ≤ 1000000) : ∀ (t : Pr) (sc : List Str) (g : Bool) (ho : okP t) (hz : t.sz ≤ 1000000) (hn : sc.length + 2 * t.dp ≤ 1000000) (st : List O), Duo.Call Tryd.prog Tryd.gl 77 [encPg w, encP t, .sl (sc.map .str) none, .bool g] st (fun v st' => v = .int .i64 (nodeC w t sc g) ∧ st' = st) := Pr.ind' fun t ih => by
  intro sc g ho hz hn st
  refine Duo.Call.clo fun hst => ?_
  have h4 := ho.args
  have hzl := Pr.szs_len t.kids
  have hzz := Pr.sz_eq t
  have hfl := findI_lt w.defs t.chan
  have hil := innerL_len t
  have hdp := Pr.dp_eq t
  obtain ⟨inn, hin⟩ : ∃ inn, inn = sc ++ innerL t := ⟨_, rfl⟩
  have hinl : inn.length = sc.length + (innerL t).length := by rw [hin, List.length_append]
  refine Duo.Call.body 141 [(0, encPg w), (1, encP t), (2, .sl (sc.map .str) none), (3, .bool g)] Tryd.func77 rfl rfl ?_
  repeat' first
    | refine AW.seqK fun K hK => ?_
    | (refine hK _ _ ?_; clear hK K)
    | refine AW.region ?_
    | refine AW.any (id := 22) mix 10 (by decide +kernel) ?_
    | refine AW.any (id := 29) mix 18 (by decide +kernel) ?_
    | refine awL_call rfl (by first | exact ent74 | exact ent76 | exact ent77) (by simp only [go_sem, ↓reduceIte, Nat.reduceEqDiff, Nat.reduceAdd, Nat.reduceLeDiff, Nat.reduceMul, Nat.reduceSub, Nat.reduceLT]; rfl) (by first | exact in3_spec _ _ (by omega) _ | exact find_spec w _ hw _ | exact ih _ (List.getElem_mem _) inn _ (ho.kid (List.getElem_mem _)) (by have := kidP_sz (t := t) (by assumption); omega) (by have := kidP_dp (t := t) (by assumption); omega) _) rfl ?_
    | refine awA_nil (by simp only [applyUps, List.nil_append, List.cons_append, S0, S2]; rfl) ?_
    | refine awL_nil ?_
    | (refine awL_gno rfl ?_ rfl ?_; focus (simp only [S0, ↓reduceIte, Nat.reduceEqDiff, Bool.not_true, Bool.not_false]; done))
    | (refine awL_gyes rfl ?_ ?_; focus (simp only [S0, ↓reduceIte, Nat.reduceEqDiff, Bool.not_true, Bool.not_false]; done))
    | refine awL_hole rfl rfl rfl rfl ?_
    | (refine awL_gcase rfl rfl (fun hg => ?_) (fun hg => ?_) <;> (rw [hg]; (try simp only [Int.ofNat_inj, not_true_eq_false, not_false_eq_true, Bool.false_eq_true, Bool.true_eq_false, decide_eq_true_eq, decide_eq_false_iff_not, Bool.not_eq_true, Bool.not_eq_false, Bool.not_eq_true', Bool.not_eq_false', Int.not_lt, Int.not_le, ne_eq, Decidable.not_not, List.length_map, Bool.and_eq_true, Bool.or_eq_true, Bool.and_eq_false_imp, Int.ofNat_lt, Int.ofNat_le] at hg); try (exfalso; omega)))
    | refine awL_S1 rfl rfl (by simp (disch := omega) only [go_sem, ↓reduceIte, Nat.reduceEqDiff, Nat.reduceAdd, Nat.reduceLeDiff, Nat.reduceMul, Nat.reduceSub, Nat.reduceLT]; rfl) ?_
    | refine awA_call rfl (by first | exact ent74 | exact ent76 | exact ent77) (by simp only [go_sem, ↓reduceIte, Nat.reduceEqDiff, Nat.reduceAdd, Nat.reduceLeDiff, Nat.reduceMul, Nat.reduceSub, Nat.reduceLT]; rfl) (by first | exact in3_spec _ _ (by omega) _ | exact find_spec w _ hw _ | exact ih _ (List.getElem_mem _) inn _ (ho.kid (List.getElem_mem _)) (by have := kidP_sz (t := t) (by assumption); omega) (by have := kidP_dp (t := t) (by assumption); omega) _) rfl ?_
    | (refine awA_gno rfl ?_ rfl ?_; focus (simp only [S0, ↓reduceIte, Nat.reduceEqDiff, Bool.not_true, Bool.not_false]; done))
    | (refine awA_gyes rfl ?_ ?_; focus (simp only [S0, ↓reduceIte, Nat.reduceEqDiff, Bool.not_true, Bool.not_false]; done))
    | refine awA_hole rfl rfl rfl rfl ?_
    | (refine awA_gcase rfl rfl (fun hg => ?_) (fun hg => ?_) <;> (rw [hg]; (try simp only [Int.ofNat_inj, not_true_eq_false, not_false_eq_true, Bool.false_eq_true, Bool.true_eq_false, decide_eq_true_eq, decide_eq_false_iff_not, Bool.not_eq_true, Bool.not_eq_false, Bool.not_eq_true', Bool.not_eq_false', Int.not_lt, Int.not_le, ne_eq, Decidable.not_not, List.length_map, Bool.and_eq_true, Bool.or_eq_true, Bool.and_eq_false_imp, Int.ofNat_lt, Int.ofNat_le] at hg); try (exfalso; omega)))
    | refine awA_S1 rfl rfl (by simp (disch := omega) only [go_sem, ↓reduceIte, Nat.reduceEqDiff, Nat.reduceAdd, Nat.reduceLeDiff, Nat.reduceMul, Nat.reduceSub, Nat.reduceLT]; rfl) ?_
    | (refine AW.condK _ rfl (fun hb => ?_) (fun hb => ?_) <;> (try simp only [Int.ofNat_inj, not_true_eq_false, not_false_eq_true, Bool.false_eq_true, Bool.true_eq_false, decide_eq_true_eq, decide_eq_false_iff_not, Bool.not_eq_true, Bool.not_eq_false, Bool.not_eq_true', Bool.not_eq_false', Int.not_lt, Int.not_le, ne_eq, Decidable.not_not, List.length_map, Bool.and_eq_true, Bool.or_eq_true, Bool.and_eq_false_imp, Int.ofNat_lt, Int.ofNat_le] at hb) <;> try (exfalso; omega))
    | refine AW.block ?_
    | refine bq_s ?_
    | refine bq_o rfl ?_
    | refine tq_e ?_
    | refine AW.exit ?_
    | refine AW.skip ?_
    | refine useK (by assumption) ?_
    | (refine AW.loopS (α := { i : Nat // i ≤ t.args.length ∧ t.args.any (argE sc) = (t.args.drop i).any (argE sc) }) 141 (fun i => [(2, .sl (sc.map .str) none), (3, .bool g), (4, .ptr st.length 0), (5, .ptr (st.length + 1) 0), (9, .int .i64 (i.1 : Nat))]) (fun i => st ++ [.box 62 (encPg w).cells, .box 29 (encP t).cells]) (fun i => t.args.length - i.1) ⟨0, Nat.zero_le _, rfl⟩ rfl ?_ ?_ ?_; (focus (simp (disch := omega) only [go_sem, ↓reduceIte, Nat.reduceEqDiff, Nat.reduceAdd, Nat.reduceLeDiff, Nat.reduceMul, Nat.reduceSub, Nat.reduceLT]; done)); (focus (simp (disch := omega) only [go_sem, ↓reduceIte, Nat.reduceEqDiff, Nat.reduceAdd, Nat.reduceLeDiff, Nat.reduceMul, Nat.reduceSub, Nat.reduceLT]; done)); rintro ⟨i, hi, hpre⟩ hlc; dsimp only)
    | (refine ⟨⟨i + 1, by omega, gany_no hpre (by assumption) (by unfold argE; simp_all)⟩, by simp only []; omega, _, Nat.le_refl _, Nat.le_of_ble_eq_true rfl, ?_, ?_⟩ <;> (simp (disch := omega) only [go_sem, ↓reduceIte, Nat.reduceEqDiff, Nat.reduceAdd, Nat.reduceLeDiff, Nat.reduceMul, Nat.reduceSub, Nat.reduceLT, List.length_append, hlc.trim, hlc.trim_append, trimS_app hst]))
    | (refine AW.loopC (α := { j : Nat // sc.length ≤ j ∧ j ≤ inn.length ∧ ∀ (k : Nat) (hk : k < inn.length), sc.length ≤ k → k < j → inn[k] ∉ sc }) 141 (fun j => [(2, .sl (sc.map .str) none), (3, .bool g), (4, .ptr st.length 0), (5, .ptr (st.length + 1) 0), (10, .sl (inn.map .str) none), (11, .int .i64 (j.1 : Nat))]) (fun j => inn.length - j.1) ⟨sc.length, Nat.le_refl _, by omega, by intro k hk hk2 hk3; omega⟩ rfl ?_ ?_; (focus (simp (disch := omega) only [go_sem, ↓reduceIte, Nat.reduceEqDiff, Nat.reduceAdd, Nat.reduceLeDiff, Nat.reduceMul, Nat.reduceSub, Nat.reduceLT, hin, innerL_3, innerL_6, innerL_0, List.append_nil, List.append_assoc, List.cons_append, List.nil_append]; done)); rintro ⟨j, hj0, hj, hpre2⟩ hlc; dsimp only)
    | (refine ⟨⟨j + 1, by omega, by omega, fun k hk hk2 hk3 => by rcases Nat.lt_or_eq_of_le (Nat.le_of_lt_succ hk3) with h | h; exact hpre2 k hk hk2 h; subst h; assumption⟩, by simp only []; omega, _, Nat.le_refl _, Nat.le_of_ble_eq_true rfl, ?_, ?_⟩ <;> (simp (disch := omega) only [go_sem, ↓reduceIte, Nat.reduceEqDiff, Nat.reduceAdd, Nat.reduceLeDiff, Nat.reduceMul, Nat.reduceSub, Nat.reduceLT, List.length_append, hlc.trim, hlc.trim_append, trimS_app hst]))
    | (refine AW.loopC (α := { m : Nat // m ≤ t.kids.length ∧ ∀ (j : Nat) (hj : j < t.kids.length), j < m → nodeC w t.kids[j] inn (g || preK t.kind) = 0 }) 141 (fun m => [(3, .bool g), (4, .ptr st.length 0), (5, .ptr (st.length + 1) 0), (10, .sl (inn.map .str) none), (13, .int .i64 (m.1 : Nat))]) (fun m => t.kids.length - m.1) ⟨0, Nat.zero_le _, by intro j hj hj2; omega⟩ rfl ?_ ?_; (focus (simp (disch := omega) only [go_sem, ↓reduceIte, Nat.reduceEqDiff, Nat.reduceAdd, Nat.reduceLeDiff, Nat.reduceMul, Nat.reduceSub, Nat.reduceLT]; done)); rintro ⟨m, hm, hpre3⟩ hlc; dsimp only)
    | (refine ⟨⟨m + 1, by omega, fun j hj hj2 => by rcases Nat.lt_or_eq_of_le (Nat.le_of_lt_succ hj2) with h | h; exact hpre3 j hj h; subst h; first | (rw [gpre_t]; rotate_left; (focus assumption); assumption) | (rw [gpre_lo]; rotate_left; (focus assumption); (focus assumption); assumption) | (rw [gpre_mid]; rotate_left; (focus assumption); (focus assumption); first | assumption | (simp_all; done))⟩, by simp only []; omega, _, Nat.le_refl _, Nat.le_of_ble_eq_true rfl, ?_, ?_⟩ <;> (simp (disch := omega) only [go_sem, ↓reduceIte, Nat.reduceEqDiff, Nat.reduceAdd, Nat.reduceLeDiff, Nat.reduceMul, Nat.reduceSub, Nat.reduceLT, *, List.length_append, hlc.trim, hlc.trim_append, trimS_app hst]))
    | (refine AW.loopC (α := { m : Nat // m ≤ t.kids.length ∧ ∀ (j : Nat) (hj : j < t.kids.length), j < m → nodeC w t.kids[j] inn (g || preK t.kind) = 0 }) 141 (fun m => [(3, .bool g), (4, .ptr st.length 0), (5, .ptr (st.length + 1) 0), (10, .sl (inn.map .str) none), (13, .int .i64 (m.1 : Nat))]) (fun m => t.kids.length - m.1) ⟨0, Nat.zero_le _, by intro j hj hj2; omega⟩ rfl ?_ ?_; (focus (simp (disch := omega) only [go_sem, ↓reduceIte, Nat.reduceEqDiff, Nat.reduceAdd, Nat.reduceLeDiff, Nat.reduceMul, Nat.reduceSub, Nat.reduceLT, *]; done)); rintro ⟨m, hm, hpre3⟩ hlc; dsimp only)
    | (refine ⟨⟨m + 1, by omega, fun j hj hj2 => by rcases Nat.lt_or_eq_of_le (Nat.le_of_lt_succ hj2) with h | h; exact hpre3 j hj h; subst h; first | (rw [gpre_t]; rotate_left; (focus assumption); assumption) | (rw [gpre_lo]; rotate_left; (focus assumption); (focus assumption); assumption) | (rw [gpre_mid]; rotate_left; (focus assumption); (focus assumption); first | assumption | (simp_all; done))⟩, by simp only []; omega, _, Nat.le_refl _, Nat.le_of_ble_eq_true rfl, ?_, ?_⟩ <;> (simp (disch := omega) only [go_sem, ↓reduceIte, Nat.reduceEqDiff, Nat.reduceAdd, Nat.reduceLeDiff, Nat.reduceMul, Nat.reduceSub, Nat.reduceLT, *, List.length_append, hlc.trim, hlc.trim_append, trimS_app hst]))
    | (refine AW.ret ?_; show (_ ∨ _) ∧ _; refine ⟨.inr rfl, ?_⟩; show resP _ _ _ [.tmp 8] _; simp (disch := omega) only [go_sem, ↓reduceIte, Nat.reduceEqDiff, Nat.reduceAdd, Nat.reduceLeDiff, Nat.reduceMul, Nat.reduceSub, Nat.reduceLT]; refine ⟨_, _, _, Nat.le_refl _, V.le_refl _ _, StLe.refl _, ?_⟩; (try simp (disch := omega) only [go_sem, ↓reduceIte, Nat.reduceEqDiff, Nat.reduceAdd, Nat.reduceLeDiff, Nat.reduceMul, Nat.reduceSub, Nat.reduceLT, hst.trim, hst.trim_append]))
  all_goals (clear ih h4 ho)
  all_goals first
    | (exfalso; refine tfB (g := g) ?_ ?_ <;> assumption)
    | (refine congrArg _ (nodeC_k1 ?_ ?_ ?_).symm <;> (first | assumption | omega))
    | (refine congrArg _ (nodeC_k2 ?_ (gany_yes hpre ?_ ?_)).symm <;> (first | assumption | (unfold okC preK; simp; intros; first | assumption | omega) | (unfold argE; simp_all; done)))
    | (refine congrArg _ (nodeC_k3 ?_ (gany_end hpre ?_) (inn_yes hin hj0 ?_ ?_)).symm <;> (first | assumption | omega | (unfold okC preK; simp; intros; first | assumption | omega)))
    | (refine congrArg _ (nodeC_kid ?_ (gany_end hpre ?_) (inn_no hin ?_ hpre2) hin ?_ ?_ ?_ hpre3 ?_).symm <;> (first | assumption | omega | (unfold okC preK; simp; intros; first | assumption | omega) | (intro h8; exfalso; omega) | (intro h8; rw [callE_pos]; rotate_left; (focus omega); (focus omega); simp_all; done) | (rw [gpre_t]; assumption) | (rw [gpre_lo] <;> assumption) | (rw [gpre_mid] <;> assumption)))
    | (refine congrArg _ (nodeC_end ?_ (gany_end hpre ?_) (inn_no hin ?_ hpre2) hin ?_ ?_ hpre3).symm <;> (first | assumption | omega | (unfold okC preK; simp; intros; first | assumption | omega) | (intro h8; exfalso; omega) | (intro h8; rw [callE_pos]; rotate_left; (focus omega); (focus omega); simp_all; done)))
    | (refine congrArg _ (nodeC_k4 ?_ (gany_end hpre ?_) (inn_no hin ?_ hpre2) |>.trans ?_).symm <;> (first | assumption | omega | (unfold okC preK; simp; intros; first | assumption | omega) | (rw [callE_neg]; rotate_left; (focus omega); simp_all; done) | (rw [callE_pos]; rotate_left; (focus omega); (focus omega); simp_all; done)))
end Tryd
end Go.Proofs
