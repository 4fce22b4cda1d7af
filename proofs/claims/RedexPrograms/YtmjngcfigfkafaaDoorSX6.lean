/-
  A part of the proof.
-/
import Derived.Test.YtmjngcfigfkafaaDoorLib
import Derived.Test.YtmjngcfigfkafaaDoorSFacts
import Derived.Test.YtmjngcfigfkafaaDoorData
import Derived.Test.YtmjngcfigfkafaaDoorSW3
set_option linter.all false
namespace Go.Proofs
open Go Go.Duo
namespace Tryd
attribute [local irreducible] awL awA AW
set_option maxRecDepth 100000 in
set_option maxHeartbeats 8000000 in
theorem threads_spec (l : List Th) (hn : l.length ≤ 1000000) (st : List O) : Duo.Call Tryd.prog Tryd.gl 17 [.sl (l.map encTh) none] st (fun v st' => v = .sl ((l.map threadL).map encP) none ∧ st' = st) := by
  refine Duo.Call.clo fun hst => ?_
  refine Duo.Call.real fun hr => ?_
  refine Duo.Call.body 94 [(0, .sl (l.map encTh) none)] Tryd.func17 rfl rfl ?_
  repeat' first
    | refine AW.seqK fun K hK => ?_
    | (refine hK _ _ ?_; clear hK K)
    | refine AW.region ?_
    | refine AW.any (id := 6) mix 11 (by decide +kernel) ?_
    | refine AW.any (id := 18) mix 13 (by decide +kernel) ?_
    | refine awL_call rfl (by exact ent43) (by simp only [go_sem, ↓reduceIte, Nat.reduceEqDiff]; rfl) (by (exact rname_spec _ _ (by omega) (by have := UInt8.toNat_lt (l[i]).ch; omega) _)) rfl ?_
    | refine awA_nil (by simp only [applyUps, List.nil_append, List.cons_append, S0, S2]; rfl) ?_
    | refine awL_nil ?_
    | refine awL_S1 rfl rfl (by simp (disch := omega) only [go_sem, ↓reduceIte, Nat.reduceEqDiff, Nat.reduceAdd, Nat.reduceLeDiff, Nat.reduceMul, Nat.reduceLT, encTh_cells, labelL_get, stopL_enc]; rfl) ?_
    | refine awA_S1 rfl rfl (by simp (disch := omega) only [go_sem, ↓reduceIte, Nat.reduceEqDiff, Nat.reduceAdd, Nat.reduceLeDiff, Nat.reduceMul, Nat.reduceLT, encTh_cells]; rfl) ?_
    | (refine AW.condK _ rfl (fun hb => ?_) (fun hb => ?_) <;> (simp only [decide_eq_true_eq, decide_eq_false_iff_not] at hb) <;> try (exfalso; omega))
    | refine AW.block ?_
    | refine bq_s ?_
    | refine AW.exit ?_
    | refine AW.skip ?_
    | refine useK (by assumption) ?_
    | (refine AW.tok 29 12 ?_; rw [List.append_assoc]; refine AW.loopS (α := { i : Nat // i ≤ l.length }) 94 (fun i => [(0, .sl (l.map encTh) none), (3, .sl (thrL l i.1) (some (st.length + 1))), (4, .sl [encP stopL] none), (5, .int .i64 (i.1 : Nat))]) (fun i => st ++ [.tok 29 12 1, .tok 29 12 (thrL l i.1).length]) (fun i => l.length - i.1) ⟨0, Nat.zero_le _⟩ rfl ?_ ?_ ?_; (focus (simp (disch := omega) only [go_sem, ↓reduceIte, Nat.reduceEqDiff, thrL_zero, stopL_enc]; done)); (focus (simp (disch := omega) only [go_sem, thrL_zero]; done)); rintro ⟨i, hi⟩ hlc; dsimp only; have hb := thrL_len l i)
    | (have hlt : i < l.length := (by omega); have hp := thrL_succ hlt; have he := thr0 (t := l[i]) (by assumption) (chanL_9 (by assumption)); refine ⟨⟨i + 1, by omega⟩, by simp only []; omega, _, Nat.le_refl _, Nat.le_of_ble_eq_true rfl, ?_, ?_⟩ <;> (simp (disch := omega) only [go_sem, ↓reduceIte, Nat.reduceEqDiff, Nat.reduceAdd, stopL_enc, hp, he, List.length_append, trimS_app hst]; done))
    | (have hlt : i < l.length := (by omega); have hp := thrL_succ hlt; have he := thr0 (t := l[i]) (by assumption) (chanL_n (by assumption)); refine ⟨⟨i + 1, by omega⟩, by simp only []; omega, _, Nat.le_refl _, Nat.le_of_ble_eq_true rfl, ?_, ?_⟩ <;> (simp (disch := omega) only [go_sem, ↓reduceIte, Nat.reduceEqDiff, Nat.reduceAdd, stopL_enc, hp, he, List.length_append, trimS_app hst]; done))
    | (have hlt : i < l.length := (by omega); have hp := thrL_succ hlt; have he := thr1 (t := l[i]) (by assumption) (chanL_9 (by assumption)); refine ⟨⟨i + 1, by omega⟩, by simp only []; omega, _, Nat.le_refl _, Nat.le_of_ble_eq_true rfl, ?_, ?_⟩ <;> (simp (disch := omega) only [go_sem, ↓reduceIte, Nat.reduceEqDiff, Nat.reduceAdd, stopL_enc, hp, he, List.length_append, trimS_app hst]; done))
    | (have hlt : i < l.length := (by omega); have hp := thrL_succ hlt; have he := thr1 (t := l[i]) (by assumption) (chanL_n (by assumption)); refine ⟨⟨i + 1, by omega⟩, by simp only []; omega, _, Nat.le_refl _, Nat.le_of_ble_eq_true rfl, ?_, ?_⟩ <;> (simp (disch := omega) only [go_sem, ↓reduceIte, Nat.reduceEqDiff, Nat.reduceAdd, stopL_enc, hp, he, List.length_append, trimS_app hst]; done))
    | (have hlt : i < l.length := (by omega); have hp := thrL_succ hlt; have he := thr2 (t := l[i]) (by assumption) (chanL_9 (by assumption)); refine ⟨⟨i + 1, by omega⟩, by simp only []; omega, _, Nat.le_refl _, Nat.le_of_ble_eq_true rfl, ?_, ?_⟩ <;> (simp (disch := omega) only [go_sem, ↓reduceIte, Nat.reduceEqDiff, Nat.reduceAdd, stopL_enc, hp, he, List.length_append, trimS_app hst]; done))
    | (have hlt : i < l.length := (by omega); have hp := thrL_succ hlt; have he := thr2 (t := l[i]) (by assumption) (chanL_n (by assumption)); refine ⟨⟨i + 1, by omega⟩, by simp only []; omega, _, Nat.le_refl _, Nat.le_of_ble_eq_true rfl, ?_, ?_⟩ <;> (simp (disch := omega) only [go_sem, ↓reduceIte, Nat.reduceEqDiff, Nat.reduceAdd, stopL_enc, hp, he, List.length_append, trimS_app hst]; done))
    | (have hlt : i < l.length := (by omega); have hp := thrL_succ hlt; have he := thr3 (t := l[i]) (by assumption) (chanL_9 (by assumption)); refine ⟨⟨i + 1, by omega⟩, by simp only []; omega, _, Nat.le_refl _, Nat.le_of_ble_eq_true rfl, ?_, ?_⟩ <;> (simp (disch := omega) only [go_sem, ↓reduceIte, Nat.reduceEqDiff, Nat.reduceAdd, stopL_enc, hp, he, List.length_append, trimS_app hst]; done))
    | (have hlt : i < l.length := (by omega); have hp := thrL_succ hlt; have he := thr3 (t := l[i]) (by assumption) (chanL_n (by assumption)); refine ⟨⟨i + 1, by omega⟩, by simp only []; omega, _, Nat.le_refl _, Nat.le_of_ble_eq_true rfl, ?_, ?_⟩ <;> (simp (disch := omega) only [go_sem, ↓reduceIte, Nat.reduceEqDiff, Nat.reduceAdd, stopL_enc, hp, he, List.length_append, trimS_app hst]))
    | (refine AW.ret ?_; show (_ ∨ _) ∧ _; refine ⟨.inr rfl, ?_⟩; show resP _ _ _ [.tmp 2] _; simp (disch := omega) only [go_sem, ↓reduceIte]; refine ⟨_, _, _, Nat.le_refl _, V.le_refl _ _, StLe.refl _, ?_⟩; simp (disch := omega) only [go_sem, hst.trim_append])
  obtain rfl : i = l.length := by omega
  rw [thrL_end]
end Tryd
end Go.Proofs
