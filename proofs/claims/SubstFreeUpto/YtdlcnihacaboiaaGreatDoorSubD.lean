/-
  A part of the proof.
-/
import Derived.Test.YtdlcnihacaboiaaGreatDoorSubLib
import Derived.Test.YtdlcnihacaboiaaGreatDoorGO
import Derived.Test.YtdlcnihacaboiaaGreatDoorDS3
import Derived.Test.YtdlcnihacaboiaaGreatDoorDLate3
import Derived.Test.YtdlcnihacaboiaaGreatDoorGP
import Derived.Test.YtdlcnihacaboiaaGreatDoorSubC
set_option linter.all false
namespace Go.Proofs
open Go Go.Duo
namespace Tryz
attribute [local irreducible] awL awA awT AW
set_option maxRecDepth 100000 in
set_option maxHeartbeats 8000000 in
theorem decimal_aux (m : Nat) : ∀ (n : Int) (_ : n.toNat < m) (h0 : 0 ≤ n) (h1 : n ≤ 9223372036854775807) (st : List O), Duo.Call Tryz.prog Tryz.gl 17 [.int .i64 n] st (fun v st' => v = .str (Lib.itoa n) ∧ st' = st) := by
  induction m with
  | zero => intro n h; omega
  | succ m ih =>
  intro n hm h0 h1 st
  refine Duo.Call.clo fun hst => ?_
  have hl := Lib.itoa_length_le (n / 10) (by omega) (by omega)
  have hl2 : (List.drop (n % 10).toNat (List.take (n % 10 + 1).toNat ([48, 49, 50, 51, 52, 53, 54, 55, 56, 57] : Str))).length ≤ 1 := by rw [List.length_drop, List.length_take]; omega
  refine Duo.Call.body 28 [(0, .int .i64 n)] Tryz.func17 rfl rfl ?_
  repeat' first
    | refine AW.seqK fun K hK => ?_
    | (refine hK _ _ ?_; clear hK K)
    | refine AW.region ?_
    | refine awL_call rfl (by first | exact ent17) (by simp only [go_sem, ↓reduceIte, Nat.reduceEqDiff, Nat.reduceAdd, Nat.reduceLeDiff, Nat.reduceMul, Nat.reduceSub, Nat.reduceLT]; rfl) (by first | exact ih _ (by omega) (by omega) (by omega) _) rfl ?_
    | refine awL_nil ?_
    | refine awL_S1 rfl rfl (by simp (disch := omega) only [go_sem, ↓reduceIte, Nat.reduceEqDiff, Nat.reduceAdd, Nat.reduceLeDiff, Nat.reduceMul, Nat.reduceSub, Nat.reduceLT]; rfl) ?_
    | (refine AW.condK _ rfl (fun hb => ?_) (fun hb => ?_) <;> (try simp only [Int.ofNat_inj, not_true_eq_false, not_false_eq_true, Bool.false_eq_true, Bool.true_eq_false, decide_eq_true_eq, decide_eq_false_iff_not, Bool.not_eq_true, Bool.not_eq_false, Bool.not_eq_true', Bool.not_eq_false', Int.not_lt, Int.not_le, ne_eq, Decidable.not_not, List.length_map, Bool.and_eq_true, Bool.or_eq_true, Bool.and_eq_false_imp, Int.ofNat_lt, Int.ofNat_le] at hb) <;> try (exfalso; omega))
    | refine AW.skip ?_
    | refine useK (by assumption) ?_
    | (refine AW.ret ?_; show (_ ∨ _) ∧ _; refine ⟨.inr rfl, ?_⟩; show resP _ _ _ [.tmp 2] _; simp (disch := omega) only [go_sem, ↓reduceIte, Nat.reduceEqDiff, Nat.reduceAdd, Nat.reduceLeDiff, Nat.reduceMul, Nat.reduceSub, Nat.reduceLT]; refine ⟨_, _, _, Nat.le_refl _, V.le_refl _ _, StLe.refl _, ?_⟩; (try simp (disch := omega) only [go_sem, ↓reduceIte, Nat.reduceEqDiff, Nat.reduceAdd, Nat.reduceLeDiff, Nat.reduceMul, Nat.reduceSub, Nat.reduceLT, hst.trim, hst.trim_append]))
  all_goals first | exact congrArg V.str (itoa_small (by omega) (by omega)) | exact congrArg V.str (itoa_big (by omega)) | trace_state
theorem decimal_spec (n : Int) (h0 : 0 ≤ n) (h1 : n ≤ 9223372036854775807) (st : List O) : Duo.Call Tryz.prog Tryz.gl 17 [.int .i64 n] st (fun v st' => v = .str (Lib.itoa n) ∧ st' = st) := decimal_aux _ n (Nat.lt_succ_self _) h0 h1 st
set_option maxRecDepth 100000 in
set_option maxHeartbeats 8000000 in
theorem index_spec (l : List Str) (c : Str) (hl : l.length ≤ 9223372036854775807) (st : List O) : Duo.Call Tryz.prog Tryz.gl 93 [.sl (l.map .str) none, .str c] st (fun v st' => v = .int .i64 (idxL l c) ∧ st' = st) := by
  refine Duo.Call.clo fun hst => ?_
  refine Duo.Call.body 19 [(0, .sl (l.map .str) none), (1, .str c)] Tryz.func93 rfl rfl ?_
  repeat' first
    | refine AW.seqK fun K hK => ?_
    | (refine hK _ _ ?_; clear hK K)
    | refine AW.region ?_
    | refine awL_nil ?_
    | refine awL_S1 rfl rfl (by simp (disch := omega) only [go_sem, ↓reduceIte, Nat.reduceEqDiff, Nat.reduceAdd, Nat.reduceLeDiff, Nat.reduceMul, Nat.reduceSub, Nat.reduceLT]; rfl) ?_
    | (refine AW.condK _ rfl (fun hb => ?_) (fun hb => ?_) <;> (try simp only [Int.ofNat_inj, not_true_eq_false, not_false_eq_true, Bool.false_eq_true, Bool.true_eq_false, decide_eq_true_eq, decide_eq_false_iff_not, Bool.not_eq_true, Bool.not_eq_false, Bool.not_eq_true', Bool.not_eq_false', Int.not_lt, Int.not_le, ne_eq, Decidable.not_not, List.length_map, Bool.and_eq_true, Bool.or_eq_true, Bool.and_eq_false_imp, Int.ofNat_lt, Int.ofNat_le] at hb) <;> try (exfalso; omega))
    | refine AW.block ?_
    | refine bq_s ?_
    | refine bq_o rfl ?_
    | refine tq_e ?_
    | refine AW.exit ?_
    | refine AW.skip ?_
    | refine useK (by assumption) ?_
    | (refine AW.loopS (α := { i : Nat // i ≤ l.length ∧ c ∉ l.take i }) 19 (fun i => [(0, .sl (l.map .str) none), (1, .str c), (7, .int .i64 l.length), (8, .int .i64 (i.1 : Nat))]) (fun i => st) (fun i => l.length - i.1) ⟨0, Nat.zero_le _, by simp⟩ rfl ?_ ?_ ?_; (focus (simp (disch := omega) only [go_sem, ↓reduceIte, Nat.reduceEqDiff, Nat.reduceAdd, Nat.reduceLeDiff, Nat.reduceMul, Nat.reduceSub, Nat.reduceLT]; done)); (focus (simp (disch := omega) only [go_sem, ↓reduceIte, Nat.reduceEqDiff, Nat.reduceAdd, Nat.reduceLeDiff, Nat.reduceMul, Nat.reduceSub, Nat.reduceLT]; done)); rintro ⟨i, hi, hni⟩ hlc; dsimp only)
    | (refine ⟨⟨i + 1, by omega, notin_step hni (by omega) (fun h => absurd h.symm (by assumption))⟩, by simp only []; omega, _, Nat.le_refl _, Nat.le_of_ble_eq_true rfl, ?_, ?_⟩ <;> (simp (disch := omega) only [go_sem, ↓reduceIte, Nat.reduceEqDiff, Nat.reduceAdd, Nat.reduceLeDiff, Nat.reduceMul, Nat.reduceSub, Nat.reduceLT, List.length_append, hlc.trim, hlc.trim_append, trimS_app hst]))
    | (refine AW.ret ?_; show (_ ∨ _) ∧ _; refine ⟨.inr rfl, ?_⟩; show resP _ _ _ [.tmp 4] _; simp (disch := omega) only [go_sem, ↓reduceIte, Nat.reduceEqDiff, Nat.reduceAdd, Nat.reduceLeDiff, Nat.reduceMul, Nat.reduceSub, Nat.reduceLT]; refine ⟨_, _, _, Nat.le_refl _, V.le_refl _ _, StLe.refl _, ?_⟩; (try simp (disch := omega) only [go_sem, ↓reduceIte, Nat.reduceEqDiff, Nat.reduceAdd, Nat.reduceLeDiff, Nat.reduceMul, Nat.reduceSub, Nat.reduceLT, hst.trim, hst.trim_append]))
  all_goals first | (rw [idxL_at hni (by omega) (Eq.symm (by assumption))]; done) | (rw [idxL_none (by rwa [List.take_of_length_le (by omega)] at hni)]; done) | trace_state
set_option maxRecDepth 100000 in
set_option maxHeartbeats 8000000 in
theorem contains_spec (l : List Str) (c : Str) (hl : l.length ≤ 9223372036854775807) (st : List O) : Duo.Call Tryz.prog Tryz.gl 58 [.sl (l.map .str) none, .str c] st (fun v st' => v = .bool (decide (c ∈ l)) ∧ st' = st) := by
  refine Duo.Call.clo fun hst => ?_
  refine Duo.Call.body 9 [(0, .sl (l.map .str) none), (1, .str c)] Tryz.func58 rfl rfl ?_
  repeat' first
    | refine AW.seqK fun K hK => ?_
    | (refine hK _ _ ?_; clear hK K)
    | refine AW.region ?_
    | refine awL_call rfl (by first | exact ent93) (by simp only [go_sem, ↓reduceIte, Nat.reduceEqDiff, Nat.reduceAdd, Nat.reduceLeDiff, Nat.reduceMul, Nat.reduceSub, Nat.reduceLT]; rfl) (by first | exact index_spec _ _ hl _) rfl ?_
    | refine awL_nil ?_
    | refine awL_S1 rfl rfl (by simp (disch := omega) only [go_sem, ↓reduceIte, Nat.reduceEqDiff, Nat.reduceAdd, Nat.reduceLeDiff, Nat.reduceMul, Nat.reduceSub, Nat.reduceLT]; rfl) ?_
    | (refine AW.condK _ rfl (fun hb => ?_) (fun hb => ?_) <;> (try simp only [Int.ofNat_inj, not_true_eq_false, not_false_eq_true, Bool.false_eq_true, Bool.true_eq_false, decide_eq_true_eq, decide_eq_false_iff_not, Bool.not_eq_true, Bool.not_eq_false, Bool.not_eq_true', Bool.not_eq_false', Int.not_lt, Int.not_le, ne_eq, Decidable.not_not, List.length_map, Bool.and_eq_true, Bool.or_eq_true, Bool.and_eq_false_imp, Int.ofNat_lt, Int.ofNat_le] at hb) <;> try (exfalso; omega))
    | refine AW.skip ?_
    | refine useK (by assumption) ?_
    | (refine AW.ret ?_; show (_ ∨ _) ∧ _; refine ⟨.inr rfl, ?_⟩; show resP _ _ _ [.tmp 4] _; simp (disch := omega) only [go_sem, ↓reduceIte, Nat.reduceEqDiff, Nat.reduceAdd, Nat.reduceLeDiff, Nat.reduceMul, Nat.reduceSub, Nat.reduceLT]; refine ⟨_, _, _, Nat.le_refl _, V.le_refl _ _, StLe.refl _, ?_⟩; (try simp (disch := omega) only [go_sem, ↓reduceIte, Nat.reduceEqDiff, Nat.reduceAdd, Nat.reduceLeDiff, Nat.reduceMul, Nat.reduceSub, Nat.reduceLT, hst.trim, hst.trim_append]))
  all_goals (rw [idxL_ge])
theorem containsT_spec (s : Str) (l : List Str) (tk : Option Nat) (hl : l.length ≤ 9223372036854775807) (st : List O) : Duo.Call Tryz.prog Tryz.gl 58 [.sl (l.map .str) tk, .str s] st (fun v st' => v = .bool (decide (s ∈ l)) ∧ st' = st) :=
  Duo.Call.argle (show CLe _ [_, _] [_, _] from ⟨V.le_sl _ _ _, V.le_refl _ _, trivial⟩) (contains_spec l s hl st)
theorem appc_spec (p : Pr) (t : Tb) (hz : p.sz ≤ 1000000) (ht : tyS p) (ha : smA p) (ho : okTb t) (st : List O) (hst : Clo st) : Duo.Call Tryz.prog Tryz.gl 59 [.map (st.length + 2), encP p] (st ++ [.box 29 (encP p).cells, .box 29 ZP, .map (keysT t) (valsT t)]) (fun v st' => v = encP (subP t p) ∧ st' = st ++ [.box 29 (encP p).cells, .box 29 ZP, .dead]) := by
  refine Duo.Call.fmIn (st.length + 2) (keysT t) (valsT t) (by simp) (valsT_pure _) ?_
  rw [fm_st2 hst]
  have h := sub_spec p t hz ht ha ho (st ++ [.box 29 (encP p).cells, .box 29 ZP, .dead])
  simp only [List.map_cons, List.map_nil, V.fm, if_true, fm_encP, O.fm, fm_P]
  exact h
theorem putZ {t : Tb} {s : Str} {v : Vl} (h : s ∉ t.map Prod.fst) : tput t s v = t ++ [(s, v)] := by
  induction t with
  | nil => rfl
  | cons p t ih =>
    obtain ⟨k, x⟩ := p
    simp only [List.map_cons, List.mem_cons, not_or] at h
    rw [tput, if_neg h.1, ih h.2]; rfl
theorem zip_at {ks : List Str} {vs : List Vl} {i : Nat} (h : i < ks.length) (h2 : i < vs.length) (hn : ks[i] ∉ ks.take i) : tput ((ks.take i).zip (vs.take i)) ks[i] vs[i] = (ks.take (i + 1)).zip (vs.take (i + 1)) := by
  rw [putZ, take_at h, take_at h2, List.zip_append (by rw [List.length_take, List.length_take]; omega)]
  · rfl
  · intro hm
    obtain ⟨q, hq, he⟩ := List.mem_map.1 hm
    exact hn (he ▸ (List.of_mem_zip (a := q.1) (b := q.2) hq).1)
theorem not_before {ks : List Str} (hn : ks.Nodup) {i : Nat} (h : i < ks.length) : ks[i] ∉ ks.take i := fun hm => by
  rw [List.mem_take_iff_getElem] at hm
  obtain ⟨j, hj, he⟩ := hm
  have := (List.getElem_inj hn).1 he
  omega
set_option maxRecDepth 100000 in
set_option maxHeartbeats 8000000 in
theorem apply_spec (p : Pr) (l : List Str) (vs : List Vl) (hz : p.sz ≤ 1000000) (ht : tyS p) (ha : smA p) (ho : okTb (l.zip vs)) (hlv : l.length = vs.length) (hl : l.length ≤ 9223372036854775807) (hnd : l.Nodup) (st : List O) : Duo.Call Tryz.prog Tryz.gl 18 [encP p, .sl (l.map .str) none, .sl (vs.map encV) none] st (fun v st' => v = .tuple [encP (subP (l.zip vs) p), .int .i64 0] ∧ st' = st) := by
  refine Duo.Call.clo fun hst => ?_
  refine Duo.Call.body 48 [(0, encP p), (1, .sl (l.map .str) none), (2, .sl (vs.map encV) none)] Tryz.func18 rfl rfl ?_
  repeat' first
    | refine AW.seqK fun K hK => ?_
    | (refine hK _ _ ?_; clear hK K)
    | refine AW.region ?_
    | refine awL_call rfl (by first | exact ent58 | exact ent59) (by simp only [go_sem, ↓reduceIte, Nat.reduceEqDiff, Nat.reduceAdd, Nat.reduceLeDiff, Nat.reduceMul, Nat.reduceSub, Nat.reduceLT, List.length_map]; rfl) (by first | exact containsT_spec _ _ _ (by rw [List.length_take]; omega) _ | exact (by have e1 : l.take i = l := List.take_of_length_le (by omega); have e2 : vs.take i = vs := List.take_of_length_le (by omega); rw [e1, e2]; exact appc_spec p (l.zip vs) hz ht ha ho st hst)) rfl ?_
    | refine awL_nil ?_
    | (refine awL_gno rfl ?_ rfl ?_; focus (simp only [S0, ↓reduceIte, Nat.reduceEqDiff, Bool.not_true, Bool.not_false]; done))
    | (refine awL_gyes rfl ?_ ?_; focus (simp only [S0, ↓reduceIte, Nat.reduceEqDiff, Bool.not_true, Bool.not_false]; done))
    | refine awL_hole rfl rfl rfl rfl ?_
    | (refine awL_gcase rfl rfl (fun hg => ?_) (fun hg => ?_) <;> (rw [hg]; (try simp only [Int.ofNat_inj, not_true_eq_false, not_false_eq_true, Bool.false_eq_true, Bool.true_eq_false, decide_eq_true_eq, decide_eq_false_iff_not, Bool.not_eq_true, Bool.not_eq_false, Bool.not_eq_true', Bool.not_eq_false', Int.not_lt, Int.not_le, ne_eq, Decidable.not_not, List.length_map, Bool.and_eq_true, Bool.or_eq_true, Bool.and_eq_false_imp, Int.ofNat_lt, Int.ofNat_le] at hg); try (exfalso; omega)))
    | refine awL_S1 rfl rfl (by simp (disch := omega) only [go_sem, ↓reduceIte, Nat.reduceEqDiff, Nat.reduceAdd, Nat.reduceLeDiff, Nat.reduceMul, Nat.reduceSub, Nat.reduceLT, List.length_map]; rfl) ?_
    | (refine AW.condK _ rfl (fun hb => ?_) (fun hb => ?_) <;> (try simp only [Int.ofNat_inj, not_true_eq_false, not_false_eq_true, Bool.false_eq_true, Bool.true_eq_false, decide_eq_true_eq, decide_eq_false_iff_not, Bool.not_eq_true, Bool.not_eq_false, Bool.not_eq_true', Bool.not_eq_false', Int.not_lt, Int.not_le, ne_eq, Decidable.not_not, List.length_map, Bool.and_eq_true, Bool.or_eq_true, Bool.and_eq_false_imp, Int.ofNat_lt, Int.ofNat_le] at hb) <;> try (exfalso; omega))
    | refine AW.block ?_
    | refine bq_s ?_
    | refine bq_o rfl ?_
    | refine tq_e ?_
    | refine AW.exit ?_
    | refine AW.skip ?_
    | refine useK (by assumption) ?_
    | (refine AW.loopS (α := { i : Nat // i ≤ l.length }) 48 (fun i => [(1, .sl (l.map .str) none), (2, .sl (vs.map encV) none), (3, .ptr st.length 0), (6, .ptr (st.length + 1) 0), (8, .map (st.length + 2)), (12, .sl (l.map .str) none), (13, .int .i64 l.length), (14, .int .i64 (i.1 : Nat))]) (fun i => st ++ [.box 29 (encP p).cells, .box 29 ZP, .map (keysT ((l.take i.1).zip (vs.take i.1))) (valsT ((l.take i.1).zip (vs.take i.1)))]) (fun i => l.length - i.1) ⟨0, Nat.zero_le _⟩ rfl ?_ ?_ ?_; (focus (simp (disch := omega) only [go_sem, ↓reduceIte, Nat.reduceEqDiff, Nat.reduceAdd, Nat.reduceLeDiff, Nat.reduceMul, Nat.reduceSub, Nat.reduceLT, List.take_zero, List.zip_nil_left, keysT, valsT, List.map_nil]; done)); (focus (simp (disch := omega) only [go_sem, ↓reduceIte, Nat.reduceEqDiff, Nat.reduceAdd, Nat.reduceLeDiff, Nat.reduceMul, Nat.reduceSub, Nat.reduceLT, List.take_zero, List.zip_nil_left, keysT, valsT, List.map_nil]; done)); rintro ⟨i, hi⟩ hlc; dsimp only)
    | (have huk := zip_at (ks := l) (vs := vs) (i := i) (by assumption) (by omega) (not_before hnd (by assumption)); refine ⟨⟨i + 1, by omega⟩, by simp only []; omega, _, Nat.le_refl _, Nat.le_of_ble_eq_true rfl, ?_, ?_⟩ <;> (simp (disch := omega) only [go_sem, ↓reduceIte, Nat.reduceEqDiff, Nat.reduceAdd, Nat.reduceLeDiff, Nat.reduceMul, Nat.reduceSub, Nat.reduceLT, huk, List.length_append, hlc.trim, hlc.trim_append, trimS_app hst]))
    | (refine AW.ret ?_; show (_ ∨ _) ∧ _; refine ⟨.inr rfl, ?_⟩; show resP _ _ _ [.cell 6 29, .tmp 7] _; simp (disch := omega) only [go_sem, ↓reduceIte, Nat.reduceEqDiff, Nat.reduceAdd, Nat.reduceLeDiff, Nat.reduceMul, Nat.reduceSub, Nat.reduceLT, List.length_map]; refine ⟨_, _, _, Nat.le_refl _, V.le_refl _ _, StLe.refl _, ?_⟩; (try simp (disch := omega) only [go_sem, ↓reduceIte, Nat.reduceEqDiff, Nat.reduceAdd, Nat.reduceLeDiff, Nat.reduceMul, Nat.reduceSub, Nat.reduceLT, List.length_map, hst.trim, hst.trim_append]))
  all_goals (first | (exact (not_before hnd (i := i) (by omega) (by assumption)).elim) | trace_state)
theorem nwL (i : Nat) (x : V) : (i < (List.map V.str (news i) ++ [x]).length) = True := by simp [news_len]
theorem nwD (i : Nat) (x : V) : (List.map V.str (news i) ++ [x]).getD i V.undef = x := by simp [List.getD, List.getElem?_append_right, news_len]
theorem encNm (s : Str) : encV (nmV s) = .agg [.int .i64 1, .str s, .int .i64 0] := rfl
theorem nw_mk (i : Nat) : nw i = 36 :: Lib.itoa (i : Int) := rfl
theorem le_n1 (st : List O) (a c d : O) (e : TypeId) (sz : Nat) : V.le (st ++ [a, .tok e sz 0, c, d]) .nil (.sl [] (some (st.length + 1))) = True := eq_true (V.le_nil_tok (e := e) (sz := sz) (by simp))
theorem le_n2 (st : List O) (a b d : O) (e : TypeId) (sz : Nat) : V.le (st ++ [a, b, .tok e sz 0, d]) .nil (.sl [] (some (st.length + 2))) = True := eq_true (V.le_nil_tok (e := e) (sz := sz) (by simp))
theorem le_n3 (st : List O) (a b c : O) (e : TypeId) (sz : Nat) : V.le (st ++ [a, b, c, .tok e sz 0]) .nil (.sl [] (some (st.length + 3))) = True := eq_true (V.le_nil_tok (e := e) (sz := sz) (by simp))
theorem applyO_spec (p : Pr) (hp : okP p) (hz : p.sz ≤ 300) (ht : tyS p) (ha : smA p) (hl : (freeS p).length ≤ 600000300) (hT : nmTb (outT p)) (tk : Option Nat) (st : List O) : Duo.Call Tryz.prog Tryz.gl 18 [encP p, .sl ((freeS p).map .str) none, .sl (((news (freeS p).length).map nmV).map encV) tk] st (fun v st' => v = .tuple [encP (subP (outT p) p), .int .i64 0] ∧ st' = st) :=
  Duo.Call.argle (show CLe _ [_, _, _] [_, _, _] from ⟨V.le_refl _ _, V.le_refl _ _, V.le_sl _ _ _, trivial⟩) <| apply_spec p (freeS p) ((news (freeS p).length).map nmV) (by omega) ht ha hT.ok (by rw [List.length_map, news_len]) (by omega) (dedS_nodup _) st
theorem applyB_spec (q p : Pr) (hz : q.sz ≤ 300) (ht : tyS q) (ha : smA q) (hl : (freeS p).length ≤ 600000300) (hT : nmTb (bakT p)) (t1 t2 : Option Nat) (st : List O) : Duo.Call Tryz.prog Tryz.gl 18 [encP q, .sl ((news (freeS p).length).map .str) t1, .sl (((freeS p).map nmV).map encV) t2] st (fun v st' => v = .tuple [encP (subP (bakT p) q), .int .i64 0] ∧ st' = st) :=
  Duo.Call.argle (show CLe _ [_, _, _] [_, _, _] from ⟨V.le_refl _ _, V.le_sl _ _ _, V.le_sl _ _ _, trivial⟩) <| apply_spec q (news (freeS p).length) ((freeS p).map nmV) (by omega) ht ha hT.ok (by rw [List.length_map, news_len]) (by rw [news_len]; omega) (news_nodup (by omega)) st
theorem texts3t_spec (a b : List Str) (tk : Option Nat) (hn : a.length ≤ 9223372036854775807) (st : List O) : Duo.Call Tryz.prog Tryz.gl 19 [.sl (a.map .str) none, .sl (b.map .str) tk] st (fun v st' => v = .bool (decide (a = b)) ∧ st' = st) :=
  Duo.Call.argle (show CLe _ [_, _] [_, _] from ⟨V.le_refl _ _, V.le_sl _ _ _, trivial⟩) (texts3_spec a b hn st)
set_option maxRecDepth 100000 in
set_option maxHeartbeats 8000000 in
theorem free_law_spec (p : Pr) (hp : okP p) (ha : smA p) (st : List O) : Duo.Call Tryz.prog Tryz.gl 3 [encP p] st (fun v st' => v = .bool true ∧ st' = st) := by
  refine Duo.Call.clo fun hst => ?_
  have hul := uses_len p [] ha
  have hdl := dedS_len (usesP p [])
  have hfl : (freeS p).length ≤ (usesP p []).length := hdl
  refine Duo.Call.body 108 [(0, encP p)] Tryz.func3 rfl rfl ?_
  repeat' first
    | refine AW.seqK fun K hK => ?_
    | (refine hK _ _ ?_; clear hK K)
    | refine AW.region ?_
    | refine awL_call rfl (by first | exact ent13 | exact ent14 | exact ent15 | exact ent16 | exact ent17 | exact ent18 | exact ent19 | exact ent20) (by simp only [go_sem, ↓reduceIte, Nat.reduceEqDiff, Nat.reduceAdd, Nat.reduceLeDiff, Nat.reduceMul, Nat.reduceSub, Nat.reduceLT, nwL, nwD]; rfl) (by first | exact awake_spec _ | exact pfew_spec p _ (by omega) (by omega) hp _ | exact rightP_spec p hp hfew.2.2 (by omega) _ | exact free_spec p (by omega) (by omega) ha _ | exact decimal_spec _ (by omega) (by omega) _ | exact applyO_spec p hp (by omega) hfew.2.2 ha (by omega) hoT _ _ | exact pfew_spec (subP (outT p) p) _ (by omega) (by omega) hq1 _ | exact free_spec (subP (outT p) p) (by rw [sub_sz]; omega) (by rw [sub_dp]; omega) (sub_smA _ _ ha) _ | exact texts3t_spec (freeS (subP (outT p) p)) (news (freeS p).length) _ (by rw [hlaw.1, news_len]; omega) _ | exact applyB_spec (subP (outT p) p) p (by rw [sub_sz]; omega) (sub_tyS _ _ hfew.2.2) (sub_smA _ _ ha) (by omega) hbT _ _ _ | exact applyB_spec p p (by omega) hfew.2.2 ha (by omega) hbT _ _ _ | exact same3_spec (subP (bakT p) p) _ (sub_okP _ _ hbT hp) _ | exact same3_spec (subP (bakT p) (subP (outT p) p)) _ (sub_okP _ _ hbT hq1) _) rfl ?_
    | refine awL_nil ?_
    | ((fail_if_success (clear hfw)); have hfew := few_of (by assumption : fewPr p 300 = true); have hfw : True := trivial; have hfl2 : (freeS p).length ≤ 600000300 := (by omega); have hoT := outT_ok (p := p) (by omega); have hbT := bakT_ok hp; have hq1 := sub_okP p _ hoT hp)
    | ((fail_if_success (clear hfx)); have hnod := right_nodes (by assumption : rightP p = 0); have hlaw := free_law hnod (by omega); have hfx : True := trivial)
    | ((fail_if_success (clear hjn)); (rcases Nat.lt_or_ge i (freeS p).length with hq | hq; focus (exfalso; omega)); (have hin := Nat.le_antisymm hi hq); subst hin; have hjn : True := trivial; have etl : (freeS p).take (freeS p).length = freeS p := List.take_length; rw [etl])
    | (refine awL_gno rfl ?_ rfl ?_; focus (simp only [S0, ↓reduceIte, Nat.reduceEqDiff, Bool.not_true, Bool.not_false]; done))
    | (refine awL_gyes rfl ?_ ?_; focus (simp only [S0, ↓reduceIte, Nat.reduceEqDiff, Bool.not_true, Bool.not_false]; done))
    | refine awL_hole rfl rfl rfl rfl ?_
    | (refine awL_gcase rfl rfl (fun hg => ?_) (fun hg => ?_) <;> (rw [hg]; (try simp only [Int.ofNat_inj, not_true_eq_false, not_false_eq_true, Bool.false_eq_true, Bool.true_eq_false, decide_eq_true_eq, decide_eq_false_iff_not, Bool.not_eq_true, Bool.not_eq_false, Bool.not_eq_true', Bool.not_eq_false', Int.not_lt, Int.not_le, ne_eq, Decidable.not_not, List.length_map, Bool.and_eq_true, Bool.or_eq_true, Bool.and_eq_false_imp, Int.ofNat_lt, Int.ofNat_le] at hg); try (exfalso; omega)))
    | refine awL_S1 rfl rfl (by simp (disch := omega) only [go_sem, ↓reduceIte, Nat.reduceEqDiff, Nat.reduceAdd, Nat.reduceLeDiff, Nat.reduceMul, Nat.reduceSub, Nat.reduceLT, nwL, nwD]; rfl) ?_
    | (refine AW.condK _ rfl (fun hb => ?_) (fun hb => ?_) <;> (try simp only [Int.ofNat_inj, not_true_eq_false, not_false_eq_true, Bool.false_eq_true, Bool.true_eq_false, decide_eq_true_eq, decide_eq_false_iff_not, Bool.not_eq_true, Bool.not_eq_false, Bool.not_eq_true', Bool.not_eq_false', Int.not_lt, Int.not_le, ne_eq, Decidable.not_not, List.length_map, Bool.and_eq_true, Bool.or_eq_true, Bool.and_eq_false_imp, Int.ofNat_lt, Int.ofNat_le] at hb) <;> try (exfalso; omega))
    | refine AW.block ?_
    | refine bq_s ?_
    | refine bq_o rfl ?_
    | refine tq_e ?_
    | refine AW.exit ?_
    | refine AW.skip ?_
    | refine useK (by assumption) ?_
    | (refine AW.tok 9 1 ?_; refine AW.tok 36 3 ?_; refine AW.tok 36 3 ?_; rw [List.append_assoc, List.append_assoc, List.append_assoc]; simp only [List.cons_append, List.nil_append]; refine AW.loopS (α := { i : Nat // i ≤ (freeS p).length }) 108 (fun i => [(1, .ptr st.length 0), (3, .sl ((freeS p).map .str) none), (6, .sl ((news i.1).map .str) (some (st.length + 1))), (4, .sl (((news i.1).map nmV).map encV) (some (st.length + 2))), (5, .sl ((((freeS p).take i.1).map nmV).map encV) (some (st.length + 3))), (7, .int .i64 (i.1 : Nat))]) (fun i => st ++ [.box 29 (encP p).cells, .tok 9 1 (news i.1).length, .tok 36 3 ((news i.1).map nmV).length, .tok 36 3 (((freeS p).take i.1).map nmV).length]) (fun i => (freeS p).length - i.1) ⟨0, Nat.zero_le _⟩ rfl ?_ ?_ ?_; (focus (simp (disch := omega) only [go_sem, ↓reduceIte, Nat.reduceEqDiff, Nat.reduceAdd, Nat.reduceLeDiff, Nat.reduceMul, Nat.reduceSub, Nat.reduceLT, le_n1, le_n2, le_n3, news, List.range_zero, List.take_zero, List.map_nil, List.length_nil]; done)); (focus (simp (disch := omega) only [go_sem, ↓reduceIte, Nat.reduceEqDiff, Nat.reduceAdd, Nat.reduceLeDiff, Nat.reduceMul, Nat.reduceSub, Nat.reduceLT, le_n1, le_n2, le_n3, news, List.range_zero, List.take_zero, List.map_nil, List.length_nil]; done)); rintro ⟨i, hi⟩ hlc; dsimp only; have hnl := news_len i; have htl : ((freeS p).take i).length = i := (by rw [List.length_take]; omega); have hil := Lib.itoa_length_le (i : Int) (by omega) (by omega))
    | (refine ⟨⟨i + 1, by omega⟩, by simp only []; omega, _, Nat.le_refl _, Nat.le_of_ble_eq_true rfl, ?_, ?_⟩ <;> (simp (disch := omega) only [go_sem, ↓reduceIte, Nat.reduceEqDiff, Nat.reduceAdd, Nat.reduceLeDiff, Nat.reduceMul, Nat.reduceSub, Nat.reduceLT, news_take, encNm, nw_mk, take_at, List.map_append, List.map_cons, List.map_nil, List.length_append, List.length_cons, List.length_nil, List.length_map, List.length_append, hlc.trim, hlc.trim_append, trimS_app hst]))
    | (refine AW.ret ?_; show (_ ∨ _) ∧ _; refine ⟨.inr rfl, ?_⟩; show resP _ _ _ [.tmp 2] _; simp (disch := omega) only [go_sem, ↓reduceIte, Nat.reduceEqDiff, Nat.reduceAdd, Nat.reduceLeDiff, Nat.reduceMul, Nat.reduceSub, Nat.reduceLT, nwL, nwD]; refine ⟨_, _, _, Nat.le_refl _, V.le_refl _ _, StLe.refl _, ?_⟩; (try simp (disch := omega) only [go_sem, ↓reduceIte, Nat.reduceEqDiff, Nat.reduceAdd, Nat.reduceLeDiff, Nat.reduceMul, Nat.reduceSub, Nat.reduceLT, nwL, nwD, hst.trim, hst.trim_append]))
  all_goals (first | (simp_all [sub_few, sameP_rfl]; done) | trace_state)
end Tryz
end Go.Proofs
