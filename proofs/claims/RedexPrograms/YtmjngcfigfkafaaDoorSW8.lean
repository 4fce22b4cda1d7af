/-
  A part of the proof.
-/
import Derived.Test.YtmjngcfigfkafaaDoorLib
import Derived.Test.YtmjngcfigfkafaaDoorSFacts
import Derived.Test.YtmjngcfigfkafaaDoorData
import Derived.Test.YtmjngcfigfkafaaDoorDKit
import Derived.Test.YtmjngcfigfkafaaDoorSW4
import Derived.Test.YtmjngcfigfkafaaDoorSW7
set_option linter.all false
namespace Go.Proofs
open Go Go.Duo
namespace Tryd
set_option maxHeartbeats 8000000 in
theorem plist_spec (l : List Pr) (ch : V) (hch : rowOK ch) (hn : l.length ≤ 1000000) (hL : ∀ x ∈ l, hasL x) (hC : ∀ x ∈ l, x.chan.length ≤ 2147483647) (st : List O) : Duo.Call Tryd.prog Tryd.gl 19 [.agg [.sl (l.map encP) none, ch]] st (fun v st' => v = .sl ((listL l).map encR) none ∧ st' = st) := by
  refine Duo.Call.clo fun hst => ?_
  refine Duo.Call.real fun hr => ?_
  refine Duo.Call.body 19 [(0, .agg [.sl (l.map encP) none, ch])] Tryd.func19 rfl rfl ?_
  refine AW.seqK fun K1 hK1 => ?_
  refine AW.region ?_
  refine awL_k rfl rfl fun K2 h2 => ?_
  simp (disch := omega) only [S0, step1, reduceIte, S3, S1, rowOK.one hch, one_sl]
  refine h2 _ _ ?_
  clear h2 K2
  refine awL_k rfl rfl fun K3 h3 => ?_
  simp (disch := omega) only [S0, step1]
  refine h3 _ _ ?_
  clear h3 K3
  refine hK1 _ _ ?_
  clear hK1 K1
  refine AW.seqK fun K4 hK4 => ?_
  refine AW.region ?_
  refine awL_k rfl rfl fun K5 h5 => ?_
  simp (disch := omega) only [step1, Tryd.zro47, S2, LB, List.cons_append, List.nil_append]
  refine h5 _ _ ?_
  clear h5 K5
  refine hK4 _ _ ?_
  clear hK4 K4
  refine AW.seqK fun K6 hK6 => ?_
  refine AW.seqK fun K7 hK7 => ?_
  refine AW.region ?_
  refine awL_k rfl rfl fun K8 h8 => ?_
  simp (disch := omega) only [S0, step1, reduceIte, Nat.reduceEqDiff, loadP, Tryd.lay45, pack, S1, Nat.reduceAdd, S2, LB]
  refine h8 _ _ ?_
  clear h8 K8
  refine awL_k rfl rfl fun K9 h9 => ?_
  show ent _ _ = true ∧ _
  simp only [S0, reduceIte, Nat.reduceEqDiff, List.nil_append, List.append_nil, List.map]
  refine ⟨Tryd.ent44, Duo.Call.mono (seq_spec _ _ (by assumption) _) ?_⟩
  rintro _ _ ⟨rfl, hcs⟩
  obtain rfl := hcs.symm
  refine h9 _ _ ?_
  clear h9 K9
  refine hK7 _ _ ?_
  clear hK7 K7
  refine AW.block ?_
  refine AW.tok 68 4 ?_
  rw [List.append_assoc]
  refine AW.pre (Env.le_refl _ _) (StLe.app (l' := [.box 45 [.sl (l.map encP) none, ch], .box 47 [.sl [] (some (st.length + 2))], .tok 68 4 0]) (show OLe _ [_, _, _] [_, _, _] from ⟨O.le_refl _ _, O.le_box (show CLe _ [_] [_] from ⟨V.le_nil_tok (by rw [st_get]; rfl), trivial⟩), O.le_refl _ _, trivial⟩)) ?_
  refine AW.rangeFn ((meetsL l).map (encM l)) (fun n st' => st' = st ++ [.box 45 [.sl (l.map encP) none, ch], .box 47 [.sl ((fmL l (rxP l) n).map encR) (some (st.length + 2))], .tok 68 4 (fmL l (rxP l) n).length]) (fun _ _ => False) rfl Tryd.ent70 (by intro v hv; rw [List.mem_singleton.1 hv]; exact ⟨PureV.dptr _, rfl⟩) (by intro p hp; rw [List.mem_singleton.1 hp]; exact Nat.le_of_ble_eq_true rfl) (by intro x hx; obtain ⟨ab, _, rfl⟩ := List.mem_map.1 hx; rfl) (Duo.Call.mono (meetings_spec l ch.bare hn hC) (fun _ _ h => h)) rfl ?_ ?_ (fun _ _ h => h.elim)
  · skip
    rintro lp n x st1 hx rfl
    obtain ⟨a, b, hab, rfl⟩ := encM_at hx
    obtain ⟨ha, hb, hne⟩ := mem_meets hab
    have hbn := fmL_len (rxP l) n hn
    show AW _ _ _ _ _ (Env.put _ (some 7) (.agg (mCells l a b))) _
    rw [mCells_eq ha hb]
    refine AW.region ?_
    refine awL_k rfl rfl fun K10 h10 => ?_
    simp (disch := omega) only [step1, Tryd.zro96, S2, LB, List.cons_append, List.nil_append]
    refine h10 _ _ ?_
    clear h10 K10
    refine awL_k rfl rfl fun K11 h11 => ?_
    simp (disch := omega) only [S0, step1, reduceIte, Nat.reduceEqDiff, storeP, Tryd.lay96, splice, S3, V.one, S1, Nat.reduceAdd, S2, PB, LB, MB]
    refine h11 _ _ ?_
    clear h11 K11
    refine ⟨rfl, ?_⟩
    refine AW.block ?_
    refine AW.seqK fun K12 hK12 => ?_
    refine AW.region ?_
    refine awL_k rfl rfl fun K13 h13 => ?_
    simp (disch := omega) only [S0, step1, reduceIte, Nat.reduceEqDiff, faP, Tryd.fld96_1, Nat.zero_lt_succ, S1, Nat.reduceAdd, LB]
    refine h13 _ _ ?_
    clear h13 K13
    refine awL_k rfl rfl fun K14 h14 => ?_
    simp (disch := omega) only [S0, step1, reduceIte, Nat.reduceEqDiff, loadP, Tryd.lay29, pack, S1, Nat.reduceAdd, Nat.reduceLeDiff, S2, PB, LB, MB]
    refine h14 _ _ ?_
    clear h14 K14
    refine awL_k rfl rfl fun K15 h15 => ?_
    simp (disch := omega) only [S0, step1, reduceIte, Nat.reduceEqDiff, faP, Tryd.fld96_2, Nat.zero_lt_succ, S1, Nat.reduceAdd, LB]
    refine h15 _ _ ?_
    clear h15 K15
    refine awL_k rfl rfl fun K16 h16 => ?_
    simp (disch := omega) only [S0, step1, reduceIte, Nat.reduceEqDiff, loadP, Tryd.lay29, pack, S1, Nat.reduceAdd, S2, PB, LB, MB]
    refine h16 _ _ ?_
    clear h16 K16
    refine awL_k rfl rfl fun K17 h17 => ?_
    show ent _ _ = true ∧ _
    simp only [S0, reduceIte, Nat.reduceEqDiff, List.nil_append, List.append_nil, List.map]
    refine ⟨Tryd.ent45, Duo.Call.mono (match_spec _ _ (by exact hL _ (List.getElem_mem _)) _) ?_⟩
    rintro _ _ ⟨rfl, hcs⟩
    obtain rfl := hcs.symm
    refine h17 _ _ ?_
    clear h17 K17
    refine hK12 _ _ ?_
    clear hK12 K12
    refine AW.condK _ rfl (fun hb18 => ?_) (fun hb18 => ?_)
    · skip
      skip
      refine AW.region ?_
      refine awL_k rfl rfl fun K19 h19 => ?_
      simp (disch := omega) only [S0, step1, reduceIte, Nat.reduceEqDiff, loadP, Tryd.lay47, pack, S1, Nat.reduceAdd, S2, LB]
      refine h19 _ _ ?_
      clear h19 K19
      refine awL_k rfl rfl fun K20 h20 => ?_
      simp (disch := omega) only [S0, step1, reduceIte, Nat.reduceEqDiff, faP, Tryd.fld96_0, Nat.zero_lt_succ, S1, Nat.reduceAdd]
      refine h20 _ _ ?_
      clear h20 K20
      refine awL_k rfl rfl fun K21 h21 => ?_
      simp (disch := omega) only [S0, step1, reduceIte, Nat.reduceEqDiff, loadP, Tryd.lay68, pack, S1, Nat.reduceAdd, Nat.reduceLeDiff, S2, PB, LB, MB]
      refine h21 _ _ ?_
      clear h21 K21
      refine awL_k rfl rfl fun K22 h22 => ?_
      simp (disch := omega) only [S0, step1, reduceIte, Nat.reduceEqDiff, buildSliceP, Tryd.elt47, S1, Nat.reduceAdd, Nat.reduceLeDiff, Nat.reduceMul, S2, V.bare, V.bare.bareL, LB]
      (refine ⟨(by decide), (by ((simp; done))), (by repeat first | exact parts_nil | refine parts_cons ⟨by rfl, by rfl, (by repeat first | exact PureL.nil | refine PureL.cons (by first | exact PureV.int _ _ | exact PureV.bool _) ?_)⟩ ?_), h22 _ _ ?_⟩)
      clear h22 K22
      refine awL_k rfl rfl fun K23 h23 => ?_
      simp (disch := omega) only [S0, step1, reduceIte, Nat.reduceEqDiff, appendP, rowOf, Tryd.elt47, S1, Nat.reduceAdd, S2, LB]
      (refine ⟨(by repeat first | exact els_nil | refine els_cons (by rfl) ?_), (by omega), (by ((simp only [maxLen]; omega))), h23 _ _ ?_⟩)
      clear h23 K23
      refine awL_k rfl rfl fun K24 h24 => ?_
      simp (disch := omega) only [S0, step1, reduceIte, Nat.reduceEqDiff, storeP, Tryd.lay47, splice, S3, V.one, S1, Nat.reduceAdd, S2, LB]
      refine h24 _ _ ?_
      clear h24 K24
      have hp := fmL_some hab (rxP_some ha hb (by assumption))
      exact ⟨st.length + 3, _, by simp, StLe.refl _, by rw [trimS_app hst (by simp)]; simp [O.trim, V.trim, hp, rowOK.trimv hch, encR]⟩
    · skip
      skip
      refine AW.skip ?_
      have hp := fmL_none hab (rxP_none ha hb (by assumption))
      exact ⟨st.length + 3, _, by simp, StLe.refl _, by rw [trimS_app hst (by simp)]; simp [O.trim, V.trim, hp, rowOK.trimv hch]⟩
  · skip
    rintro st1 rfl
    refine hK6 _ _ ?_
    clear hK6 K6
    refine AW.seqK fun K25 hK25 => ?_
    refine AW.region ?_
    refine awL_k rfl rfl fun K26 h26 => ?_
    simp (disch := omega) only [S0, step1, reduceIte, Nat.reduceEqDiff, loadP, Tryd.lay47, pack, S1, S2, LB]
    refine h26 _ _ ?_
    clear h26 K26
    refine awL_k rfl rfl fun K27 h27 => ?_
    simp (disch := omega) only [S0, step1, reduceIte, Nat.reduceEqDiff]
    refine h27 _ _ ?_
    clear h27 K27
    refine hK25 _ _ ?_
    clear hK25 K25
    refine AW.ret ?_
    show (_ ∨ _) ∧ _
    refine ⟨.inr rfl, ?_⟩
    show resP _ _ _ [.tmp 2] _
    simp only [resP, resV, V.trim, S0, reduceIte, Nat.reduceEqDiff]
    refine ⟨_, _, _, Nat.le_refl _, V.le_refl _ _, StLe.refl _, ?_⟩
    exact ⟨by rw [fmL_all, listL_meets, if_neg (by omega)], hst.trim_append _⟩
set_option maxHeartbeats 8000000 in
theorem pclash_spec (l : List Pr) (ch : V) (hch : rowOK ch) (hn : l.length ≤ 1000000) (hL : ∀ x ∈ l, hasL x) (hC : ∀ x ∈ l, x.chan.length ≤ 2147483647) (st : List O) : Duo.Call Tryd.prog Tryd.gl 22 [.agg [.sl (l.map encP) none, ch]] st (fun v st' => v = .sl ((clashL l).map encD) none ∧ st' = st) := by
  refine Duo.Call.clo fun hst => ?_
  refine Duo.Call.real fun hr => ?_
  refine Duo.Call.body 42 [(0, .agg [.sl (l.map encP) none, ch])] Tryd.func22 rfl rfl ?_
  refine AW.seqK fun K1 hK1 => ?_
  refine AW.region ?_
  refine awL_k rfl rfl fun K2 h2 => ?_
  simp (disch := omega) only [S0, step1, reduceIte, S3, S1, rowOK.one hch, one_sl]
  refine h2 _ _ ?_
  clear h2 K2
  refine awL_k rfl rfl fun K3 h3 => ?_
  simp (disch := omega) only [S0, step1]
  refine h3 _ _ ?_
  clear h3 K3
  refine hK1 _ _ ?_
  clear hK1 K1
  refine AW.seqK fun K4 hK4 => ?_
  refine AW.region ?_
  refine awL_k rfl rfl fun K5 h5 => ?_
  simp (disch := omega) only [step1, Tryd.zro52, S2, LB, List.cons_append, List.nil_append]
  refine h5 _ _ ?_
  clear h5 K5
  refine hK4 _ _ ?_
  clear hK4 K4
  refine AW.seqK fun K6 hK6 => ?_
  refine AW.seqK fun K7 hK7 => ?_
  refine AW.region ?_
  refine awL_k rfl rfl fun K8 h8 => ?_
  simp (disch := omega) only [S0, step1, reduceIte, Nat.reduceEqDiff, loadP, Tryd.lay45, pack, S1, Nat.reduceAdd, S2, LB]
  refine h8 _ _ ?_
  clear h8 K8
  refine awL_k rfl rfl fun K9 h9 => ?_
  show ent _ _ = true ∧ _
  simp only [S0, reduceIte, Nat.reduceEqDiff, List.nil_append, List.append_nil, List.map]
  refine ⟨Tryd.ent44, Duo.Call.mono (seq_spec _ _ (by assumption) _) ?_⟩
  rintro _ _ ⟨rfl, hcs⟩
  obtain rfl := hcs.symm
  refine h9 _ _ ?_
  clear h9 K9
  refine hK7 _ _ ?_
  clear hK7 K7
  refine AW.block ?_
  refine AW.tok 73 2 ?_
  rw [List.append_assoc]
  refine AW.pre (Env.le_refl _ _) (StLe.app (l' := [.box 45 [.sl (l.map encP) none, ch], .box 52 [.sl [] (some (st.length + 2))], .tok 73 2 0]) (show OLe _ [_, _, _] [_, _, _] from ⟨O.le_refl _ _, O.le_box (show CLe _ [_] [_] from ⟨V.le_nil_tok (by rw [st_get]; rfl), trivial⟩), O.le_refl _ _, trivial⟩)) ?_
  refine AW.rangeFn ((meetsL l).map (encM l)) (fun n st' => st' = st ++ [.box 45 [.sl (l.map encP) none, ch], .box 52 [.sl ((fmL l (clP l) n).map encD) (some (st.length + 2))], .tok 73 2 (fmL l (clP l) n).length]) (fun _ _ => False) rfl Tryd.ent70 (by intro v hv; rw [List.mem_singleton.1 hv]; exact ⟨PureV.dptr _, rfl⟩) (by intro p hp; rw [List.mem_singleton.1 hp]; exact Nat.le_of_ble_eq_true rfl) (by intro x hx; obtain ⟨ab, _, rfl⟩ := List.mem_map.1 hx; rfl) (Duo.Call.mono (meetings_spec l ch.bare hn hC) (fun _ _ h => h)) rfl ?_ ?_ (fun _ _ h => h.elim)
  · skip
    rintro lp n x st1 hx rfl
    obtain ⟨a, b, hab, rfl⟩ := encM_at hx
    obtain ⟨ha, hb, hne⟩ := mem_meets hab
    have hbn := fmL_len (clP l) n hn
    show AW _ _ _ _ _ (Env.put _ (some 7) (.agg (mCells l a b))) _
    rw [mCells_eq ha hb]
    refine AW.region ?_
    refine awL_k rfl rfl fun K10 h10 => ?_
    simp (disch := omega) only [step1, Tryd.zro96, S2, LB, List.cons_append, List.nil_append]
    refine h10 _ _ ?_
    clear h10 K10
    refine awL_k rfl rfl fun K11 h11 => ?_
    simp (disch := omega) only [S0, step1, reduceIte, Nat.reduceEqDiff, storeP, Tryd.lay96, splice, S3, V.one, S1, Nat.reduceAdd, S2, PB, LB, MB]
    refine h11 _ _ ?_
    clear h11 K11
    refine ⟨rfl, ?_⟩
    refine AW.block ?_
    refine AW.seqK fun K12 hK12 => ?_
    refine AW.region ?_
    refine awL_k rfl rfl fun K13 h13 => ?_
    simp (disch := omega) only [S0, step1, reduceIte, Nat.reduceEqDiff, faP, Tryd.fld96_0, Nat.zero_lt_succ, S1, Nat.reduceAdd]
    refine h13 _ _ ?_
    clear h13 K13
    refine awL_k rfl rfl fun K14 h14 => ?_
    simp (disch := omega) only [S0, step1, reduceIte, Nat.reduceEqDiff, faP, Tryd.fld68_0, Nat.lt_add_one, S1, Nat.reduceAdd]
    refine h14 _ _ ?_
    clear h14 K14
    refine awL_k rfl rfl fun K15 h15 => ?_
    simp (disch := omega) only [S0, step1, reduceIte, Nat.reduceEqDiff, loadP, Tryd.lay3, pack, S1, Nat.reduceAdd, Nat.reduceLeDiff, S2, PB, LB, MB]
    refine h15 _ _ ?_
    clear h15 K15
    refine awL_k rfl rfl fun K16 h16 => ?_
    simp (disch := omega) only [S0, step1, reduceIte, Nat.reduceEqDiff, faP, Tryd.fld96_0, Nat.zero_lt_succ, S1, Nat.reduceAdd]
    refine h16 _ _ ?_
    clear h16 K16
    refine awL_k rfl rfl fun K17 h17 => ?_
    simp (disch := omega) only [S0, step1, reduceIte, Nat.reduceEqDiff, faP, Tryd.fld68_1, Nat.lt_add_one, S1, Nat.reduceAdd, LB]
    refine h17 _ _ ?_
    clear h17 K17
    refine awL_k rfl rfl fun K18 h18 => ?_
    simp (disch := omega) only [S0, step1, reduceIte, Nat.reduceEqDiff, loadP, Tryd.lay3, pack, S1, Nat.reduceAdd, Nat.reduceLeDiff, S2, PB, LB, MB]
    refine h18 _ _ ?_
    clear h18 K18
    refine awL_k rfl rfl fun K19 h19 => ?_
    simp (disch := omega) only [S0, step1, Nat.reduceEqDiff, isNilC, Bool.false_eq_true, binP, intP, true_and, if_true, if_false]
    refine h19 _ _ ?_
    clear h19 K19
    refine awL_k rfl rfl fun K20 h20 => ?_
    simp (disch := omega) only [S0, step1, reduceIte, Nat.reduceEqDiff]
    refine h20 _ _ ?_
    clear h20 K20
    refine awL_case 15 rfl (fun hg21 => ?_) (fun hg21 => ?_)
    · rw [hg21]
      simp only [decide_eq_true_eq, Int.ofNat_lt] at hg21
      refine awL_kyes rfl rfl rfl rfl fun K22 h22 => ?_
      simp (disch := omega) only [S0, step1, reduceIte, Nat.reduceEqDiff, faP, Tryd.fld96_1, Nat.zero_lt_succ, S1, Nat.reduceAdd, LB]
      refine h22 _ _ ?_
      clear h22 K22
      refine awL_kyes rfl rfl rfl rfl fun K23 h23 => ?_
      simp (disch := omega) only [S0, step1, reduceIte, Nat.reduceEqDiff, loadP, Tryd.lay29, pack, S1, Nat.reduceAdd, Nat.reduceLeDiff, S2, PB, LB, MB]
      refine h23 _ _ ?_
      clear h23 K23
      refine awL_kyes rfl rfl rfl rfl fun K24 h24 => ?_
      simp (disch := omega) only [S0, step1, reduceIte, Nat.reduceEqDiff, faP, Tryd.fld96_2, Nat.zero_lt_succ, S1, Nat.reduceAdd, LB]
      refine h24 _ _ ?_
      clear h24 K24
      refine awL_kyes rfl rfl rfl rfl fun K25 h25 => ?_
      simp (disch := omega) only [S0, step1, reduceIte, Nat.reduceEqDiff, loadP, Tryd.lay29, pack, S1, Nat.reduceAdd, S2, PB, LB, MB]
      refine h25 _ _ ?_
      clear h25 K25
      refine awL_kyes rfl rfl rfl rfl fun K26 h26 => ?_
      show ent _ _ = true ∧ _
      simp only [S0, reduceIte, Nat.reduceEqDiff, List.nil_append, List.append_nil, List.map]
      refine ⟨Tryd.ent45, Duo.Call.mono (match_spec _ _ (by exact hL _ (List.getElem_mem _)) _) ?_⟩
      rintro _ _ ⟨rfl, hcs⟩
      obtain rfl := hcs.symm
      refine h26 _ _ ?_
      clear h26 K26
      refine awL_kyes rfl rfl rfl rfl fun K27 h27 => ?_
      simp (disch := omega) only [S0, step1, reduceIte, Nat.reduceEqDiff, unP]
      refine h27 _ _ ?_
      clear h27 K27
      refine awL_k rfl rfl fun K28 h28 => ?_
      simp (disch := omega) only [S0, step1, reduceIte, Nat.reduceEqDiff]
      refine h28 _ _ ?_
      clear h28 K28
      refine awL_k rfl rfl fun K29 h29 => ?_
      simp (disch := omega) only [S0, step1, reduceIte, Nat.reduceEqDiff]
      refine h29 _ _ ?_
      clear h29 K29
      refine awL_case 23 rfl (fun hg30 => ?_) (fun hg30 => ?_)
      · rw [hg30]
        simp only [Bool.not_eq_true'] at hg30
        refine awL_kyes rfl rfl rfl rfl fun K31 h31 => ?_
        simp (disch := omega) only [S0, step1, reduceIte, Nat.reduceEqDiff, faP, Tryd.fld96_2, Nat.zero_lt_succ, S1, Nat.reduceAdd, LB]
        refine h31 _ _ ?_
        clear h31 K31
        refine awL_kyes rfl rfl rfl rfl fun K32 h32 => ?_
        simp (disch := omega) only [S0, step1, reduceIte, Nat.reduceEqDiff, loadP, Tryd.lay29, pack, S1, Nat.reduceAdd, S2, PB, LB, MB]
        refine h32 _ _ ?_
        clear h32 K32
        refine awL_kyes rfl rfl rfl rfl fun K33 h33 => ?_
        simp (disch := omega) only [S0, step1, reduceIte, Nat.reduceEqDiff, faP, Tryd.fld96_1, Nat.zero_lt_succ, S1, Nat.reduceAdd, LB]
        refine h33 _ _ ?_
        clear h33 K33
        refine awL_kyes rfl rfl rfl rfl fun K34 h34 => ?_
        simp (disch := omega) only [S0, step1, reduceIte, Nat.reduceEqDiff, loadP, Tryd.lay29, pack, S1, Nat.reduceAdd, Nat.reduceLeDiff, S2, PB, LB, MB]
        refine h34 _ _ ?_
        clear h34 K34
        refine awL_kyes rfl rfl rfl rfl fun K35 h35 => ?_
        show ent _ _ = true ∧ _
        simp only [S0, reduceIte, Nat.reduceEqDiff, List.nil_append, List.append_nil, List.map]
        refine ⟨Tryd.ent45, Duo.Call.mono (match_spec _ _ (by exact hL _ (List.getElem_mem _)) _) ?_⟩
        rintro _ _ ⟨rfl, hcs⟩
        obtain rfl := hcs.symm
        refine h35 _ _ ?_
        clear h35 K35
        refine awL_kyes rfl rfl rfl rfl fun K36 h36 => ?_
        simp (disch := omega) only [S0, step1, reduceIte, Nat.reduceEqDiff, unP]
        refine h36 _ _ ?_
        clear h36 K36
        refine awL_k rfl rfl fun K37 h37 => ?_
        simp (disch := omega) only [S0, step1, reduceIte, Nat.reduceEqDiff]
        refine h37 _ _ ?_
        clear h37 K37
        refine hK12 _ _ ?_
        clear hK12 K12
        refine AW.condK _ rfl (fun hb38 => ?_) (fun hb38 => ?_)
        · skip
          simp only [Bool.not_eq_true'] at hb38
          refine AW.region ?_
          refine awL_k rfl rfl fun K39 h39 => ?_
          simp (disch := omega) only [S0, step1, reduceIte, Nat.reduceEqDiff, loadP, Tryd.lay52, pack, S1, Nat.reduceAdd, S2, LB]
          refine h39 _ _ ?_
          clear h39 K39
          refine awL_k rfl rfl fun K40 h40 => ?_
          simp (disch := omega) only [S0, step1, reduceIte, Nat.reduceEqDiff, faP, Tryd.fld96_0, Nat.zero_lt_succ, S1, Nat.reduceAdd]
          refine h40 _ _ ?_
          clear h40 K40
          refine awL_k rfl rfl fun K41 h41 => ?_
          simp (disch := omega) only [S0, step1, reduceIte, Nat.reduceEqDiff, faP, Tryd.fld68_0, Nat.lt_add_one, S1, Nat.reduceAdd]
          refine h41 _ _ ?_
          clear h41 K41
          refine awL_k rfl rfl fun K42 h42 => ?_
          simp (disch := omega) only [S0, step1, reduceIte, Nat.reduceEqDiff, loadP, Tryd.lay3, pack, S1, Nat.reduceAdd, Nat.reduceLeDiff, S2, PB, LB, MB]
          refine h42 _ _ ?_
          clear h42 K42
          refine awL_k rfl rfl fun K43 h43 => ?_
          simp (disch := omega) only [S0, step1, reduceIte, Nat.reduceEqDiff, faP, Tryd.fld96_0, Nat.zero_lt_succ, S1, Nat.reduceAdd]
          refine h43 _ _ ?_
          clear h43 K43
          refine awL_k rfl rfl fun K44 h44 => ?_
          simp (disch := omega) only [S0, step1, reduceIte, Nat.reduceEqDiff, faP, Tryd.fld68_1, Nat.lt_add_one, S1, Nat.reduceAdd, LB]
          refine h44 _ _ ?_
          clear h44 K44
          refine awL_k rfl rfl fun K45 h45 => ?_
          simp (disch := omega) only [S0, step1, reduceIte, Nat.reduceEqDiff, loadP, Tryd.lay3, pack, S1, Nat.reduceAdd, Nat.reduceLeDiff, S2, PB, LB, MB]
          refine h45 _ _ ?_
          clear h45 K45
          refine awL_k rfl rfl fun K46 h46 => ?_
          simp (disch := omega) only [S0, step1, reduceIte, Nat.reduceEqDiff, buildP, Tryd.plc73, Tryd.zro73, fillV, splice, S3, V.one, S1, Nat.reduceAdd, Nat.reduceLeDiff, Nat.reduceMul, LB]
          refine h46 _ _ ?_
          clear h46 K46
          refine awL_k rfl rfl fun K47 h47 => ?_
          simp (disch := omega) only [S0, step1, reduceIte, Nat.reduceEqDiff, buildSliceP, Tryd.elt52, S1, Nat.reduceAdd, Nat.reduceLeDiff, Nat.reduceMul, S2, V.bare, V.bare.bareL, LB]
          (refine ⟨(by decide), (by ((simp; done))), (by repeat first | exact parts_nil | refine parts_cons ⟨by rfl, by rfl, (by repeat first | exact PureL.nil | refine PureL.cons (by exact PureV.int _ _) ?_)⟩ ?_), h47 _ _ ?_⟩)
          clear h47 K47
          refine awL_k rfl rfl fun K48 h48 => ?_
          simp (disch := omega) only [S0, step1, reduceIte, Nat.reduceEqDiff, appendP, rowOf, Tryd.elt52, S1, Nat.reduceAdd, S2, LB]
          (refine ⟨(by repeat first | exact els_nil | refine els_cons (by rfl) ?_), (by omega), (by ((simp only [maxLen]; omega))), h48 _ _ ?_⟩)
          clear h48 K48
          refine awL_k rfl rfl fun K49 h49 => ?_
          simp (disch := omega) only [S0, step1, reduceIte, Nat.reduceEqDiff, storeP, Tryd.lay52, splice, S3, V.one, S1, Nat.reduceAdd, S2, LB]
          refine h49 _ _ ?_
          clear h49 K49
          have hp := fmL_some hab (clP_some ha hb (by omega) (by assumption) (by assumption))
          exact ⟨st.length + 3, _, by simp, StLe.refl _, by rw [trimS_app hst (by simp)]; simp [O.trim, V.trim, hp, rowOK.trimv hch, encD]⟩
        · skip
          simp only [Bool.not_eq_false'] at hb38
          refine AW.skip ?_
          have hp := fmL_none hab (clP_none ha hb (.inr (.inr (by assumption))))
          exact ⟨st.length + 3, _, by simp, StLe.refl _, by rw [trimS_app hst (by simp)]; simp [O.trim, V.trim, hp, rowOK.trimv hch]⟩
      · rw [hg30]
        simp only [Bool.not_eq_false'] at hg30
        refine awL_no rfl rfl rfl rfl ?_
        refine awL_no rfl rfl rfl rfl ?_
        refine awL_no rfl rfl rfl rfl ?_
        refine awL_no rfl rfl rfl rfl ?_
        refine awL_no rfl rfl rfl rfl ?_
        refine awL_no rfl rfl rfl rfl ?_
        refine awL_k rfl rfl fun K50 h50 => ?_
        simp (disch := omega) only [S0, step1, reduceIte, Nat.reduceEqDiff]
        refine h50 _ _ ?_
        clear h50 K50
        refine hK12 _ _ ?_
        clear hK12 K12
        refine AW.condK _ rfl (fun hb51 => ?_) (fun hb51 => ?_)
        · skip
          cases hb51
        · skip
          refine AW.skip ?_
          have hp := fmL_none hab (clP_none ha hb (.inr (.inl (by assumption))))
          exact ⟨st.length + 3, _, by simp, StLe.refl _, by rw [trimS_app hst (by simp)]; simp [O.trim, V.trim, hp, rowOK.trimv hch]⟩
    · rw [hg21]
      simp only [decide_eq_false_iff_not, Int.ofNat_lt] at hg21
      refine awL_no rfl rfl rfl rfl ?_
      refine awL_no rfl rfl rfl rfl ?_
      refine awL_no rfl rfl rfl rfl ?_
      refine awL_no rfl rfl rfl rfl ?_
      refine awL_no rfl rfl rfl rfl ?_
      refine awL_no rfl rfl rfl rfl ?_
      refine awL_k rfl rfl fun K52 h52 => ?_
      simp (disch := omega) only [S0, step1, reduceIte, Nat.reduceEqDiff]
      refine h52 _ _ ?_
      clear h52 K52
      refine awL_k rfl rfl fun K53 h53 => ?_
      simp (disch := omega) only [S0, step1, reduceIte, Nat.reduceEqDiff]
      refine h53 _ _ ?_
      clear h53 K53
      refine awL_no rfl rfl rfl rfl ?_
      refine awL_no rfl rfl rfl rfl ?_
      refine awL_no rfl rfl rfl rfl ?_
      refine awL_no rfl rfl rfl rfl ?_
      refine awL_no rfl rfl rfl rfl ?_
      refine awL_no rfl rfl rfl rfl ?_
      refine awL_k rfl rfl fun K54 h54 => ?_
      simp (disch := omega) only [S0, step1, reduceIte, Nat.reduceEqDiff]
      refine h54 _ _ ?_
      clear h54 K54
      refine hK12 _ _ ?_
      clear hK12 K12
      refine AW.condK _ rfl (fun hb55 => ?_) (fun hb55 => ?_)
      · skip
        cases hb55
      · skip
        refine AW.skip ?_
        have hp := fmL_none hab (clP_none ha hb (.inl (by omega)))
        exact ⟨st.length + 3, _, by simp, StLe.refl _, by rw [trimS_app hst (by simp)]; simp [O.trim, V.trim, hp, rowOK.trimv hch]⟩
  · skip
    rintro st1 rfl
    refine hK6 _ _ ?_
    clear hK6 K6
    refine AW.seqK fun K56 hK56 => ?_
    refine AW.region ?_
    refine awL_k rfl rfl fun K57 h57 => ?_
    simp (disch := omega) only [S0, step1, reduceIte, Nat.reduceEqDiff, loadP, Tryd.lay52, pack, S1, S2, LB]
    refine h57 _ _ ?_
    clear h57 K57
    refine awL_k rfl rfl fun K58 h58 => ?_
    simp (disch := omega) only [S0, step1, reduceIte, Nat.reduceEqDiff]
    refine h58 _ _ ?_
    clear h58 K58
    refine hK56 _ _ ?_
    clear hK56 K56
    refine AW.ret ?_
    show (_ ∨ _) ∧ _
    refine ⟨.inr rfl, ?_⟩
    show resP _ _ _ [.tmp 2] _
    simp only [resP, resV, V.trim, S0, reduceIte, Nat.reduceEqDiff]
    refine ⟨_, _, _, Nat.le_refl _, V.le_refl _ _, StLe.refl _, ?_⟩
    exact ⟨by rw [fmL_all, clashL_meets, if_neg (by omega)], hst.trim_append _⟩
set_option maxHeartbeats 8000000 in
theorem pwait_spec (l : List Pr) (ch : V) (hch : rowOK ch) (hn : l.length ≤ 1000000) (hL : ∀ x ∈ l, hasL x) (hC : ∀ x ∈ l, x.chan.length ≤ 2147483647) (st : List O) : Duo.Call Tryd.prog Tryd.gl 25 [.agg [.sl (l.map encP) none, ch]] st (fun v st' => v = .sl ((waitL l).map encI) none ∧ st' = st) := by
  refine Duo.Call.clo fun hst => ?_
  refine Duo.Call.real fun hr => ?_
  have hll : (listL l).length ≤ 1000001000000 := by rw [listL, ← partL_end]; exact partL_len (by omega) (Nat.le_refl _) (Nat.zero_le _)
  refine Duo.Call.body 44 [(0, .agg [.sl (l.map encP) none, ch])] Tryd.func25 rfl rfl ?_
  refine AW.seqK fun K1 hK1 => ?_
  refine AW.region ?_
  refine awL_k rfl rfl fun K2 h2 => ?_
  simp (disch := omega) only [S0, step1, reduceIte, S3, S1, rowOK.one hch, one_sl]
  refine h2 _ _ ?_
  clear h2 K2
  refine awL_k rfl rfl fun K3 h3 => ?_
  simp (disch := omega) only [S0, step1]
  refine h3 _ _ ?_
  clear h3 K3
  refine hK1 _ _ ?_
  clear hK1 K1
  refine AW.seqK fun K4 hK4 => ?_
  refine AW.region ?_
  refine awL_k rfl rfl fun K5 h5 => ?_
  simp (disch := omega) only [S0, step1, reduceIte, Nat.reduceEqDiff, faP, Tryd.fld45_0, Nat.lt_add_one, S1]
  refine h5 _ _ ?_
  clear h5 K5
  refine awL_k rfl rfl fun K6 h6 => ?_
  simp (disch := omega) only [S0, step1, reduceIte, Nat.reduceEqDiff, loadP, Tryd.lay27, pack, S1, Nat.reduceAdd, Nat.reduceLeDiff, S2, LB]
  refine h6 _ _ ?_
  clear h6 K6
  refine awL_k rfl rfl fun K7 h7 => ?_
  simp (disch := omega) only [S0, step1, reduceIte, Nat.reduceEqDiff, lenP, Tryd.elt27, Option.isSome, true_and, S1]
  refine h7 _ _ ?_
  clear h7 K7
  refine awL_k rfl rfl fun K8 h8 => ?_
  simp (disch := omega) only [S0, step1, reduceIte, Nat.reduceEqDiff, makeP, Tryd.elt99, Tryd.zro4, Int.toNat_natCast, V.one, true_and, S1, S2, LB]
  repeat' (refine And.intro ?_ ?_)
  all_goals first | omega | rfl | exact PureV.bool _ | (refine h8 _ _ ?_)
  clear h8 K8
  refine awL_k rfl rfl fun K9 h9 => ?_
  simp (disch := omega) only [S0, step1, reduceIte, Nat.reduceEqDiff]
  refine h9 _ _ ?_
  clear h9 K9
  refine hK4 _ _ ?_
  clear hK4 K4
  refine AW.seqK fun K10 hK10 => ?_
  refine AW.seqK fun K11 hK11 => ?_
  refine AW.region ?_
  refine awL_k rfl rfl fun K12 h12 => ?_
  simp (disch := omega) only [S0, step1, reduceIte, Nat.reduceEqDiff, loadP, Tryd.lay45, pack, S1, Nat.reduceAdd, S2, LB]
  refine h12 _ _ ?_
  clear h12 K12
  refine awL_k rfl rfl fun K13 h13 => ?_
  show ent _ _ = true ∧ _
  simp only [S0, reduceIte, Nat.reduceEqDiff, List.nil_append, List.append_nil, List.map]
  refine ⟨Tryd.ent19, Duo.Call.mono (plist_spec _ _ (by assumption) (by omega) (by assumption) (by assumption) _) ?_⟩
  rintro _ _ ⟨rfl, hcs⟩
  obtain rfl := hcs.symm
  refine h13 _ _ ?_
  clear h13 K13
  refine awL_k rfl rfl fun K14 h14 => ?_
  simp (disch := omega) only [S0, step1, reduceIte, Nat.reduceEqDiff, lenP, Tryd.elt47, Option.isSome, true_and, S1]
  refine h14 _ _ ?_
  clear h14 K14
  refine awL_k rfl rfl fun K15 h15 => ?_
  simp (disch := omega) only [S0, step1]
  refine h15 _ _ ?_
  clear h15 K15
  refine hK11 _ _ ?_
  clear hK11 K11
  refine AW.block ?_
  refine AW.loop (α := { k : Nat // k ≤ (listL l).length }) 44 (fun k => [(3, .ref (st.length + 1) 0), (14, .sl ((listL l).map encR) none), (15, .int .i64 (listL l).length), (16, .int .i64 (k.1 : Nat))]) (fun k => st ++ [.box 45 [.sl (l.map encP) none, ch], .arr 4 1 0 (busyV l.length (listL l) k.1)]) (fun k => (listL l).length - k.1) ⟨0, Nat.zero_le _⟩ (by show _ ≤ _; exact Nat.le_of_ble_eq_true rfl) ⟨(V.le_of_eq (by simp only [S0, reduceIte, Nat.reduceEqDiff])), V.le_of_eq (by rfl), V.le_of_eq (by rfl), V.le_of_eq (by rfl), trivial⟩ (StLe.of_eq (by simp only [busyV_zero])) ?_
  rintro ⟨k, hk⟩
  dsimp only
  refine AW.clo fun hlc => ?_
  refine AW.seqK fun K16 hK16 => ?_
  refine AW.region ?_
  refine awL_k rfl rfl fun K17 h17 => ?_
  simp (disch := omega) only [S0, step1, Nat.reduceEqDiff, isNilC, Bool.false_eq_true, binP, intP, true_and, if_true, if_false]
  refine h17 _ _ ?_
  clear h17 K17
  refine hK16 _ _ ?_
  clear hK16 K16
  refine AW.seqK fun K18 hK18 => ?_
  refine AW.condK _ rfl (fun hb19 => ?_) (fun hb19 => ?_)
  · skip
    simp only [decide_eq_true_eq, Int.ofNat_lt] at hb19
    have hltk : k < (listL l).length := by omega
    obtain ⟨x, y, hx, hy, hxl, hyl, _⟩ := listL_at hltk
    refine AW.skip ?_
    refine hK18 _ _ ?_
    clear hK18 K18
    refine AW.seqK fun K20 hK20 => ?_
    refine AW.block ?_
    refine AW.seqK fun K21 hK21 => ?_
    refine AW.region ?_
    refine awL_k rfl rfl fun K22 h22 => ?_
    simp (disch := omega) only [S0, step1, reduceIte, Nat.reduceEqDiff, iaP, Tryd.elt47, S1, Nat.reduceAdd, LB, encR_cells, hx, hy, KB]
    (((repeat' refine And.intro ?_ ?_); all_goals first | refine h22 _ _ ?_ | omega))
    clear h22 K22
    refine awL_k rfl rfl fun K23 h23 => ?_
    simp (disch := omega) only [S0, step1, reduceIte, Nat.reduceEqDiff, loadP, Tryd.lay68, pack, S1, Nat.reduceAdd, LB]
    refine h23 _ _ ?_
    clear h23 K23
    refine awL_k rfl rfl fun K24 h24 => ?_
    simp (disch := omega) only [step1, Tryd.zro68, S2, LB, List.cons_append, List.nil_append]
    refine h24 _ _ ?_
    clear h24 K24
    refine awL_k rfl rfl fun K25 h25 => ?_
    simp (disch := omega) only [S0, step1, reduceIte, Nat.reduceEqDiff, storeP, Tryd.lay68, splice, S3, V.one, S1, Nat.reduceAdd, S2, LB]
    repeat' (refine And.intro ?_ ?_)
    all_goals (refine h25 _ _ ?_)
    clear h25 K25
    refine hK21 _ _ ?_
    clear hK21 K21
    refine AW.anyS Tryd.mix 8 7 [3, 4, 5] _ rfl (Nat.le_of_ble_eq_true rfl) rfl rfl rfl rfl ?_
    refine awA_c rfl rfl rfl fun K26 h26 => ?_
    simp (disch := omega) only [S0, step1, reduceIte, Nat.reduceEqDiff]
    refine h26 _ _ rfl ?_
    clear h26 K26
    refine awA_c rfl rfl rfl fun K27 h27 => ?_
    simp (disch := omega) only [S0, step1, reduceIte, Nat.reduceEqDiff, faP, Tryd.fld68_0, Nat.lt_add_one, S1, Nat.reduceAdd]
    refine h27 _ _ rfl ?_
    clear h27 K27
    refine awA_c rfl rfl rfl fun K28 h28 => ?_
    simp (disch := omega) only [S0, step1, reduceIte, Nat.reduceEqDiff, loadP, Tryd.lay3, pack, S1, Nat.reduceAdd, Nat.reduceLeDiff, S2, LB]
    refine h28 _ _ rfl ?_
    clear h28 K28
    refine awA_c rfl rfl rfl fun K29 h29 => ?_
    simp (disch := omega) only [S0, step1, reduceIte, Nat.reduceEqDiff]
    refine h29 _ _ rfl ?_
    clear h29 K29
    refine awA_c rfl rfl rfl fun K30 h30 => ?_
    simp (disch := omega) only [S0, step1, reduceIte, Nat.reduceEqDiff, faP, Tryd.fld68_1, Nat.lt_add_one, S1, Nat.reduceAdd, LB]
    refine h30 _ _ rfl ?_
    clear h30 K30
    refine awA_c rfl rfl rfl fun K31 h31 => ?_
    simp (disch := omega) only [S0, step1, reduceIte, Nat.reduceEqDiff, loadP, Tryd.lay3, pack, S1, Nat.reduceAdd, Nat.reduceLeDiff, S2, LB]
    refine h31 _ _ rfl ?_
    clear h31 K31
    refine awA_c rfl rfl rfl fun K32 h32 => ?_
    simp (disch := omega) only [S0, step1, reduceIte, Nat.reduceEqDiff, iaP, Tryd.elt99, S1, Nat.reduceAdd, S2, LB, busyV_len, Nat.mul_one]
    (((repeat' refine And.intro ?_ ?_); all_goals first | refine h32 _ _ rfl ?_ | omega))
    clear h32 K32
    refine awA_c rfl rfl rfl fun K33 h33 => ?_
    simp only [S0, step1, nopO]
    refine h33 _ _ rfl ?_
    clear h33 K33
    show awA _ _ _ [] _ _ _ _
    simp only [awA, applyUps]
    refine ⟨(by trivial), late_store rfl fun K34 h34 => ?_⟩
    simp (disch := omega) only [S0, step1, reduceIte, Nat.reduceEqDiff, storeP, Tryd.lay4, S3, V.one, S1, Nat.reduceAdd, S2, LB, nopO, busyV_len, Nat.div_one, Nat.mod_one]
    repeat' (refine And.intro ?_ ?_)
    all_goals first | omega | (refine h34 _ ⟨by simp, ?_, ?_⟩) | exact (by repeat first | exact PureL.nil | refine PureL.cons (by exact PureV.bool _) ?_)
    clear h34 K34
    · skip
      refine awS_cons rfl rfl rfl rfl (fun K35 h35 => ?_) ?_
      · skip
        simp (disch := omega) only [S0, step1, reduceIte, Nat.reduceEqDiff, nopO]
        refine h35 _ _ rfl
      refine awS_cons rfl rfl rfl rfl (fun K36 h36 => ?_) ?_
      · skip
        simp (disch := omega) only [S0, step1, reduceIte, Nat.reduceEqDiff, faP, Tryd.fld68_1, Nat.lt_add_one, S1, Nat.reduceAdd, LB, nopO]
        refine h36 _ _ rfl
      refine awS_cons rfl rfl rfl rfl (fun K37 h37 => ?_) ?_
      · skip
        simp (disch := omega) only [S0, step1, reduceIte, Nat.reduceEqDiff, loadP, Tryd.lay3, pack, S1, Nat.reduceAdd, Nat.reduceLeDiff, S2, LB, nopO]
        refine h37 _ _ rfl
      exact trivial
    show awL _ _ _ _ _ _ _
    refine awL_k rfl rfl fun K38 h38 => ?_
    simp (disch := omega) only [S0, step1, reduceIte, Nat.reduceEqDiff, iaP, Tryd.elt99, S1, Nat.reduceAdd, S2, LB, nopO, busyV_len, Nat.mul_one, List.length_set]
    (((repeat' refine And.intro ?_ ?_); all_goals first | refine h38 _ _ ?_ | omega))
    clear h38 K38
    refine awL_k rfl rfl fun K39 h39 => ?_
    simp (disch := omega) only [S0, step1, reduceIte, Nat.reduceEqDiff, storeP, Tryd.lay4, S3, V.one, S1, Nat.reduceAdd, S2, LB, nopO, busyV_len, Nat.div_one, Nat.mod_one, List.length_set]
    repeat' (refine And.intro ?_ ?_)
    all_goals first | omega | (refine h39 _ _ ?_) | exact (by repeat first | exact PureL.nil | refine PureL.cons (by exact PureV.bool _) ?_)
    clear h39 K39
    refine hK20 _ _ ?_
    refine AW.region ?_
    refine awL_k rfl rfl fun K40 h40 => ?_
    simp (disch := omega) only [S0, step1, Nat.reduceEqDiff, isNilC, Bool.false_eq_true, binP, intP, true_and, if_true, if_false, nopO, KB]
    refine h40 _ _ ?_
    clear h40 K40
    refine awL_k rfl rfl fun K41 h41 => ?_
    simp (disch := omega) only [S0, step1, reduceIte, Nat.reduceEqDiff, nopO]
    refine h41 _ _ ?_
    clear h41 K41
    have hp := busyV_set (n := l.length) hltk hx hy
    refine ⟨⟨k + 1, by omega⟩, by simp only []; omega, _, Nat.le_refl _, Nat.le_of_ble_eq_true rfl, ⟨V.le_of_eq (by rw [Env.trim_get]; simp only [S0, reduceIte, Nat.reduceEqDiff, V.trim, nopO] <;> ((rw [if_pos (by simp)]; done))), V.le_of_eq (by rw [Env.trim_get]; simp only [S0, reduceIte, Nat.reduceEqDiff, V.trim, nopO] <;> first | rfl | (rw [if_pos (by simp)]; done) | (simp; done)), V.le_of_eq (by rw [Env.trim_get]; simp only [S0, reduceIte, Nat.reduceEqDiff, V.trim, nopO] <;> first | rfl | (rw [if_pos (by simp)]; done) | (simp; done)), V.le_of_eq (by rw [Env.trim_get]; simp only [S0, reduceIte, Nat.reduceEqDiff, V.trim, nopO] <;> rfl), trivial⟩, StLe.of_eq (by rw [trimS_app hst (by simp)]; simp [O.trim, V.trim, rowOK.trimv hch, V.bare, hp])⟩
  · skip
    simp only [decide_eq_false_iff_not, Int.ofNat_lt] at hb19
    have hkn : k = (listL l).length := by omega
    refine AW.exit ?_
    refine hK10 _ _ ?_
    refine AW.seqK fun K42 hK42 => ?_
    refine AW.region ?_
    refine awL_k rfl rfl fun K43 h43 => ?_
    simp (disch := omega) only [S0, step1]
    refine h43 _ _ ?_
    clear h43 K43
    refine hK42 _ _ ?_
    clear hK42 K42
    refine AW.seqK fun K44 hK44 => ?_
    refine AW.seqK fun K45 hK45 => ?_
    refine AW.region ?_
    refine awL_k rfl rfl fun K46 h46 => ?_
    simp (disch := omega) only [S0, step1, reduceIte, Nat.reduceEqDiff]
    refine h46 _ _ ?_
    clear h46 K46
    refine awL_k rfl rfl fun K47 h47 => ?_
    simp (disch := omega) only [S0, step1, reduceIte, Nat.reduceEqDiff, lenP, Tryd.elt99, Option.isSome, true_and, S1, S2, LB, busyV_len]
    refine h47 _ _ ?_
    clear h47 K47
    refine awL_k rfl rfl fun K48 h48 => ?_
    simp (disch := omega) only [S0, step1]
    refine h48 _ _ ?_
    clear h48 K48
    refine hK45 _ _ ?_
    clear hK45 K45
    refine AW.block ?_
    subst hkn
    refine AW.tok 3 1 ?_
    rw [List.append_assoc]
    refine AW.loop (α := { i : Nat // i ≤ l.length }) 44 (fun i => [(6, .sl ((idleL (listL l) i.1).map encI) (some (st.length + 2))), (29, .ref (st.length + 1) 0), (30, .int .i64 l.length), (31, .int .i64 (i.1 : Nat))]) (fun i => st ++ [.box 45 [.sl (l.map encP) none, ch], .arr 4 1 0 (busyV l.length (listL l) (listL l).length), .tok 3 1 (idleL (listL l) i.1).length]) (fun i => l.length - i.1) ⟨0, Nat.zero_le _⟩ (by show _ ≤ _; exact Nat.le_of_ble_eq_true rfl) ⟨(V.le_nil_tok (by rw [st_get]; rfl)), V.le_of_eq (by rfl), V.le_of_eq (by rfl), V.le_of_eq (by rfl), trivial⟩ (StLe.of_eq rfl) ?_
    rintro ⟨i, hi⟩
    dsimp only
    have hb := idle_len (listL l) i
    refine AW.clo fun hlc => ?_
    refine AW.seqK fun K49 hK49 => ?_
    refine AW.region ?_
    refine awL_k rfl rfl fun K50 h50 => ?_
    simp (disch := omega) only [S0, step1, Nat.reduceEqDiff, isNilC, Bool.false_eq_true, binP, intP, true_and, if_true, if_false]
    refine h50 _ _ ?_
    clear h50 K50
    refine hK49 _ _ ?_
    clear hK49 K49
    refine AW.seqK fun K51 hK51 => ?_
    refine AW.condK _ rfl (fun hb52 => ?_) (fun hb52 => ?_)
    · skip
      simp only [decide_eq_true_eq, Int.ofNat_lt] at hb52
      have hlt : i < l.length := by omega
      have hba := busyV_at hlt (listL l) (listL l).length
      refine AW.skip ?_
      refine hK51 _ _ ?_
      clear hK51 K51
      refine AW.seqK fun K53 hK53 => ?_
      refine AW.block ?_
      refine AW.seqK fun K54 hK54 => ?_
      refine AW.region ?_
      refine awL_k rfl rfl fun K55 h55 => ?_
      simp (disch := omega) only [S0, step1, reduceIte, Nat.reduceEqDiff]
      refine h55 _ _ ?_
      clear h55 K55
      refine awL_k rfl rfl fun K56 h56 => ?_
      simp (disch := omega) only [S0, step1, reduceIte, Nat.reduceEqDiff, iaP, Tryd.elt99, S1, S2, LB, busyV_len, Nat.mul_one]
      (((repeat' refine And.intro ?_ ?_); all_goals first | refine h56 _ _ ?_ | omega))
      clear h56 K56
      refine awL_k rfl rfl fun K57 h57 => ?_
      simp (disch := omega) only [S0, step1, reduceIte, Nat.reduceEqDiff, loadP, Tryd.lay4, pack, S1, S2, LB, busyV_len, flat_busy, hba, List.take_length]
      (((repeat' refine And.intro ?_ ?_); all_goals first | refine h57 _ _ ?_ | omega))
      clear h57 K57
      refine awL_k rfl rfl fun K58 h58 => ?_
      simp (disch := omega) only [S0, step1, reduceIte, Nat.reduceEqDiff]
      refine h58 _ _ ?_
      clear h58 K58
      refine awL_k rfl rfl fun K59 h59 => ?_
      simp (disch := omega) only [S0, step1, reduceIte, Nat.reduceEqDiff]
      refine h59 _ _ ?_
      clear h59 K59
      refine hK54 _ _ ?_
      clear hK54 K54
      refine AW.seqK fun K60 hK60 => ?_
      refine AW.region ?_
      refine awL_k rfl rfl fun K61 h61 => ?_
      simp (disch := omega) only [S0, step1, reduceIte, Nat.reduceEqDiff]
      refine h61 _ _ ?_
      clear h61 K61
      refine awL_k rfl rfl fun K62 h62 => ?_
      simp (disch := omega) only [S0, step1, reduceIte, Nat.reduceEqDiff, unP]
      refine h62 _ _ ?_
      clear h62 K62
      refine hK60 _ _ ?_
      clear hK60 K60
      refine AW.condK _ rfl (fun hb63 => ?_) (fun hb63 => ?_)
      · skip
        simp only [Bool.not_eq_true'] at hb63
        refine AW.region ?_
        refine awL_k rfl rfl fun K64 h64 => ?_
        simp (disch := omega) only [S0, step1, reduceIte, Nat.reduceEqDiff]
        refine h64 _ _ ?_
        clear h64 K64
        refine awL_k rfl rfl fun K65 h65 => ?_
        simp (disch := omega) only [S0, step1, reduceIte, Nat.reduceEqDiff]
        refine h65 _ _ ?_
        clear h65 K65
        refine awL_k rfl rfl fun K66 h66 => ?_
        simp (disch := omega) only [S0, step1, reduceIte, Nat.reduceEqDiff, buildSliceP, Tryd.elt56, S1, Nat.reduceAdd, Nat.reduceLeDiff, S2, V.bare, LB, Nat.mul_one]
        (refine ⟨(by decide), (by ((simp; done))), (by repeat first | exact parts_nil | refine parts_cons ⟨by rfl, by rfl, (by repeat first | exact PureL.nil | refine PureL.cons (by exact PureV.int _ _) ?_)⟩ ?_), h66 _ _ ?_⟩)
        clear h66 K66
        refine awL_k rfl rfl fun K67 h67 => ?_
        simp (disch := omega) only [S0, step1, reduceIte, Nat.reduceEqDiff, appendP, rowOf, Tryd.elt56, S1, S2, LB]
        (refine ⟨(by repeat first | exact els_nil | refine els_cons (by rfl) ?_), (by omega), (by ((simp only [maxLen]; omega))), h67 _ _ ?_⟩)
        clear h67 K67
        refine awL_k rfl rfl fun K68 h68 => ?_
        simp (disch := omega) only [S0, step1, reduceIte, Nat.reduceEqDiff]
        refine h68 _ _ ?_
        clear h68 K68
        refine hK53 _ _ ?_
        clear hK53 K53
        refine AW.region ?_
        refine awL_k rfl rfl fun K69 h69 => ?_
        simp (disch := omega) only [S0, step1, Nat.reduceEqDiff, isNilC, Bool.false_eq_true, binP, intP, true_and, if_true, if_false, KB]
        refine h69 _ _ ?_
        clear h69 K69
        refine awL_k rfl rfl fun K70 h70 => ?_
        simp (disch := omega) only [S0, step1, reduceIte, Nat.reduceEqDiff]
        refine h70 _ _ ?_
        clear h70 K70
        have hp := idle_yes (r := listL l) (n := i) (by assumption)
        refine ⟨⟨i + 1, by omega⟩, by simp only []; omega, _, Nat.le_refl _, Nat.le_of_ble_eq_true rfl, ⟨V.le_of_eq (by rw [Env.trim_get]; simp only [S0, reduceIte, Nat.reduceEqDiff, V.trim, hp, List.map_append, List.map_cons, List.map_nil, encI]; ((rw [if_pos (by simp)]; done))), V.le_of_eq (by rw [Env.trim_get]; simp only [S0, reduceIte, Nat.reduceEqDiff, V.trim] <;> ((rw [if_pos (by simp)]; done))), V.le_of_eq (by rw [Env.trim_get]; simp only [S0, reduceIte, Nat.reduceEqDiff, V.trim] <;> first | rfl | (rw [if_pos (by simp)]; done) | (simp; done)), V.le_of_eq (by rw [Env.trim_get]; simp only [S0, reduceIte, Nat.reduceEqDiff, V.trim] <;> rfl), trivial⟩, StLe.of_eq (by simp only [hp]; ((rw [trimS_app hst (by simp)]; simp [O.trim, V.trim, rowOK.trimv hch])))⟩
      · skip
        simp only [Bool.not_eq_false'] at hb63
        refine AW.skip ?_
        refine hK53 _ _ ?_
        clear hK53 K53
        refine AW.region ?_
        refine awL_k rfl rfl fun K71 h71 => ?_
        simp (disch := omega) only [S0, step1, Nat.reduceEqDiff, isNilC, Bool.false_eq_true, binP, intP, true_and, if_true, if_false, KB]
        refine h71 _ _ ?_
        clear h71 K71
        refine awL_k rfl rfl fun K72 h72 => ?_
        simp (disch := omega) only [S0, step1, reduceIte, Nat.reduceEqDiff]
        refine h72 _ _ ?_
        clear h72 K72
        have hp := idle_no (r := listL l) (n := i) (by assumption)
        refine ⟨⟨i + 1, by omega⟩, by simp only []; omega, _, Nat.le_refl _, Nat.le_of_ble_eq_true rfl, ⟨V.le_of_eq (by rw [Env.trim_get]; simp only [S0, reduceIte, Nat.reduceEqDiff, V.trim, hp]; ((rw [if_pos (by simp)]; done))), V.le_of_eq (by rw [Env.trim_get]; simp only [S0, reduceIte, Nat.reduceEqDiff, V.trim] <;> ((rw [if_pos (by simp)]; done))), V.le_of_eq (by rw [Env.trim_get]; simp only [S0, reduceIte, Nat.reduceEqDiff, V.trim] <;> first | rfl | (rw [if_pos (by simp)]; done) | (simp; done)), V.le_of_eq (by rw [Env.trim_get]; simp only [S0, reduceIte, Nat.reduceEqDiff, V.trim] <;> rfl), trivial⟩, StLe.of_eq (by simp only [hp]; exact hlc.trim)⟩
    · skip
      simp only [decide_eq_false_iff_not, Int.ofNat_lt] at hb52
      have hge : i = l.length := by omega
      refine AW.exit ?_
      refine hK44 _ _ ?_
      refine AW.seqK fun K73 hK73 => ?_
      refine AW.region ?_
      refine awL_k rfl rfl fun K74 h74 => ?_
      simp (disch := omega) only [S0, step1, reduceIte, Nat.reduceEqDiff]
      refine h74 _ _ ?_
      clear h74 K74
      refine awL_k rfl rfl fun K75 h75 => ?_
      simp (disch := omega) only [S0, step1, reduceIte, Nat.reduceEqDiff]
      refine h75 _ _ ?_
      clear h75 K75
      refine hK73 _ _ ?_
      clear hK73 K73
      refine AW.ret ?_
      show (_ ∨ _) ∧ _
      refine ⟨.inr rfl, ?_⟩
      show resP _ _ _ [.tmp 2] _
      simp only [resP, resV, V.trim, S0, reduceIte, Nat.reduceEqDiff]
      refine ⟨_, _, _, Nat.le_refl _, V.le_refl _ _, StLe.refl _, ?_⟩
      exact ⟨by subst hge; rw [if_neg (by omega)]; rfl, hst.trim_append _⟩
end Tryd
end Go.Proofs
