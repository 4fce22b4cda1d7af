/-
  A part of the proof.
-/
import Derived.Test.YtdlcnihacaboiaaGreatDoorWaitR
import Derived.Test.YtdlcnihacaboiaaGreatDoorWaitAwake
import Derived.Test.YtdlcnihacaboiaaGreatDoorGL
import Derived.Test.YtdlcnihacaboiaaGreatDoorDS3
import Derived.Test.YtdlcnihacaboiaaGreatDoorWaitL
set_option linter.all false
namespace Go.Proofs
open Go Go.Duo
namespace Tryz
attribute [local irreducible] awL awA awT AW
theorem expl_no {l:List Pr} (h:(cycW l).isSome = false):((cycW l).getD []).length = 0 ∧ (0 < l.length → 0 < (lonL l).length):=by
  cases hc:cycW l with
  | none => exact ⟨rfl,fun h0 => cyc_lonely hc h0⟩
  | some c => rw [hc] at h;cases h
theorem expl_yes {l:List Pr} (h:(cycW l).isSome = true):cycG l ((cycW l).getD []):=by
  cases hc:cycW l with
  | none => rw [hc] at h;cases h
  | some c => exact cyc_good hc
theorem emodN (a n:Nat):((a:Int) % (n:Int)) = ((a % n:Nat):Int):=(Int.natCast_emod a n).symm
theorem rindexP_spec (m:List Nat) (i:Nat) (hi:i < m.length) (hn:m.Nodup) (hl:m.length ≤ 1000000) (st:List O):Duo.Call Tryz.prog Tryz.gl2 36 [.sl (m.map encN) none,.int .i64 (m[i]:Nat)] st (fun v st' => v = .int .i64 (i:Nat) ∧ st' = st):=by
  have h1:=rindex_spec m m[i] (by omega) st
  rwa [idxN_nodup hn hi] at h1
theorem rwaitsP_spec (l:List Pr) (hl:l.length ≤ 1000000) (h:∀ p ∈ l,thrP p) (i k:Nat) (hi:i < l.length) (hk:k < l.length) (hw:waitB l i k = true) (st:List O):Duo.Call Tryz.prog Tryz.gl2 37 [.sl (l.map encP) none,.int .i64 i,.int .i64 k] st (fun v st' => v = .bool true ∧ st' = st):=by
  have h1:=rwaits_spec l hl h i k hi hk st
  rwa [hw] at h1
set_option maxRecDepth 100000 in
set_option maxHeartbeats 8000000 in
theorem waitsExplain_spec (p:Pg) (hp:okPg p) (s:List Int) (hs:s.length ≤ 9223372036854775807) (st:List O):Duo.Call Tryz.prog Tryz.gl2 7 [encPg p,.sl (s.map encI) none] st (fun v st' => v = .bool true ∧ st' = st):=by
  refine Duo.Call.clo fun hst => ?_
  refine Duo.Call.body 114 [(0,encPg p),(1,.sl (s.map encI) none)] Tryz.func7 rfl rfl ?_
  repeat' first
    | refine AW.seqK fun K hK => ?_
    | (refine hK _ _ ?_;clear hK K)
    | refine AW.region ?_
    | refine AW.any (id:=11) mix 44 (by decide +kernel) ?_
    | refine awL_call rfl (by exact ent23) (by simp only [go_sem,↓reduceIte,Nat.reduceEqDiff];rfl) (by first | exact awake24_spec _ | exact fewS_spec p hp s hs _ | exact run_spec p (right_pgG (n:=60) (by omega) hp (fewS_iff.1 hf9).1) s (by have:=(fewS_iff.1 hf9).2.1;omega) (fun m hm => (fewS_iff.1 hf9).2.2 m (by omega)) _ | exact fwd_spec _ _ _ | exact pcycle_spec (runE p s).1.th (runE p s).1.ch hl9 hth _ | exact wlonely_spec (runE p s).1.th (runE p s).1.ch hl9 hth _ | exact rwaitsP_spec (runE p s).1.th hl9 hth _ _ hci hcn (hg9.nxt i hil) _) rfl ?_
    | refine awA_nil (by simp only [applyUps];rfl) ?_
    | refine awL_nil ?_
    | ((fail_if_success (clear hf9));(have hf9:fewS p s = true:=(by assumption));have hcf:=(few_cf hp hf9).1;have hl9:(runE p s).1.th.length ≤ 1000000:=(by have:=hcf.tl;omega);have hth:=cf_thrP hcf;have hcy:=cyc_len (runE p s).1.th;have hlo:=lon_len (runE p s).1.th)
    | ((fail_if_success (clear hci));(rcases Nat.lt_or_ge i ((cycW (runE p s).1.th).getD []).length with hil | hil;rotate_left;focus (exfalso;omega));have hmod:=Nat.mod_lt (i + 1) (show 0 < ((cycW (runE p s).1.th).getD []).length by omega);have hci:=hg9.lt _ (List.getElem_mem hil);have hcn:=hg9.lt _ (List.getElem_mem hmod))
    | ((fail_if_success (clear hno));(have hno:=expl_no (l:=(runE p s).1.th) (by assumption)))
    | (refine awL_gno rfl ?_ rfl ?_;focus (simp only [S0,↓reduceIte,Nat.reduceEqDiff,Bool.not_true,Bool.not_false];done))
    | (refine awL_gyes rfl ?_ ?_;focus (simp only [S0,↓reduceIte,Nat.reduceEqDiff];done))
    | (refine awL_gcase rfl rfl (fun hg => ?_) (fun hg => ?_) <;> (rw [hg];(simp only [decide_eq_true_eq,decide_eq_false_iff_not] at hg);try (exfalso;omega)))
    | refine awL_S1 rfl rfl (by simp (disch:=omega) only [go_sem,↓reduceIte,Nat.reduceEqDiff,Nat.reduceAdd,Nat.reduceLeDiff,Nat.reduceLT,List.length_map,encN_mk,emodN];rfl) ?_
    | refine awA_call rfl (by exact ent23) (by simp only [go_sem,↓reduceIte,Nat.reduceEqDiff];rfl) (by exact rindexP_spec ((cycW (runE p s).1.th).getD []) i hil hg9.nd (by omega) _) rfl ?_
    | (refine awA_gyes rfl ?_ ?_;focus (simp only [S0,↓reduceIte,Nat.reduceEqDiff];done))
    | (refine awA_gcase rfl rfl (fun hg => ?_) (fun hg => ?_) <;> (rw [hg];(simp only [not_true_eq_false,not_false_eq_true,decide_eq_true_eq,decide_eq_false_iff_not,Int.not_lt,Int.ofNat_le] at hg);try (exfalso;omega)))
    | refine awA_S1 rfl rfl (by simp (disch:=omega) only [go_sem,↓reduceIte,Nat.reduceEqDiff,Nat.reduceAdd,Nat.reduceLeDiff,Nat.reduceLT,List.length_map,encN_mk];rfl) ?_
    | (refine AW.condK _ rfl (fun hb => ?_) (fun hb => ?_) <;> (simp only [Bool.false_eq_true,decide_eq_true_eq,decide_eq_false_iff_not,Bool.not_eq_true',Bool.not_eq_false'] at hb) <;> skip)
    | refine AW.block ?_
    | refine bq_s ?_
    | refine AW.exit ?_
    | refine AW.skip ?_
    | refine useK (by assumption) ?_
    | (refine AW.loopS (α:={ i:Nat // i ≤ ((cycW (runE p s).1.th).getD []).length }) 114 (fun i => [(2,.ptr st.length 0),(5,.ptr (st.length + 1) 0),(7,.sl (((cycW (runE p s).1.th).getD []).map encN) none),(9,.int .i64 (i.1:Nat))]) (fun i => st ++ [.box 48 (encPg p).cells,.box 52 [.sl ((runE p s).1.th.map encP) none,.sl ((runE p s).1.ch.map encT) none]]) (fun i => ((cycW (runE p s).1.th).getD []).length - i.1) ⟨0,Nat.zero_le _⟩ rfl ?_ ?_ ?_;(focus (simp (disch:=omega) only [go_sem,↓reduceIte,Nat.reduceEqDiff];done));(focus (simp (disch:=omega) only [go_sem];done));have hg9:=expl_yes (l:=(runE p s).1.th) (by assumption);rintro ⟨i,hi⟩ hlc;dsimp only)
    | (refine ⟨⟨i + 1,by omega⟩,by simp only [];omega,_,Nat.le_refl _,Nat.le_of_ble_eq_true rfl, ?_, ?_⟩ <;> (simp (disch:=omega) only [go_sem,↓reduceIte,Nat.reduceEqDiff,Nat.reduceAdd,List.length_append,trimS_app hst]))
    | (refine AW.ret ?_;show (_ ∨ _) ∧ _;refine ⟨.inr rfl, ?_⟩;show resP _ _ _ [.tmp 4] _;simp (disch:=omega) only [go_sem,↓reduceIte];refine ⟨_,_,_,Nat.le_refl _,V.le_refl _ _,StLe.refl _, ?_⟩;(simp (disch:=omega) only [go_sem,hst.trim_append]))
  all_goals first | (have h9:=hg9.pos;simp [h9];done) | (exact congrArg V.bool (decide_eq_true (hno.2 (by omega))))
end Tryz
end Go.Proofs
