/-
  A part of the proof.
-/
import Derived.Test.YtdlcnihacaboiaaGreatDoorSubLib
import Derived.Test.YtdlcnihacaboiaaGreatDoorGL
import Derived.Test.YtdlcnihacaboiaaGreatDoorDS3
import Derived.Test.YtdlcnihacaboiaaGreatDoorDLate3
import Derived.Test.YtdlcnihacaboiaaGreatDoorGN
import Derived.Test.YtdlcnihacaboiaaGreatDoorGJ
import Derived.Test.YtdlcnihacaboiaaGreatDoorGG
import Derived.Lib.QuietBelow
import Derived.Test.YtdlcnihacaboiaaGreatDoorGM
set_option linter.all false
namespace Go.Proofs
open Go Go.Duo
namespace Tryz
attribute [local irreducible] awL awA awT AW
set_option maxRecDepth 100000 in
set_option maxHeartbeats 8000000 in
theorem prefix_spec (p:Pr) (st:List O):Duo.Call Tryz.prog Tryz.gl 94 [encP p] st (fun v st' => v = .bool (preK p.kind) ∧ st' = st):=by
  refine Duo.Call.clo fun hst => ?_
  refine Duo.Call.body 11 [(0,encP p)] Tryz.func94 rfl rfl ?_
  repeat' first
    | refine AW.seqK fun K hK => ?_
    | (refine hK _ _ ?_;clear hK K)
    | refine AW.region ?_
    | refine awL_nil ?_
    | (refine awL_gno rfl ?_ rfl ?_;focus (simp only [S0,↓reduceIte,Nat.reduceEqDiff,Bool.not_true,Bool.not_false];done))
    | (refine awL_gyes rfl ?_ ?_;focus (simp only [S0,↓reduceIte,Nat.reduceEqDiff,Bool.not_true,Bool.not_false];done))
    | refine awL_hole rfl rfl rfl rfl ?_
    | (refine awL_gcase rfl rfl (fun hg => ?_) (fun hg => ?_) <;> (rw [hg];(try simp only [Int.ofNat_inj,not_true_eq_false,not_false_eq_true,Bool.false_eq_true,Bool.true_eq_false,decide_eq_true_eq,decide_eq_false_iff_not,Bool.not_eq_true,Bool.not_eq_false,Bool.not_eq_true',Bool.not_eq_false',Int.not_lt,Int.not_le,ne_eq,Decidable.not_not,List.length_map,Bool.and_eq_true,Bool.or_eq_true,Bool.and_eq_false_imp,Int.ofNat_lt,Int.ofNat_le] at hg);try (exfalso;omega)))
    | refine awL_S1 rfl rfl (by simp (disch:=omega) only [go_sem,↓reduceIte,Nat.reduceEqDiff,Nat.reduceAdd,Nat.reduceLeDiff,Nat.reduceMul,Nat.reduceSub,Nat.reduceLT];rfl) ?_
    | (refine AW.condK _ rfl (fun hb => ?_) (fun hb => ?_) <;> (try simp only [Int.ofNat_inj,not_true_eq_false,not_false_eq_true,Bool.false_eq_true,Bool.true_eq_false,decide_eq_true_eq,decide_eq_false_iff_not,Bool.not_eq_true,Bool.not_eq_false,Bool.not_eq_true',Bool.not_eq_false',Int.not_lt,Int.not_le,ne_eq,Decidable.not_not,List.length_map,Bool.and_eq_true,Bool.or_eq_true,Bool.and_eq_false_imp,Int.ofNat_lt,Int.ofNat_le] at hb) <;> try (exfalso;omega))
    | refine AW.skip ?_
    | refine useK (by assumption) ?_
    | (refine AW.ret ?_;show (_ ∨ _) ∧ _;refine ⟨.inr rfl, ?_⟩;show resP _ _ _ [.tmp 2] _;simp (disch:=omega) only [go_sem,↓reduceIte,Nat.reduceEqDiff,Nat.reduceAdd,Nat.reduceLeDiff,Nat.reduceMul,Nat.reduceSub,Nat.reduceLT];refine ⟨_,_,_,Nat.le_refl _,V.le_refl _ _,StLe.refl _, ?_⟩;(try simp (disch:=omega) only [go_sem,↓reduceIte,Nat.reduceEqDiff,Nat.reduceAdd,Nat.reduceLeDiff,Nat.reduceMul,Nat.reduceSub,Nat.reduceLT,hst.trim,hst.trim_append]))
  all_goals simp_all [preK];try omega
@[go_sem] theorem mapTt:mapT Tryz.prog 97 = some (.string,36):=by
  kernel_rfl
@[go_sem] theorem zroVv:zroV Tryz.prog 36 = some (encV Vl.zero):=by
  kernel_rfl
set_option maxRecDepth 100000 in
set_option maxHeartbeats 8000000 in
theorem cloneS_spec (l:List Str) (hn:l.length ≤ 2000000) (st:List O):Duo.Call Tryz.prog Tryz.gl 144 [.sl (l.map .str) none] st (fun v st' => v = .sl (l.map .str) none ∧ st' = st):=by
  refine Duo.Call.clo fun hst => ?_
  refine Duo.Call.body 8 [(0,.sl (l.map .str) none)] Tryz.func144 rfl rfl ?_
  repeat' first
    | (refine AW.seqK fun K hK => ?_;refine AW.regionNil (v:=.sl (l.map .str) none) rfl rfl elt22 (Nat.le_of_ble_eq_true rfl) (Nat.le_of_ble_eq_true rfl) fun b hq => ?_;(cases b;rotate_left;(obtain rfl:l = []:=by (cases l with | nil => rfl | cons a l => exact absurd (hq rfl) (by simp [rowEs,V.cells,V.str]))))) 
    | refine AW.seqK fun K hK => ?_
    | (refine hK _ _ ?_;clear hK K)
    | refine AW.region ?_
    | refine awL_nil ?_
    | refine awL_S1 rfl rfl (by simp (disch:=omega) only [go_sem,↓reduceIte,Nat.reduceEqDiff,Nat.reduceAdd,Nat.reduceLeDiff,Nat.reduceMul,Nat.reduceSub,Nat.reduceLT,List.length_map];rfl) ?_
    | (refine AW.condK _ rfl (fun hb => ?_) (fun hb => ?_) <;> (try simp only [Int.ofNat_inj,not_true_eq_false,not_false_eq_true,Bool.false_eq_true,Bool.true_eq_false,decide_eq_true_eq,decide_eq_false_iff_not,Bool.not_eq_true,Bool.not_eq_false,Bool.not_eq_true',Bool.not_eq_false',Int.not_lt,Int.not_le,ne_eq,Decidable.not_not,List.length_map,Bool.and_eq_true,Bool.or_eq_true,Bool.and_eq_false_imp,Int.ofNat_lt,Int.ofNat_le] at hb) <;> try (exfalso;omega))
    | refine AW.skip ?_
    | refine useK (by assumption) ?_
    | (refine AW.ret ?_;show (_ ∨ _) ∧ _;refine ⟨.inr rfl, ?_⟩;show resP _ _ _ [.tmp 2] _;simp (disch:=omega) only [go_sem,↓reduceIte,Nat.reduceEqDiff,Nat.reduceAdd,Nat.reduceLeDiff,Nat.reduceMul,Nat.reduceSub,Nat.reduceLT];refine ⟨_,_,_,Nat.le_refl _,V.le_nil _,StLe.refl _, ?_⟩;refine ⟨rfl, ?_⟩;simp (disch:=omega) only [go_sem,hst.trim,hst.trim_append];done)
    | (refine AW.ret ?_;show (_ ∨ _) ∧ _;refine ⟨.inr rfl, ?_⟩;show resP _ _ _ [.tmp 2] _;simp (disch:=omega) only [go_sem,↓reduceIte,Nat.reduceEqDiff,Nat.reduceAdd,Nat.reduceLeDiff,Nat.reduceMul,Nat.reduceSub,Nat.reduceLT,List.length_map];refine ⟨_,_,_,Nat.le_refl _,V.le_refl _ _,StLe.refl _, ?_⟩;(try simp (disch:=omega) only [go_sem,↓reduceIte,Nat.reduceEqDiff,Nat.reduceAdd,Nat.reduceLeDiff,Nat.reduceMul,Nat.reduceSub,Nat.reduceLT,List.length_map,hst.trim,hst.trim_append]))
  all_goals trace_state
set_option maxRecDepth 100000 in
set_option maxHeartbeats 8000000 in
theorem cloneV_spec (l:List Vl) (hn:l.length ≤ 2000000) (st:List O):Duo.Call Tryz.prog Tryz.gl 145 [.sl (l.map encV) none] st (fun v st' => v = .sl (l.map encV) none ∧ st' = st):=by
  refine Duo.Call.clo fun hst => ?_
  refine Duo.Call.body 8 [(0,.sl (l.map encV) none)] Tryz.func145 rfl rfl ?_
  repeat' first
    | (refine AW.seqK fun K hK => ?_;refine AW.regionNil (v:=.sl (l.map encV) none) rfl rfl elt23 (Nat.le_of_ble_eq_true rfl) (Nat.le_of_ble_eq_true rfl) fun b hq => ?_;(cases b;rotate_left;(obtain rfl:l = []:=by (cases l with | nil => rfl | cons a l => exact absurd (hq rfl) (by simp [rowEs,V.cells,encV]))))) 
    | refine AW.seqK fun K hK => ?_
    | (refine hK _ _ ?_;clear hK K)
    | refine AW.region ?_
    | refine awL_nil ?_
    | refine awL_S1 rfl rfl (by simp (disch:=omega) only [go_sem,↓reduceIte,Nat.reduceEqDiff,Nat.reduceAdd,Nat.reduceLeDiff,Nat.reduceMul,Nat.reduceSub,Nat.reduceLT,List.length_map];rfl) ?_
    | (refine AW.condK _ rfl (fun hb => ?_) (fun hb => ?_) <;> (try simp only [Int.ofNat_inj,not_true_eq_false,not_false_eq_true,Bool.false_eq_true,Bool.true_eq_false,decide_eq_true_eq,decide_eq_false_iff_not,Bool.not_eq_true,Bool.not_eq_false,Bool.not_eq_true',Bool.not_eq_false',Int.not_lt,Int.not_le,ne_eq,Decidable.not_not,List.length_map,Bool.and_eq_true,Bool.or_eq_true,Bool.and_eq_false_imp,Int.ofNat_lt,Int.ofNat_le] at hb) <;> try (exfalso;omega))
    | refine AW.skip ?_
    | refine useK (by assumption) ?_
    | (refine AW.ret ?_;show (_ ∨ _) ∧ _;refine ⟨.inr rfl, ?_⟩;show resP _ _ _ [.tmp 2] _;simp (disch:=omega) only [go_sem,↓reduceIte,Nat.reduceEqDiff,Nat.reduceAdd,Nat.reduceLeDiff,Nat.reduceMul,Nat.reduceSub,Nat.reduceLT];refine ⟨_,_,_,Nat.le_refl _,V.le_nil _,StLe.refl _, ?_⟩;refine ⟨rfl, ?_⟩;simp (disch:=omega) only [go_sem,hst.trim,hst.trim_append];done)
    | (refine AW.ret ?_;show (_ ∨ _) ∧ _;refine ⟨.inr rfl, ?_⟩;show resP _ _ _ [.tmp 2] _;simp (disch:=omega) only [go_sem,↓reduceIte,Nat.reduceEqDiff,Nat.reduceAdd,Nat.reduceLeDiff,Nat.reduceMul,Nat.reduceSub,Nat.reduceLT,List.length_map];refine ⟨_,_,_,Nat.le_refl _,V.le_refl _ _,StLe.refl _, ?_⟩;(try simp (disch:=omega) only [go_sem,↓reduceIte,Nat.reduceEqDiff,Nat.reduceAdd,Nat.reduceLeDiff,Nat.reduceMul,Nat.reduceSub,Nat.reduceLT,List.length_map,hst.trim,hst.trim_append]))
  all_goals trace_state
@[go_sem] theorem getT0 (t:Tb) (s:Str):getK (.str s) (keysT t) (valsT t) (encV Vl.zero) = encV ((tget t s).getD Vl.zero):=by
  rw [getT]
  cases tget t s <;> rfl
@[go_sem] theorem encVt (k:Nat) (x:Vl):V.trim k (encV x) = encV x:=rfl
attribute [go_sem] hasT delT setT keysT_all
theorem map_all {xs:List V} (h:∀ x ∈ xs,∀ k,V.trim k x = x) (k:Nat):xs.map (V.trim k) = xs:=map_id' fun x hx => h x hx k
@[go_sem] theorem valsT_trim (k:Nat) (t:Tb):(valsT t).map (V.trim k) = valsT t:=map_all (fun x hx k => by
  obtain ⟨p,_,rfl⟩:=List.mem_map.1 hx;rfl) k
@[go_sem] theorem setK0 (k v:V):setK k v [] [] = .map [k] [v]:=rfl
end Tryz
end Go.Proofs
