/-
  A part of the proof.
-/
import Derived.Test.YtdlcnihacaboiaaGreatDoorSubLib
import Derived.Test.YtdlcnihacaboiaaGreatDoorGM
import Derived.Test.YtdlcnihacaboiaaGreatDoorDS3
import Derived.Test.YtdlcnihacaboiaaGreatDoorGV
set_option linter.all false
namespace Go.Proofs
open Go Go.Duo
namespace Tryz
attribute [local irreducible] awL awA awT AW
def useS (b l:List Str) (s:Str):List Str:=if s ∈ b then l else addS l s
theorem useS_b {b l:List Str} {s:Str} (h:s ∈ b):useS b l s = l:=if_pos h
theorem useS_l {b l:List Str} {s:Str} (h:s ∈ l):useS b l s = l:=by unfold useS addS;split <;> simp [h]
theorem useS_n {b l:List Str} {s:Str} (h1:s ∉ b) (h2:s ∉ l):useS b l s = l ++ [s]:=by unfold useS addS;rw [if_neg h1,if_neg h2]
theorem useS_len (b l:List Str) (s:Str):(useS b l s).length ≤ l.length + 1:=by unfold useS addS;split <;> (try split) <;> simp
theorem useS_all {b:List Str} (xs:List Str):∀ l:List Str,(xs.foldl (useS b) l).length ≤ l.length + xs.length:=by
  induction xs with
  | nil => intro l;simp
  | cons s xs ih => intro l;have:=ih (useS b l s);have:=useS_len b l s;simp only [List.foldl_cons,List.length_cons];omega
theorem use_free {b:List Str} (xs:List Str):∀ l:List Str,xs.foldl (useS b) l = (freeB b xs).foldl addS l:=by
  induction xs with
  | nil => intro l;rfl
  | cons s xs ih =>
    intro l
    unfold freeB at ih ⊢
    rw [List.foldl_cons,ih,List.filter_cons]
    by_cases h:s ∈ b
    · rw [useS_b h];simp [h]
    · simp [h,useS]
theorem walkP_eq (p:Pr) (b l:List Str):(usesP p b).foldl addS l = (usesPs p.kids (bndP p b)).foldl addS ((outP p).foldl (useS b) l):=by
  rw [usesP_eq,List.foldl_append,use_free]
section
variable {s0 s1:List O} {l:List Str}
theorem fr_clo (h:Clo (s0 ++ (.box 22 [.sl (l.map .str) (some (s0.length + 3))] :: .box 197 [.func (.func 150) [] [.ptr (s0.length + 2) 0,.ptr (s0.length + 1) 0]] :: .box 198 [.func (.func 149) [] [.ptr s0.length 0]] :: .tok 9 1 l.length :: s1))) (l':List Str):Clo (s0 ++ (.box 22 [.sl (l'.map .str) (some (s0.length + 3))] :: .box 197 [.func (.func 150) [] [.ptr (s0.length + 2) 0,.ptr (s0.length + 1) 0]] :: .box 198 [.func (.func 149) [] [.ptr s0.length 0]] :: .tok 9 1 l'.length :: s1)):=fun k hk => by
  have h2:=h k (by simp only [List.length_append,List.length_cons] at hk ⊢;exact hk)
  simp only [List.map_append,List.map_cons] at h2 ⊢
  obtain ⟨e1,e2⟩:=List.append_inj h2 (by simp)
  simp only [List.cons.injEq] at e2
  rw [e1,e2.2.1,e2.2.2.1,e2.2.2.2.2]
  have hk2:s0.length + 3 < k:=by simp only [List.length_append,List.length_cons] at hk;omega
  simp only [O.trim,List.map_cons,List.map_nil,V.trim]
  rw [if_pos hk2]
theorem fr0 (h:Clo (s0 ++ (.box 22 [.sl (l.map .str) (some (s0.length + 3))] :: .box 197 [.func (.func 150) [] [.ptr (s0.length + 2) 0,.ptr (s0.length + 1) 0]] :: .box 198 [.func (.func 149) [] [.ptr s0.length 0]] :: .tok 9 1 l.length :: s1))) (l':List Str) (xs:List O) (k:Nat) (hk:k = s0.length + s1.length + 4):trimS k (s0 ++ (.box 22 [.sl (l'.map .str) (some (s0.length + 3))] :: .box 197 [.func (.func 150) [] [.ptr (s0.length + 2) 0,.ptr (s0.length + 1) 0]] :: .box 198 [.func (.func 149) [] [.ptr s0.length 0]] :: .tok 9 1 l'.length :: (s1 ++ xs))) = s0 ++ (.box 22 [.sl (l'.map .str) (some (s0.length + 3))] :: .box 197 [.func (.func 150) [] [.ptr (s0.length + 2) 0,.ptr (s0.length + 1) 0]] :: .box 198 [.func (.func 149) [] [.ptr s0.length 0]] :: .tok 9 1 l'.length :: s1):=by
  have h2:=(fr_clo h l').trim_append xs
  rw [show k = (s0 ++ (.box 22 [.sl (l'.map .str) (some (s0.length + 3))] :: .box 197 [.func (.func 150) [] [.ptr (s0.length + 2) 0,.ptr (s0.length + 1) 0]] :: .box 198 [.func (.func 149) [] [.ptr s0.length 0]] :: .tok 9 1 l'.length :: s1)).length by simp only [List.length_append,List.length_cons];omega]
  simpa using h2
theorem fr00 (h:Clo (s0 ++ (.box 22 [.sl (l.map .str) (some (s0.length + 3))] :: .box 197 [.func (.func 150) [] [.ptr (s0.length + 2) 0,.ptr (s0.length + 1) 0]] :: .box 198 [.func (.func 149) [] [.ptr s0.length 0]] :: .tok 9 1 l.length :: s1))) (l':List Str) (k:Nat) (hk:k = s0.length + s1.length + 4):trimS k (s0 ++ (.box 22 [.sl (l'.map .str) (some (s0.length + 3))] :: .box 197 [.func (.func 150) [] [.ptr (s0.length + 2) 0,.ptr (s0.length + 1) 0]] :: .box 198 [.func (.func 149) [] [.ptr s0.length 0]] :: .tok 9 1 l'.length :: s1)) = s0 ++ (.box 22 [.sl (l'.map .str) (some (s0.length + 3))] :: .box 197 [.func (.func 150) [] [.ptr (s0.length + 2) 0,.ptr (s0.length + 1) 0]] :: .box 198 [.func (.func 149) [] [.ptr s0.length 0]] :: .tok 9 1 l'.length :: s1):=by
  have:=fr0 h l' [] k hk;rwa [List.append_nil] at this
theorem frN (h:Clo (s0 ++ (.box 22 [.sl (l.map .str) (some (s0.length + 3))] :: .box 197 [.func (.func 150) [] [.ptr (s0.length + 2) 0,.ptr (s0.length + 1) 0]] :: .box 198 [.func (.func 149) [] [.ptr s0.length 0]] :: .tok 9 1 l.length :: s1))) (l':List Str) (ys xs:List O) (k:Nat) (hk:k = s0.length + s1.length + 4 + ys.length):trimS k (s0 ++ (.box 22 [.sl (l'.map .str) (some (s0.length + 3))] :: .box 197 [.func (.func 150) [] [.ptr (s0.length + 2) 0,.ptr (s0.length + 1) 0]] :: .box 198 [.func (.func 149) [] [.ptr s0.length 0]] :: .tok 9 1 l'.length :: (s1 ++ (ys ++ xs)))) = s0 ++ (.box 22 [.sl (l'.map .str) (some (s0.length + 3))] :: .box 197 [.func (.func 150) [] [.ptr (s0.length + 2) 0,.ptr (s0.length + 1) 0]] :: .box 198 [.func (.func 149) [] [.ptr s0.length 0]] :: .tok 9 1 l'.length :: (s1 ++ ys.map (O.trim k))):=by
  have h2:=trimS_app (fr_clo h l') (k:=k) (by simp only [List.length_append,List.length_cons];omega) (ys ++ xs)
  have e:k - (s0 ++ (.box 22 [.sl (l'.map .str) (some (s0.length + 3))] :: .box 197 [.func (.func 150) [] [.ptr (s0.length + 2) 0,.ptr (s0.length + 1) 0]] :: .box 198 [.func (.func 149) [] [.ptr s0.length 0]] :: .tok 9 1 l'.length :: s1)).length = ys.length:=by simp only [List.length_append,List.length_cons];omega
  rw [e,List.take_left] at h2
  simpa using h2
theorem fr1 (h:Clo (s0 ++ (.box 22 [.sl (l.map .str) (some (s0.length + 3))] :: .box 197 [.func (.func 150) [] [.ptr (s0.length + 2) 0,.ptr (s0.length + 1) 0]] :: .box 198 [.func (.func 149) [] [.ptr s0.length 0]] :: .tok 9 1 l.length :: s1))) (l':List Str) (a:O) (xs:List O) (k:Nat) (hk:k = s0.length + s1.length + 5):trimS k (s0 ++ (.box 22 [.sl (l'.map .str) (some (s0.length + 3))] :: .box 197 [.func (.func 150) [] [.ptr (s0.length + 2) 0,.ptr (s0.length + 1) 0]] :: .box 198 [.func (.func 149) [] [.ptr s0.length 0]] :: .tok 9 1 l'.length :: (s1 ++ (a :: xs)))) = s0 ++ (.box 22 [.sl (l'.map .str) (some (s0.length + 3))] :: .box 197 [.func (.func 150) [] [.ptr (s0.length + 2) 0,.ptr (s0.length + 1) 0]] :: .box 198 [.func (.func 149) [] [.ptr s0.length 0]] :: .tok 9 1 l'.length :: (s1 ++ [O.trim k a])):=by
  have:=frN h l' [a] xs k (by simp only [List.length_cons,List.length_nil];omega);simpa using this
theorem fr3 (h:Clo (s0 ++ (.box 22 [.sl (l.map .str) (some (s0.length + 3))] :: .box 197 [.func (.func 150) [] [.ptr (s0.length + 2) 0,.ptr (s0.length + 1) 0]] :: .box 198 [.func (.func 149) [] [.ptr s0.length 0]] :: .tok 9 1 l.length :: s1))) (l':List Str) (a b c:O) (xs:List O) (k:Nat) (hk:k = s0.length + s1.length + 7):trimS k (s0 ++ (.box 22 [.sl (l'.map .str) (some (s0.length + 3))] :: .box 197 [.func (.func 150) [] [.ptr (s0.length + 2) 0,.ptr (s0.length + 1) 0]] :: .box 198 [.func (.func 149) [] [.ptr s0.length 0]] :: .tok 9 1 l'.length :: (s1 ++ (a :: b :: c :: xs)))) = s0 ++ (.box 22 [.sl (l'.map .str) (some (s0.length + 3))] :: .box 197 [.func (.func 150) [] [.ptr (s0.length + 2) 0,.ptr (s0.length + 1) 0]] :: .box 198 [.func (.func 149) [] [.ptr s0.length 0]] :: .tok 9 1 l'.length :: (s1 ++ [O.trim k a,O.trim k b,O.trim k c])):=by
  have:=frN h l' [a,b,c] xs k (by simp only [List.length_cons,List.length_nil];omega);simpa using this
end
set_option maxRecDepth 100000 in
set_option maxHeartbeats 8000000 in
theorem use_spec (s:Str) (b l:List Str) (tk:Option Nat) (hb:b.length ≤ 9223372036854775807) (hl:l.length ≤ 1000000000) (s0 s1:List O):Duo.Call Tryz.prog Tryz.gl 149 [.str s,.sl (b.map .str) tk,.ptr s0.length 0] (s0 ++ (.box 22 [.sl (l.map .str) (some (s0.length + 3))] :: .box 197 [.func (.func 150) [] [.ptr (s0.length + 2) 0,.ptr (s0.length + 1) 0]] :: .box 198 [.func (.func 149) [] [.ptr s0.length 0]] :: .tok 9 1 l.length :: s1)) (fun v st' => v = .tuple [] ∧ st' = s0 ++ (.box 22 [.sl ((useS b l s).map .str) (some (s0.length + 3))] :: .box 197 [.func (.func 150) [] [.ptr (s0.length + 2) 0,.ptr (s0.length + 1) 0]] :: .box 198 [.func (.func 149) [] [.ptr s0.length 0]] :: .tok 9 1 (useS b l s).length :: s1)):=by
  refine Duo.Call.clo fun hst => ?_
  refine Duo.Call.body 19 [(0,.str s),(1,.sl (b.map .str) tk),(2,.ptr s0.length 0)] Tryz.func149 rfl rfl ?_
  repeat' first
    | refine AW.seqK fun K hK => ?_
    | (refine hK _ _ ?_;clear hK K)
    | refine AW.region ?_
    | refine awL_call rfl (by exact ent58) (by simp only [go_sem,↓reduceIte,Nat.reduceEqDiff,List.map_cons,List.map_nil];rfl) (by exact containsT_spec _ _ _ (by omega) _) rfl ?_
    | refine awL_nil ?_
    | (refine awL_gno rfl ?_ rfl ?_;focus (simp only [S0,↓reduceIte,Nat.reduceEqDiff,Bool.not_true];done))
    | (refine awL_gyes rfl ?_ ?_;focus (simp only [S0,↓reduceIte,Nat.reduceEqDiff];done))
    | (refine awL_gcase rfl rfl (fun hg => ?_) (fun hg => ?_) <;> (rw [hg];(simp only [decide_eq_true_eq,decide_eq_false_iff_not,Bool.not_eq_true',Bool.not_eq_false'] at hg);skip))
    | refine awL_S1 rfl rfl (by simp (disch:=omega) only [go_sem,↓reduceIte,Nat.reduceEqDiff,Nat.reduceAdd,Nat.reduceLeDiff,Nat.reduceMul,List.length_map,List.length_append,List.length_cons,List.length_nil,List.map_cons,List.map_nil];rfl) ?_
    | (refine AW.condK _ rfl (fun hb => ?_) (fun hb => ?_) <;> (simp only [Bool.false_eq_true,decide_eq_true_eq,decide_eq_false_iff_not,Bool.not_eq_true',Bool.not_eq_false'] at hb) <;> skip)
    | refine AW.skip ?_
    | (show (_ ∨ _) ∧ _;refine ⟨.inl rfl, ?_⟩;show resP _ _ _ [] _;simp (disch:=omega) only [go_sem,Nat.reduceAdd,List.length_append,List.length_cons];refine ⟨_,_,_,Nat.le_refl _,V.le_refl _ _,StLe.refl _, ?_⟩;(simp (disch:=omega) only [go_sem]))
  all_goals first | (rw [useS_n (by assumption) (by assumption)];have h9:=fr0 hst (l ++ [s]) [.tok 9 1 1] (s0.length + (s1.length + 4)) (by omega);simp only [List.map_append,List.map_cons,List.map_nil,List.length_append,List.length_cons,List.length_nil] at h9 ⊢;exact h9) | (first | rw [useS_b (by assumption)] | rw [useS_l (by assumption)]);exact fr00 hst l _ (by omega)
theorem useN_spec (s:Str) (l:List Str) (hl:l.length ≤ 1000000000) (s0 s1:List O):Duo.Call Tryz.prog Tryz.gl 149 [.str s,.nil,.ptr s0.length 0] (s0 ++ (.box 22 [.sl (l.map .str) (some (s0.length + 3))] :: .box 197 [.func (.func 150) [] [.ptr (s0.length + 2) 0,.ptr (s0.length + 1) 0]] :: .box 198 [.func (.func 149) [] [.ptr s0.length 0]] :: .tok 9 1 l.length :: s1)) (fun v st' => v = .tuple [] ∧ st' = s0 ++ (.box 22 [.sl ((useS [] l s).map .str) (some (s0.length + 3))] :: .box 197 [.func (.func 150) [] [.ptr (s0.length + 2) 0,.ptr (s0.length + 1) 0]] :: .box 198 [.func (.func 149) [] [.ptr s0.length 0]] :: .tok 9 1 (useS [] l s).length :: s1)) :=
  Duo.Call.argle (bs:=[.str s,.sl (([]:List Str).map .str) none,.ptr s0.length 0]) (show CLe _ [_,_,_] [_,_,_] from ⟨V.le_refl _ _,V.le_nil _,V.le_refl _ _,trivial⟩) (use_spec s [] l none (by simp) hl s0 s1)
set_option maxRecDepth 100000 in
set_option maxHeartbeats 8000000 in
theorem cloneN_spec  (st:List O):Duo.Call Tryz.prog Tryz.gl 144 [.nil] st (fun v st' => v = .nil ∧ st' = st):=by
  refine Duo.Call.clo fun hst => ?_
  refine Duo.Call.body 8 [(0,.nil)] Tryz.func144 rfl rfl ?_
  repeat' first
    | (refine AW.seqK fun K hK => ?_;refine AW.regionNil (v:=.nil) rfl rfl elt22 (Nat.le_of_ble_eq_true rfl) (Nat.le_of_ble_eq_true rfl) fun b hq => ?_;cases b)
    | (refine AW.regionApp0 elt22 rfl (Nat.le_of_ble_eq_true rfl) (Nat.le_of_ble_eq_true rfl) (Nat.le_of_ble_eq_true rfl) (Nat.le_of_ble_eq_true rfl) (by decide) ?_)
    | refine AW.seqK fun K hK => ?_
    | (refine hK _ _ ?_;clear hK K)
    | refine AW.region ?_
    | refine awL_nil ?_
    | refine awL_S1 rfl rfl (by simp (disch:=omega) only [go_sem];rfl) ?_
    | (refine AW.condK _ rfl (fun hb => ?_) (fun hb => ?_) <;> (simp only [Bool.false_eq_true,Bool.true_eq_false] at hb) <;> skip)
    | refine AW.skip ?_
    | (refine AW.ret ?_;show (_ ∨ _) ∧ _;refine ⟨.inr rfl, ?_⟩;show resP _ _ _ [.tmp 2] _;simp (disch:=omega) only [go_sem,↓reduceIte];refine ⟨_,_,_,Nat.le_refl _,V.le_refl _ _,StLe.refl _, ?_⟩;(simp (disch:=omega) only [go_sem,hst.trim]))
  all_goals trace_state
end Tryz
end Go.Proofs
