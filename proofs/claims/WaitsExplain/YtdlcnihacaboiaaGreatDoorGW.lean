/-
  A part of the proof.
-/
import Derived.Test.YtdlcnihacaboiaaGreatDoorSubLib
import Derived.Test.YtdlcnihacaboiaaGreatDoorGM
import Derived.Test.YtdlcnihacaboiaaGreatDoorDS3
import Derived.Test.YtdlcnihacaboiaaGreatDoorGX
import Derived.Test.YtdlcnihacaboiaaGreatDoorWaitA
import Derived.Test.YtdlcnihacaboiaaGreatDoorGP
set_option linter.all false
namespace Go.Proofs
open Go Go.Duo
namespace Tryz
attribute [local irreducible] awL awA awT AW
set_option maxRecDepth 100000 in
set_option maxHeartbeats 8000000 in
theorem cloneT_spec (l:List Str) (hn:l.length ≤ 2000000) (hl:l ≠ []) (st:List O):Duo.Call Tryz.prog Tryz.gl 144 [.sl (l.map .str) none] st (fun v st' => v = .sl (l.map .str) (some st.length) ∧ st' = st ++ [.tok 9 1 l.length]):=by
  refine Duo.Call.clo fun hst => ?_
  refine Duo.Call.body 8 [(0,.sl (l.map .str) none)] Tryz.func144 rfl rfl ?_
  repeat' first
    | (refine AW.seqK fun K hK => ?_;refine AW.regionNil (v:=.sl (l.map .str) none) rfl rfl elt22 (Nat.le_of_ble_eq_true rfl) (Nat.le_of_ble_eq_true rfl) fun b hq => ?_;(cases b;rotate_left;((exfalso;(cases l with | nil => exact hl rfl | cons a l => exact absurd (hq rfl) (by simp [rowEs,V.cells]))))))
    | refine AW.seqK fun K hK => ?_
    | (refine hK _ _ ?_;clear hK K)
    | refine AW.region ?_
    | refine awL_nil ?_
    | refine awL_S1 rfl rfl (by simp (disch:=omega) only [go_sem,↓reduceIte,Nat.reduceEqDiff,List.length_map];rfl) ?_
    | (refine AW.condK _ rfl (fun hb => ?_) (fun hb => ?_) <;> (simp only [Bool.false_eq_true] at hb) <;> skip)
    | refine AW.skip ?_
    | (refine AW.ret ?_;show (_ ∨ _) ∧ _;refine ⟨.inr rfl, ?_⟩;show resP _ _ _ [.tmp 2] _;simp (disch:=omega) only [go_sem,↓reduceIte];refine ⟨st.length + 1,_,_,Nat.le_add_right _ _,V.le_refl _ _,StLe.refl _, ?_⟩;(simp (disch:=omega) only [go_sem]))
  all_goals (rw [trimS_app hst (by omega),show st.length + 1 - st.length = 1 from by omega];rfl)
end Tryz
end Go.Proofs

namespace Go.Proofs
open Go Go.Duo
namespace Tryz
attribute [local irreducible] awL awA awT AW
def headL (b:List Str) (p:Pr) (l:List Str):List Str:=if preK p.kind = true then useS b l p.chan else l
def argL (b:List Str) (p:Pr) (l:List Str) (i:Nat):List Str:=(outA (p.args.take i)).foldl (useS b) (headL b p l)
def walkL (b:List Str) (p:Pr) (l:List Str):List Str:=(usesP p b).foldl addS l
def kidL (b:List Str) (p:Pr) (l:List Str) (m:Nat):List Str:=(usesPs (p.kids.take m) b).foldl addS l
theorem headL_yes {b:List Str} {p:Pr} {l:List Str} (h:preK p.kind = true):headL b p l = useS b l p.chan:=if_pos h
theorem headL_no {b:List Str} {p:Pr} {l:List Str} (h:preK p.kind = false):headL b p l = l:=if_neg (by rw [h];simp)
theorem argL_0 (b:List Str) (p:Pr) (l:List Str):argL b p l 0 = headL b p l:=rfl
theorem argL_yes {b:List Str} {p:Pr} {l:List Str} {i:Nat} (h:i < p.args.length) (hk:p.args[i].kind = 1):argL b p l (i + 1) = useS b (argL b p l i) p.args[i].name:=by
  unfold argL;rw [outA_yes h hk,List.foldl_append];rfl
theorem argL_no {b:List Str} {p:Pr} {l:List Str} {i:Nat} (h:i < p.args.length) (hk:¬ p.args[i].kind = 1):argL b p l (i + 1) = argL b p l i:=by
  unfold argL;rw [outA_no h hk]
theorem argL_len (b:List Str) (p:Pr) (l:List Str) (i:Nat):(argL b p l i).length ≤ l.length + p.args.length + 1:=by
  unfold argL
  have h1:=useS_all (b:=b) (outA (p.args.take i)) (headL b p l)
  have h2:(headL b p l).length ≤ l.length + 1:=by
    unfold headL;split
    · exact useS_len _ _ _
    · omega
  have h3:=outA_len (p.args.take i)
  have h4:(p.args.take i).length ≤ p.args.length:=by rw [List.length_take];omega
  omega
theorem argL_all (b:List Str) (p:Pr) (l:List Str):argL b p l p.args.length = (outP p).foldl (useS b) l:=by
  unfold argL outP headL
  rw [List.take_length]
  split
  · rw [List.foldl_append];rfl
  · rfl
theorem kidL_0 (b:List Str) (p:Pr) (l:List Str):kidL b p l 0 = l:=rfl
theorem kidL_at {b:List Str} {p:Pr} {l:List Str} {m:Nat} (h:m < p.kids.length):kidL b p l (m + 1) = walkL b p.kids[m] (kidL b p l m):=by
  unfold kidL walkL;rw [usesPs_take h,List.foldl_append]
theorem kidL_all (b:List Str) (p:Pr) (l:List Str):kidL (bndP p b) p (argL b p l p.args.length) p.kids.length = walkL b p l:=by
  unfold kidL walkL
  rw [List.take_length,argL_all,walkP_eq]
theorem addS_all (xs:List Str):∀ l:List Str,(xs.foldl addS l).length ≤ l.length + xs.length:=by
  induction xs with
  | nil => intro l;simp
  | cons s xs ih =>
    intro l
    have h1:=ih (addS l s)
    have h2:(addS l s).length ≤ l.length + 1:=by unfold addS;split <;> simp
    simp only [List.foldl_cons,List.length_cons];omega
theorem kidL_len {b:List Str} {p:Pr} {l:List Str} {m:Nat} (h:∀ q ∈ p.kids,smA q):(kidL b p l m).length ≤ l.length + Pr.szs (p.kids.take m) * 2000001:=by
  unfold kidL
  have h1:=addS_all (usesPs (p.kids.take m) b) l
  have h2:=usesPs_len (b:=b) (ks:=p.kids.take m) fun q hq => h q (List.mem_of_mem_take hq)
  omega
theorem szs_take {l:List Pr} {m:Nat} (h:m < l.length):Pr.szs (l.take m) + l[m].sz ≤ Pr.szs l:=by
  induction l generalizing m with
  | nil => cases h
  | cons q l ih =>
    cases m with
    | zero => simp [Pr.szs]
    | succ m => have:=ih (m:=m) (by simpa using h);simp only [List.take_succ_cons,Pr.szs,List.getElem_cons_succ];omega
theorem mapA1 (b:List Str) (x:Str):b.map V.str ++ [.str x] = (b ++ [x]).map V.str:=by simp
theorem mapA2 (b:List Str) (x y:Str):b.map V.str ++ [.str x,.str y] = (b ++ [x,y]).map V.str:=by simp
theorem bnd3 {p:Pr} (b:List Str) (h:p.kind = 3):bndP p b = b ++ [p.var]:=by unfold bndP;rw [if_pos h]
theorem bnd6 {p:Pr} (b:List Str) (h:p.kind = 6):bndP p b = b ++ [p.chan,p.var]:=by unfold bndP;rw [if_neg (by omega),if_pos h]
theorem bnd0 {p:Pr} (b:List Str) (h3:¬ p.kind = 3) (h6:¬ p.kind = 6):bndP p b = b:=by unfold bndP;rw [if_neg h3,if_neg h6,List.append_nil]
set_option maxRecDepth 100000 in
set_option maxHeartbeats 8000000 in
theorem walkN_spec (p:Pr) (ha:smA p) (l:List Str) (hz:l.length + 2000001 * p.sz ≤ 1000000000) (hz3:2 * p.sz ≤ 999990) (ihr:∀ q ∈ p.kids,∀ (b:List Str),b ≠ [] → b.length + 2 * q.sz ≤ 1000000 → ∀ (l:List Str),l.length + 2000001 * q.sz ≤ 1000000000 → ∀ s0 s1:List O,Duo.Call Tryz.prog Tryz.gl 150 [encP q,.sl (b.map .str) none,.ptr (s0.length + 2) 0,.ptr (s0.length + 1) 0] (s0 ++ (.box 22 [.sl (l.map .str) (some (s0.length + 3))] :: .box 197 [.func (.func 150) [] [.ptr (s0.length + 2) 0,.ptr (s0.length + 1) 0]] :: .box 198 [.func (.func 149) [] [.ptr s0.length 0]] :: .tok 9 1 l.length :: s1)) (fun v st' => v = .tuple [] ∧ st' = s0 ++ (.box 22 [.sl ((walkL b q l).map .str) (some (s0.length + 3))] :: .box 197 [.func (.func 150) [] [.ptr (s0.length + 2) 0,.ptr (s0.length + 1) 0]] :: .box 198 [.func (.func 149) [] [.ptr s0.length 0]] :: .tok 9 1 (walkL b q l).length :: s1))) (ihn:∀ q ∈ p.kids,∀ (l:List Str),l.length + 2000001 * q.sz ≤ 1000000000 → ∀ s0 s1:List O,Duo.Call Tryz.prog Tryz.gl 150 [encP q,.nil,.ptr (s0.length + 2) 0,.ptr (s0.length + 1) 0] (s0 ++ (.box 22 [.sl (l.map .str) (some (s0.length + 3))] :: .box 197 [.func (.func 150) [] [.ptr (s0.length + 2) 0,.ptr (s0.length + 1) 0]] :: .box 198 [.func (.func 149) [] [.ptr s0.length 0]] :: .tok 9 1 l.length :: s1)) (fun v st' => v = .tuple [] ∧ st' = s0 ++ (.box 22 [.sl ((walkL [] q l).map .str) (some (s0.length + 3))] :: .box 197 [.func (.func 150) [] [.ptr (s0.length + 2) 0,.ptr (s0.length + 1) 0]] :: .box 198 [.func (.func 149) [] [.ptr s0.length 0]] :: .tok 9 1 (walkL [] q l).length :: s1))) (s0 s1:List O):Duo.Call Tryz.prog Tryz.gl 150 [encP p,.nil,.ptr (s0.length + 2) 0,.ptr (s0.length + 1) 0] (s0 ++ (.box 22 [.sl (l.map .str) (some (s0.length + 3))] :: .box 197 [.func (.func 150) [] [.ptr (s0.length + 2) 0,.ptr (s0.length + 1) 0]] :: .box 198 [.func (.func 149) [] [.ptr s0.length 0]] :: .tok 9 1 l.length :: s1)) (fun v st' => v = .tuple [] ∧ st' = s0 ++ (.box 22 [.sl ((walkL ([]:List Str) p l).map .str) (some (s0.length + 3))] :: .box 197 [.func (.func 150) [] [.ptr (s0.length + 2) 0,.ptr (s0.length + 1) 0]] :: .box 198 [.func (.func 149) [] [.ptr s0.length 0]] :: .tok 9 1 (walkL ([]:List Str) p l).length :: s1)):=by
  refine Duo.Call.clo fun hst => ?_
  have ha2:=(smA_iff p).1 ha
  have hz2:=Pr.sz_eq p
  have hkl3:=Pr.szs_len p.kids
  refine Duo.Call.body 65 [(0,encP p),(1,.nil),(2,.ptr (s0.length + 2) 0),(3,.ptr (s0.length + 1) 0)] Tryz.func150 rfl rfl ?_
  repeat' first
    | refine AW.seqK fun K hK => ?_
    | (refine hK _ _ ?_;clear hK K)
    | refine AW.region ?_
    | refine AW.any (id:=11) mix 5 (by decide +kernel) ?_
    | refine AW.any (id:=13) mix 7 (by decide +kernel) ?_
    | refine awL_call rfl (by exact ent94) (by simp only [go_sem,↓reduceIte,Nat.reduceEqDiff,List.map_cons,List.map_nil];rfl) (by first | exact prefix_spec p _ | exact useN_spec _ _ (by omega) _ _ | exact Duo.Call.argle (show CLe _ [_,_,_,_] [_,_,_,_] from ⟨V.le_refl _ _,V.le_sl _ _ _,V.le_refl _ _,V.le_refl _ _,trivial⟩) (ihr _ (List.getElem_mem (by assumption)) ([p.var]) (by simp) (by have:=szs_take (l:=p.kids) (m:=m) (by assumption);simp only [List.length_cons,List.length_nil];omega) _ (by have:=szs_take (l:=p.kids) (m:=m) (by assumption);omega) _ _) | exact Duo.Call.argle (show CLe _ [_,_,_,_] [_,_,_,_] from ⟨V.le_refl _ _,V.le_sl _ _ _,V.le_refl _ _,V.le_refl _ _,trivial⟩) (ihr _ (List.getElem_mem (by assumption)) ([p.chan,p.var]) (by simp) (by have:=szs_take (l:=p.kids) (m:=m) (by assumption);simp only [List.length_cons,List.length_nil];omega) _ (by have:=szs_take (l:=p.kids) (m:=m) (by assumption);omega) _ _) | exact ihn _ (List.getElem_mem (by assumption)) _ (by have:=szs_take (l:=p.kids) (m:=m) (by assumption);omega) _ _) rfl ?_
    | refine awA_nil (by simp only [applyUps,List.nil_append,List.cons_append,S0,S2];rfl) ?_
    | refine awL_nil ?_
    | refine awL_S1 rfl rfl (by simp (disch:=omega) only [go_sem,↓reduceIte,Nat.reduceEqDiff,Nat.reduceAdd,Nat.reduceLeDiff,Nat.reduceMul,Nat.reduceLT,List.length_map,List.length_append,List.length_cons,List.length_nil];rfl) ?_
    | refine awA_call rfl (by exact ent94) (by simp only [go_sem,↓reduceIte,List.map_cons,List.map_nil];rfl) (by exact cloneN_spec _) rfl ?_
    | refine awA_S1 rfl rfl (by simp (disch:=omega) only [go_sem,↓reduceIte,Nat.reduceEqDiff,Nat.reduceAdd,Nat.reduceLeDiff,Nat.reduceMul,Nat.reduceLT,List.length_cons,List.length_nil,List.map_cons,List.map_nil];rfl) ?_
    | (refine AW.condK _ rfl (fun hb => ?_) (fun hb => ?_) <;> (try simp only [decide_eq_true_eq,decide_eq_false_iff_not] at hb) <;> skip)
    | refine AW.block ?_
    | refine bq_s ?_
    | refine tq_e ?_
    | refine AW.exit ?_
    | refine AW.skip ?_
    | refine useK (by assumption) ?_
    | ((first | (guard_hyp hb:preK p.kind = true;have hh:=headL_yes (b:=([]:List Str)) (l:=l) hb) | (guard_hyp hb:preK p.kind = false;have hh:=headL_no (b:=([]:List Str)) (l:=l) hb));refine AW.loopS (α:={ i:Nat // i ≤ p.args.length }) 65 (fun i => [(1,.nil),(2,.ptr (s0.length + 2) 0),(3,.ptr (s0.length + 1) 0),(4,.ptr (s0.length + (s1.length + 4)) 0),(18,.sl (p.args.map encV) none),(19,.int .i64 p.args.length),(20,.int .i64 (i.1:Nat))]) (fun i => s0 ++ (.box 22 [.sl ((argL ([]:List Str) p l i.1).map .str) (some (s0.length + 3))] :: .box 197 [.func (.func 150) [] [.ptr (s0.length + 2) 0,.ptr (s0.length + 1) 0]] :: .box 198 [.func (.func 149) [] [.ptr s0.length 0]] :: .tok 9 1 (argL ([]:List Str) p l i.1).length :: (s1 ++ [.box 29 (encP p).cells]))) (fun i => p.args.length - i.1) ⟨0,Nat.zero_le _⟩ rfl ?_ ?_ ?_;(focus (simp (disch:=omega) only [go_sem,↓reduceIte,Nat.reduceEqDiff];done));(focus (simp (disch:=omega) only [go_sem,argL_0,hh];done));rintro ⟨i,hi⟩ hlc;dsimp only;have hal:=argL_len ([]:List Str) p l i)
    | (guard_hyp hb:p.args[i].kind = 1;have huk:=argL_yes (b:=([]:List Str)) (p:=p) (l:=l) (by assumption) hb;refine ⟨⟨i + 1,by omega⟩,by simp only [];omega,_,Nat.le_refl _,Nat.le_of_ble_eq_true rfl, ?_, ?_⟩ <;> (simp (disch:=omega) only [go_sem,↓reduceIte,Nat.reduceEqDiff,Nat.reduceAdd,fr1 hst,huk,List.length_append];done))
    | (guard_hyp hb:¬ p.args[i].kind = 1;have huk:=argL_no (b:=([]:List Str)) (p:=p) (l:=l) (by assumption) hb;refine ⟨⟨i + 1,by omega⟩,by simp only [];omega,_,Nat.le_refl _,Nat.le_of_ble_eq_true rfl, ?_, ?_⟩ <;> (simp (disch:=omega) only [go_sem,↓reduceIte,Nat.reduceEqDiff,Nat.reduceAdd,fr1 hst,huk,List.length_append]))
    | (have hk9:p.kind = 3:=(by assumption);(have hin:=Nat.le_antisymm hi (Nat.le_of_not_lt (by assumption)));subst hin;refine AW.loopS (α:={ m:Nat // m ≤ p.kids.length }) 65 (fun m => [(1,.sl [.str p.var] (some (s0.length + (s1.length + 6)))),(2,.ptr (s0.length + 2) 0),(3,.ptr (s0.length + 1) 0),(4,.ptr (s0.length + (s1.length + 4)) 0),(54,.sl (p.kids.map encP) none),(55,.int .i64 p.kids.length),(56,.int .i64 (m.1:Nat))]) (fun m => s0 ++ (.box 22 [.sl ((kidL [p.var] p (argL ([]:List Str) p l p.args.length) m.1).map .str) (some (s0.length + 3))] :: .box 197 [.func (.func 150) [] [.ptr (s0.length + 2) 0,.ptr (s0.length + 1) 0]] :: .box 198 [.func (.func 149) [] [.ptr s0.length 0]] :: .tok 9 1 (kidL [p.var] p (argL ([]:List Str) p l p.args.length) m.1).length :: (s1 ++ [.box 29 (encP p).cells,.tok 9 1 1,.tok 9 1 1]))) (fun m => p.kids.length - m.1) ⟨0,Nat.zero_le _⟩ rfl ?_ ?_ ?_;(focus (simp (disch:=omega) only [go_sem,↓reduceIte,Nat.reduceEqDiff];done));(focus (simp (disch:=omega) only [go_sem,kidL_0];done));rintro ⟨m,hm⟩ hlc;dsimp only;have hkl:=kidL_len (b:=[p.var]) (p:=p) (l:=(argL ([]:List Str) p l p.args.length)) (m:=m) ha2.2.2.2)
    | (have hk9:p.kind = 3:=(by assumption);have hku:=kidL_at (b:=[p.var]) (p:=p) (l:=(argL ([]:List Str) p l p.args.length)) (m:=m) (by assumption);refine ⟨⟨m + 1,by omega⟩,by simp only [];omega,_,Nat.le_refl _,Nat.le_of_ble_eq_true rfl, ?_, ?_⟩ <;> (simp (disch:=omega) only [go_sem,↓reduceIte,Nat.reduceEqDiff,Nat.reduceAdd,fr3 hst,hku,List.length_append]))
    | (have hk9:p.kind = 6:=(by assumption);(have hin:=Nat.le_antisymm hi (Nat.le_of_not_lt (by assumption)));subst hin;refine AW.loopS (α:={ m:Nat // m ≤ p.kids.length }) 65 (fun m => [(1,.sl [.str p.chan,.str p.var] (some (s0.length + (s1.length + 6)))),(2,.ptr (s0.length + 2) 0),(3,.ptr (s0.length + 1) 0),(4,.ptr (s0.length + (s1.length + 4)) 0),(54,.sl (p.kids.map encP) none),(55,.int .i64 p.kids.length),(56,.int .i64 (m.1:Nat))]) (fun m => s0 ++ (.box 22 [.sl ((kidL [p.chan,p.var] p (argL ([]:List Str) p l p.args.length) m.1).map .str) (some (s0.length + 3))] :: .box 197 [.func (.func 150) [] [.ptr (s0.length + 2) 0,.ptr (s0.length + 1) 0]] :: .box 198 [.func (.func 149) [] [.ptr s0.length 0]] :: .tok 9 1 (kidL [p.chan,p.var] p (argL ([]:List Str) p l p.args.length) m.1).length :: (s1 ++ [.box 29 (encP p).cells,.tok 9 1 2,.tok 9 1 2]))) (fun m => p.kids.length - m.1) ⟨0,Nat.zero_le _⟩ rfl ?_ ?_ ?_;(focus (simp (disch:=omega) only [go_sem,↓reduceIte,Nat.reduceEqDiff];done));(focus (simp (disch:=omega) only [go_sem,kidL_0];done));rintro ⟨m,hm⟩ hlc;dsimp only;have hkl:=kidL_len (b:=[p.chan,p.var]) (p:=p) (l:=(argL ([]:List Str) p l p.args.length)) (m:=m) ha2.2.2.2)
    | (have hk9:p.kind = 6:=(by assumption);have hku:=kidL_at (b:=[p.chan,p.var]) (p:=p) (l:=(argL ([]:List Str) p l p.args.length)) (m:=m) (by assumption);refine ⟨⟨m + 1,by omega⟩,by simp only [];omega,_,Nat.le_refl _,Nat.le_of_ble_eq_true rfl, ?_, ?_⟩ <;> (simp (disch:=omega) only [go_sem,↓reduceIte,Nat.reduceEqDiff,Nat.reduceAdd,fr3 hst,hku,List.length_append]))
    | (have hk9:¬ p.kind = 6:=(by assumption);(have hin:=Nat.le_antisymm hi (Nat.le_of_not_lt (by assumption)));subst hin;refine AW.loopS (α:={ m:Nat // m ≤ p.kids.length }) 65 (fun m => [(1,.nil),(2,.ptr (s0.length + 2) 0),(3,.ptr (s0.length + 1) 0),(4,.ptr (s0.length + (s1.length + 4)) 0),(54,.sl (p.kids.map encP) none),(55,.int .i64 p.kids.length),(56,.int .i64 (m.1:Nat))]) (fun m => s0 ++ (.box 22 [.sl ((kidL ([]:List Str) p (argL ([]:List Str) p l p.args.length) m.1).map .str) (some (s0.length + 3))] :: .box 197 [.func (.func 150) [] [.ptr (s0.length + 2) 0,.ptr (s0.length + 1) 0]] :: .box 198 [.func (.func 149) [] [.ptr s0.length 0]] :: .tok 9 1 (kidL ([]:List Str) p (argL ([]:List Str) p l p.args.length) m.1).length :: (s1 ++ [.box 29 (encP p).cells]))) (fun m => p.kids.length - m.1) ⟨0,Nat.zero_le _⟩ rfl ?_ ?_ ?_;(focus (simp (disch:=omega) only [go_sem,↓reduceIte,Nat.reduceEqDiff];done));(focus (simp (disch:=omega) only [go_sem,kidL_0];done));rintro ⟨m,hm⟩ hlc;dsimp only;have hkl:=kidL_len (b:=([]:List Str)) (p:=p) (l:=(argL ([]:List Str) p l p.args.length)) (m:=m) ha2.2.2.2)
    | (have hk9:¬ p.kind = 6:=(by assumption);have hku:=kidL_at (b:=([]:List Str)) (p:=p) (l:=(argL ([]:List Str) p l p.args.length)) (m:=m) (by assumption);refine ⟨⟨m + 1,by omega⟩,by simp only [];omega,_,Nat.le_refl _,Nat.le_of_ble_eq_true rfl, ?_, ?_⟩ <;> (simp (disch:=omega) only [go_sem,↓reduceIte,Nat.reduceEqDiff,Nat.reduceAdd,fr1 hst,hku,List.length_append]))
    | (show (_ ∨ _) ∧ _;refine ⟨.inl rfl, ?_⟩;show resP _ _ _ [] _;simp (disch:=omega) only [go_sem,Nat.reduceAdd,List.length_append,List.length_cons];refine ⟨_,_,_,Nat.le_refl _,V.le_refl _ _,StLe.refl _, ?_⟩;(simp (disch:=omega) only [go_sem]))
  all_goals (have hme:m = p.kids.length:=Nat.le_antisymm hm (Nat.le_of_not_lt (by assumption));subst hme;rw [← kidL_all ([]:List Str) p l];(first | rw [bnd3 _ (by assumption)] | rw [bnd6 _ (by assumption)] | rw [bnd0 _ (by assumption) (by assumption)]);(try simp only [List.nil_append]);exact fr0 hst _ _ _ (by omega))
theorem cloneT9 (l:List Str) (hn:l.length ≤ 2000000) (hl:l ≠ []) (st:List O):Duo.Call Tryz.prog Tryz.gl 144 [.sl (l.map .str) none] st (fun v st' => v = .sl (l.map .str) (some st.length) ∧ st' = st ++ [.tok 9 1 (l.map V.str).length]):=by
  have h:=cloneT_spec l hn hl st
  rwa [List.length_map]
set_option maxRecDepth 100000 in
set_option maxHeartbeats 8000000 in
theorem walkR_spec (p:Pr) (ha:smA p) (b:List Str) (hne:b ≠ []) (hbl:b.length + 2 * p.sz ≤ 1000000) (l:List Str) (hz:l.length + 2000001 * p.sz ≤ 1000000000) (ihr:∀ q ∈ p.kids,∀ (b:List Str),b ≠ [] → b.length + 2 * q.sz ≤ 1000000 → ∀ (l:List Str),l.length + 2000001 * q.sz ≤ 1000000000 → ∀ s0 s1:List O,Duo.Call Tryz.prog Tryz.gl 150 [encP q,.sl (b.map .str) none,.ptr (s0.length + 2) 0,.ptr (s0.length + 1) 0] (s0 ++ (.box 22 [.sl (l.map .str) (some (s0.length + 3))] :: .box 197 [.func (.func 150) [] [.ptr (s0.length + 2) 0,.ptr (s0.length + 1) 0]] :: .box 198 [.func (.func 149) [] [.ptr s0.length 0]] :: .tok 9 1 l.length :: s1)) (fun v st' => v = .tuple [] ∧ st' = s0 ++ (.box 22 [.sl ((walkL b q l).map .str) (some (s0.length + 3))] :: .box 197 [.func (.func 150) [] [.ptr (s0.length + 2) 0,.ptr (s0.length + 1) 0]] :: .box 198 [.func (.func 149) [] [.ptr s0.length 0]] :: .tok 9 1 (walkL b q l).length :: s1))) (s0 s1:List O):Duo.Call Tryz.prog Tryz.gl 150 [encP p,.sl (b.map .str) none,.ptr (s0.length + 2) 0,.ptr (s0.length + 1) 0] (s0 ++ (.box 22 [.sl (l.map .str) (some (s0.length + 3))] :: .box 197 [.func (.func 150) [] [.ptr (s0.length + 2) 0,.ptr (s0.length + 1) 0]] :: .box 198 [.func (.func 149) [] [.ptr s0.length 0]] :: .tok 9 1 l.length :: s1)) (fun v st' => v = .tuple [] ∧ st' = s0 ++ (.box 22 [.sl ((walkL b p l).map .str) (some (s0.length + 3))] :: .box 197 [.func (.func 150) [] [.ptr (s0.length + 2) 0,.ptr (s0.length + 1) 0]] :: .box 198 [.func (.func 149) [] [.ptr s0.length 0]] :: .tok 9 1 (walkL b p l).length :: s1)):=by
  refine Duo.Call.clo fun hst => ?_
  have ha2:=(smA_iff p).1 ha
  have hz2:=Pr.sz_eq p
  have hkl3:=Pr.szs_len p.kids
  refine Duo.Call.body 65 [(0,encP p),(1,.sl (b.map .str) none),(2,.ptr (s0.length + 2) 0),(3,.ptr (s0.length + 1) 0)] Tryz.func150 rfl rfl ?_
  repeat' first
    | (refine AW.anyT2 (id:=11) mix 5 1 _ (by decide +kernel) (by decide) rfl rfl ?_)
    | (refine AW.anyT2 (id:=13) mix 7 1 _ (by decide +kernel) (by decide) rfl rfl ?_)
    | (refine ⟨rfl,Nat.le_of_ble_eq_true rfl,_,b.map .str,9,1,rfl,by simpa using hne, ?_, ?_⟩;(refine tok_call rfl rfl ent144 (by simp only [go_sem,↓reduceIte,List.map_cons,List.map_nil];rfl) ?_;exact cloneT9 b (by omega) hne _))
    | refine AW.seqK fun K hK => ?_
    | (refine hK _ _ ?_;clear hK K)
    | refine AW.region ?_
    | refine awL_call rfl (by exact ent94) (by simp only [go_sem,↓reduceIte,Nat.reduceEqDiff,List.map_cons,List.map_nil];rfl) (by first | exact prefix_spec p _ | exact use_spec _ b _ none (by omega) (by omega) _ _ | exact Duo.Call.argle (show CLe _ [_,_,_,_] [_,_,_,_] from ⟨V.le_refl _ _,V.leS (mapA1 b p.var),V.le_refl _ _,V.le_refl _ _,trivial⟩) (ihr _ (List.getElem_mem (by assumption)) (b ++ [p.var]) (by simp) (by have:=szs_take (l:=p.kids) (m:=m) (by assumption);simp only [List.length_append,List.length_cons,List.length_nil];omega) _ (by have:=szs_take (l:=p.kids) (m:=m) (by assumption);omega) _ _) | exact Duo.Call.argle (show CLe _ [_,_,_,_] [_,_,_,_] from ⟨V.le_refl _ _,V.leS (mapA2 b p.chan p.var),V.le_refl _ _,V.le_refl _ _,trivial⟩) (ihr _ (List.getElem_mem (by assumption)) (b ++ [p.chan,p.var]) (by simp) (by have:=szs_take (l:=p.kids) (m:=m) (by assumption);simp only [List.length_append,List.length_cons,List.length_nil];omega) _ (by have:=szs_take (l:=p.kids) (m:=m) (by assumption);omega) _ _) | exact Duo.Call.argle (show CLe _ [_,_,_,_] [_,_,_,_] from ⟨V.le_refl _ _,V.le_sl _ _ _,V.le_refl _ _,V.le_refl _ _,trivial⟩) (ihr _ (List.getElem_mem (by assumption)) b hne (by have:=szs_take (l:=p.kids) (m:=m) (by assumption);omega) _ (by have:=szs_take (l:=p.kids) (m:=m) (by assumption);omega) _ _)) rfl ?_
    | refine awA_nil (by simp only [applyUps,List.nil_append,List.cons_append,S0,S2];rfl) ?_
    | refine awL_nil ?_
    | refine awL_S1 rfl rfl (by simp (disch:=omega) only [go_sem,↓reduceIte,Nat.reduceEqDiff,Nat.reduceAdd,Nat.reduceLeDiff,Nat.reduceLT,List.length_map,List.length_append,List.length_cons,List.length_nil,List.map_append,List.map_cons,List.map_nil];rfl) ?_
    | refine awA_S1 rfl rfl (by simp (disch:=omega) only [go_sem,↓reduceIte,Nat.reduceEqDiff,Nat.reduceAdd,Nat.reduceLeDiff,Nat.reduceMul,Nat.reduceLT,List.length_map,List.length_cons,List.length_nil,List.map_cons,List.map_nil];rfl) ?_
    | (refine AW.condK _ rfl (fun hb => ?_) (fun hb => ?_) <;> (try simp only [decide_eq_true_eq,decide_eq_false_iff_not] at hb) <;> skip)
    | refine AW.block ?_
    | refine bq_s ?_
    | refine tq_e ?_
    | refine AW.exit ?_
    | refine AW.skip ?_
    | refine useK (by assumption) ?_
    | ((first | (guard_hyp hb:preK p.kind = true;have hh:=headL_yes (b:=b) (l:=l) hb) | (guard_hyp hb:preK p.kind = false;have hh:=headL_no (b:=b) (l:=l) hb));refine AW.loopS (α:={ i:Nat // i ≤ p.args.length }) 65 (fun i => [(1,.sl (b.map .str) none),(2,.ptr (s0.length + 2) 0),(3,.ptr (s0.length + 1) 0),(4,.ptr (s0.length + (s1.length + 4)) 0),(18,.sl (p.args.map encV) none),(19,.int .i64 p.args.length),(20,.int .i64 (i.1:Nat))]) (fun i => s0 ++ (.box 22 [.sl ((argL b p l i.1).map .str) (some (s0.length + 3))] :: .box 197 [.func (.func 150) [] [.ptr (s0.length + 2) 0,.ptr (s0.length + 1) 0]] :: .box 198 [.func (.func 149) [] [.ptr s0.length 0]] :: .tok 9 1 (argL b p l i.1).length :: (s1 ++ [.box 29 (encP p).cells]))) (fun i => p.args.length - i.1) ⟨0,Nat.zero_le _⟩ rfl ?_ ?_ ?_;(focus (simp (disch:=omega) only [go_sem,↓reduceIte,Nat.reduceEqDiff];done));(focus (simp (disch:=omega) only [go_sem,argL_0,hh];done));rintro ⟨i,hi⟩ hlc;dsimp only;have hal:=argL_len b p l i)
    | (guard_hyp hb:p.args[i].kind = 1;have huk:=argL_yes (b:=b) (p:=p) (l:=l) (by assumption) hb;refine ⟨⟨i + 1,by omega⟩,by simp only [];omega,_,Nat.le_refl _,Nat.le_of_ble_eq_true rfl, ?_, ?_⟩ <;> (simp (disch:=omega) only [go_sem,↓reduceIte,Nat.reduceEqDiff,Nat.reduceAdd,fr1 hst,huk,List.length_append];done))
    | (guard_hyp hb:¬ p.args[i].kind = 1;have huk:=argL_no (b:=b) (p:=p) (l:=l) (by assumption) hb;refine ⟨⟨i + 1,by omega⟩,by simp only [];omega,_,Nat.le_refl _,Nat.le_of_ble_eq_true rfl, ?_, ?_⟩ <;> (simp (disch:=omega) only [go_sem,↓reduceIte,Nat.reduceEqDiff,Nat.reduceAdd,fr1 hst,huk,List.length_append]))
    | (have hk9:p.kind = 3:=(by assumption);(have hin:=Nat.le_antisymm hi (Nat.le_of_not_lt (by assumption)));subst hin;refine AW.loopS (α:={ m:Nat // m ≤ p.kids.length }) 65 (fun m => [(1,.sl ((b ++ [p.var]).map .str) (some (s0.length + (s1.length + 5)))),(2,.ptr (s0.length + 2) 0),(3,.ptr (s0.length + 1) 0),(4,.ptr (s0.length + (s1.length + 4)) 0),(54,.sl (p.kids.map encP) none),(55,.int .i64 p.kids.length),(56,.int .i64 (m.1:Nat))]) (fun m => s0 ++ (.box 22 [.sl ((kidL (b ++ [p.var]) p (argL b p l p.args.length) m.1).map .str) (some (s0.length + 3))] :: .box 197 [.func (.func 150) [] [.ptr (s0.length + 2) 0,.ptr (s0.length + 1) 0]] :: .box 198 [.func (.func 149) [] [.ptr s0.length 0]] :: .tok 9 1 (kidL (b ++ [p.var]) p (argL b p l p.args.length) m.1).length :: (s1 ++ [.box 29 (encP p).cells,.tok 9 1 (b.length + 1),.tok 9 1 1]))) (fun m => p.kids.length - m.1) ⟨0,Nat.zero_le _⟩ rfl ?_ ?_ ?_;(focus (simp (disch:=omega) only [go_sem,↓reduceIte,Nat.reduceEqDiff];done));(focus (simp (disch:=omega) only [go_sem,kidL_0];done));rintro ⟨m,hm⟩ hlc;dsimp only;have hkl:=kidL_len (b:=(b ++ [p.var])) (p:=p) (l:=(argL b p l p.args.length)) (m:=m) ha2.2.2.2)
    | (have hk9:p.kind = 3:=(by assumption);have hku:=kidL_at (b:=(b ++ [p.var])) (p:=p) (l:=(argL b p l p.args.length)) (m:=m) (by assumption);refine ⟨⟨m + 1,by omega⟩,by simp only [];omega,_,Nat.le_refl _,Nat.le_of_ble_eq_true rfl, ?_, ?_⟩ <;> (simp (disch:=omega) only [go_sem,↓reduceIte,Nat.reduceEqDiff,Nat.reduceAdd,fr3 hst,hku,List.length_append]))
    | (have hk9:p.kind = 6:=(by assumption);(have hin:=Nat.le_antisymm hi (Nat.le_of_not_lt (by assumption)));subst hin;refine AW.loopS (α:={ m:Nat // m ≤ p.kids.length }) 65 (fun m => [(1,.sl ((b ++ [p.chan,p.var]).map .str) (some (s0.length + (s1.length + 5)))),(2,.ptr (s0.length + 2) 0),(3,.ptr (s0.length + 1) 0),(4,.ptr (s0.length + (s1.length + 4)) 0),(54,.sl (p.kids.map encP) none),(55,.int .i64 p.kids.length),(56,.int .i64 (m.1:Nat))]) (fun m => s0 ++ (.box 22 [.sl ((kidL (b ++ [p.chan,p.var]) p (argL b p l p.args.length) m.1).map .str) (some (s0.length + 3))] :: .box 197 [.func (.func 150) [] [.ptr (s0.length + 2) 0,.ptr (s0.length + 1) 0]] :: .box 198 [.func (.func 149) [] [.ptr s0.length 0]] :: .tok 9 1 (kidL (b ++ [p.chan,p.var]) p (argL b p l p.args.length) m.1).length :: (s1 ++ [.box 29 (encP p).cells,.tok 9 1 (b.length + 2),.tok 9 1 2]))) (fun m => p.kids.length - m.1) ⟨0,Nat.zero_le _⟩ rfl ?_ ?_ ?_;(focus (simp (disch:=omega) only [go_sem,↓reduceIte,Nat.reduceEqDiff];done));(focus (simp (disch:=omega) only [go_sem,kidL_0];done));rintro ⟨m,hm⟩ hlc;dsimp only;have hkl:=kidL_len (b:=(b ++ [p.chan,p.var])) (p:=p) (l:=(argL b p l p.args.length)) (m:=m) ha2.2.2.2)
    | (have hk9:p.kind = 6:=(by assumption);have hku:=kidL_at (b:=(b ++ [p.chan,p.var])) (p:=p) (l:=(argL b p l p.args.length)) (m:=m) (by assumption);refine ⟨⟨m + 1,by omega⟩,by simp only [];omega,_,Nat.le_refl _,Nat.le_of_ble_eq_true rfl, ?_, ?_⟩ <;> (simp (disch:=omega) only [go_sem,↓reduceIte,Nat.reduceEqDiff,Nat.reduceAdd,fr3 hst,hku,List.length_append]))
    | (have hk9:¬ p.kind = 6:=(by assumption);(have hin:=Nat.le_antisymm hi (Nat.le_of_not_lt (by assumption)));subst hin;refine AW.loopS (α:={ m:Nat // m ≤ p.kids.length }) 65 (fun m => [(1,.sl (b.map .str) none),(2,.ptr (s0.length + 2) 0),(3,.ptr (s0.length + 1) 0),(4,.ptr (s0.length + (s1.length + 4)) 0),(54,.sl (p.kids.map encP) none),(55,.int .i64 p.kids.length),(56,.int .i64 (m.1:Nat))]) (fun m => s0 ++ (.box 22 [.sl ((kidL b p (argL b p l p.args.length) m.1).map .str) (some (s0.length + 3))] :: .box 197 [.func (.func 150) [] [.ptr (s0.length + 2) 0,.ptr (s0.length + 1) 0]] :: .box 198 [.func (.func 149) [] [.ptr s0.length 0]] :: .tok 9 1 (kidL b p (argL b p l p.args.length) m.1).length :: (s1 ++ [.box 29 (encP p).cells]))) (fun m => p.kids.length - m.1) ⟨0,Nat.zero_le _⟩ rfl ?_ ?_ ?_;(focus (simp (disch:=omega) only [go_sem,↓reduceIte,Nat.reduceEqDiff];done));(focus (simp (disch:=omega) only [go_sem,kidL_0];done));rintro ⟨m,hm⟩ hlc;dsimp only;have hkl:=kidL_len (b:=b) (p:=p) (l:=(argL b p l p.args.length)) (m:=m) ha2.2.2.2)
    | (have hk9:¬ p.kind = 6:=(by assumption);have hku:=kidL_at (b:=b) (p:=p) (l:=(argL b p l p.args.length)) (m:=m) (by assumption);refine ⟨⟨m + 1,by omega⟩,by simp only [];omega,_,Nat.le_refl _,Nat.le_of_ble_eq_true rfl, ?_, ?_⟩ <;> (simp (disch:=omega) only [go_sem,↓reduceIte,Nat.reduceEqDiff,Nat.reduceAdd,fr1 hst,hku,List.length_append]))
    | (show (_ ∨ _) ∧ _;refine ⟨.inl rfl, ?_⟩;show resP _ _ _ [] _;simp (disch:=omega) only [go_sem,Nat.reduceAdd,List.length_append,List.length_cons];refine ⟨_,_,_,Nat.le_refl _,V.le_refl _ _,StLe.refl _, ?_⟩;(simp (disch:=omega) only [go_sem]))
  all_goals (have hme:m = p.kids.length:=Nat.le_antisymm hm (Nat.le_of_not_lt (by assumption));subst hme;rw [← kidL_all b p l];(first | rw [bnd3 _ (by assumption)] | rw [bnd6 _ (by assumption)] | rw [bnd0 _ (by assumption) (by assumption)]);(skip);exact fr0 hst _ _ _ (by omega))
theorem walk_all:∀ p:Pr,smA p → p.sz ≤ 300 → (∀ (l:List Str),l.length + 2000001 * p.sz ≤ 1000000000 → ∀ s0 s1:List O,Duo.Call Tryz.prog Tryz.gl 150 [encP p,.nil,.ptr (s0.length + 2) 0,.ptr (s0.length + 1) 0] (s0 ++ (.box 22 [.sl (l.map .str) (some (s0.length + 3))] :: .box 197 [.func (.func 150) [] [.ptr (s0.length + 2) 0,.ptr (s0.length + 1) 0]] :: .box 198 [.func (.func 149) [] [.ptr s0.length 0]] :: .tok 9 1 l.length :: s1)) (fun v st' => v = .tuple [] ∧ st' = s0 ++ (.box 22 [.sl ((walkL [] p l).map .str) (some (s0.length + 3))] :: .box 197 [.func (.func 150) [] [.ptr (s0.length + 2) 0,.ptr (s0.length + 1) 0]] :: .box 198 [.func (.func 149) [] [.ptr s0.length 0]] :: .tok 9 1 (walkL [] p l).length :: s1))) ∧
    (∀ (b:List Str),b ≠ [] → b.length + 2 * p.sz ≤ 1000000 → ∀ (l:List Str),l.length + 2000001 * p.sz ≤ 1000000000 → ∀ s0 s1:List O,Duo.Call Tryz.prog Tryz.gl 150 [encP p,.sl (b.map .str) none,.ptr (s0.length + 2) 0,.ptr (s0.length + 1) 0] (s0 ++ (.box 22 [.sl (l.map .str) (some (s0.length + 3))] :: .box 197 [.func (.func 150) [] [.ptr (s0.length + 2) 0,.ptr (s0.length + 1) 0]] :: .box 198 [.func (.func 149) [] [.ptr s0.length 0]] :: .tok 9 1 l.length :: s1)) (fun v st' => v = .tuple [] ∧ st' = s0 ++ (.box 22 [.sl ((walkL b p l).map .str) (some (s0.length + 3))] :: .box 197 [.func (.func 150) [] [.ptr (s0.length + 2) 0,.ptr (s0.length + 1) 0]] :: .box 198 [.func (.func 149) [] [.ptr s0.length 0]] :: .tok 9 1 (walkL b p l).length :: s1))):=Pr.ind' fun p ih ha hz => by
  have ha2:=(smA_iff p).1 ha
  have hk:∀ q ∈ p.kids,smA q ∧ q.sz ≤ 300:=fun q hq => ⟨ha2.2.2.2 q hq,by have:=Pr.szs_mem hq;have:=Pr.sz_eq p;omega⟩
  have ihr:=fun q hq => (ih q hq (hk q hq).1 (hk q hq).2).2
  have ihn:=fun q hq => (ih q hq (hk q hq).1 (hk q hq).2).1
  exact ⟨fun l hl s0 s1 => walkN_spec p ha l hl (by omega) ihr ihn s0 s1,fun b hne hb l hl s0 s1 => walkR_spec p ha b hne hb l hl ihr s0 s1⟩
theorem walkFG_spec (p:Pr) (ha:smA p) (hz:p.sz ≤ 300) (a:O) (st:List O):Duo.Call Tryz.prog Tryz.gl 150 [encP p,.nil,.ptr (st.length + 3) 0,.ptr (st.length + 2) 0] (st ++ [a,.box 22 [.sl [] (some (st.length + 4))],.box 197 [.func (.func 150) [] [.ptr (st.length + 3) 0,.ptr (st.length + 2) 0]],.box 198 [.func (.func 149) [] [.ptr (st.length + 1) 0]],.tok 9 1 0]) (fun v st' => v = .tuple [] ∧ st' = st ++ [a,.box 22 [.sl ((freeS p).map .str) (some (st.length + 4))],.box 197 [.func (.func 150) [] [.ptr (st.length + 3) 0,.ptr (st.length + 2) 0]],.box 198 [.func (.func 149) [] [.ptr (st.length + 1) 0]],.tok 9 1 (freeS p).length]):=by
  have h:=(walk_all p ha hz).1 [] (by simp only [List.length_nil];omega) (st ++ [a]) []
  simp only [List.append_assoc,List.cons_append,List.nil_append,List.length_append,List.length_cons,List.length_nil,Nat.add_assoc,Nat.reduceAdd,List.map_nil] at h
  exact h
theorem stLeFG (st:List O) (a:O):StLe (st ++ [a,.box 22 [.nil],.box 197 [.func (.func 150) [] [.ptr (st.length + 3) 0,.ptr (st.length + 2) 0]],.box 198 [.func (.func 149) [] [.ptr (st.length + 1) 0]],.tok 9 1 0]) (st ++ [a,.box 22 [.sl [] (some (st.length + 4))],.box 197 [.func (.func 150) [] [.ptr (st.length + 3) 0,.ptr (st.length + 2) 0]],.box 198 [.func (.func 149) [] [.ptr (st.length + 1) 0]],.tok 9 1 0]):=by
  refine StLe.app ⟨O.le_refl _ _,⟨[.sl [] (some (st.length + 4))],rfl,rfl,fun i c d hc hd => ?_⟩,O.le_refl _ _,O.le_refl _ _,O.le_refl _ _,trivial⟩
  rcases i with _ | i
  · simp only [List.getElem?_cons_zero,Option.some.injEq] at hc hd
    subst hc hd
    exact V.le_nil_tok (e:=9) (sz:=1) (by simp)
  · simp at hc
set_option maxRecDepth 100000 in
set_option maxHeartbeats 8000000 in
theorem pfreeG_spec (p:Pr) (ha:smA p) (hz:p.sz ≤ 300) (st:List O):Duo.Call Tryz.prog Tryz.gl 103 [encP p] st (fun v st' => v = .sl ((freeS p).map .str) none ∧ st' = st):=by
  refine Duo.Call.clo fun hst => ?_
  refine Duo.Call.body 12 [(0,encP p)] Tryz.func103 rfl rfl ?_
  repeat' first
    | (refine AW.tok 9 1 ?_;rw [List.append_assoc];simp only [List.cons_append,List.nil_append];refine AW.pre (Env.le_refl _ _) (stLeFG st _) ?_)
    | refine AW.seqK fun K hK => ?_
    | (refine hK _ _ ?_;clear hK K)
    | refine AW.region ?_
    | refine awL_call rfl (by exact ent150) (by simp only [go_sem,↓reduceIte];rfl) (by exact walkFG_spec p ha hz _ _) rfl ?_
    | refine awL_nil ?_
    | refine awL_S1 rfl rfl (by simp (disch:=omega) only [go_sem,↓reduceIte,Nat.reduceEqDiff,Nat.reduceAdd];rfl) ?_
    | (refine AW.ret ?_;show (_ ∨ _) ∧ _;refine ⟨.inr rfl, ?_⟩;show resP _ _ _ [.tmp 2] _;simp (disch:=omega) only [go_sem,↓reduceIte];refine ⟨_,_,_,Nat.le_refl _,V.le_refl _ _,StLe.refl _, ?_⟩;(simp (disch:=omega) only [go_sem,hst.trim_append]))
  all_goals trace_state
end Tryz
end Go.Proofs
