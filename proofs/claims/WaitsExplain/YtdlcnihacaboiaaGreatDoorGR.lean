/-
  A part of the proof.
-/
import Derived.Test.YtdlcnihacaboiaaGreatDoorSubLib
import Derived.Test.YtdlcnihacaboiaaGreatDoorGG
import Derived.Test.YtdlcnihacaboiaaGreatDoorDS3
import Derived.Test.YtdlcnihacaboiaaGreatDoorGO
set_option linter.all false
namespace Go.Proofs
open Go Go.Duo
namespace Tryz
attribute [local irreducible] awL awA awT AW
set_option maxRecDepth 100000 in
set_option maxHeartbeats 8000000 in
theorem decimalF_aux (m:Nat):∀ (n:Int) (_:2 * n.natAbs + (if n < 0 then 1 else 0) < m) (h0:-9223372036854775808 ≤ n) (h1:n ≤ 9223372036854775807) (st:List O),Duo.Call Tryz.prog Tryz.gl 17 [.int .i64 n] st (fun v st' => v = .str (Lib.itoa n) ∧ st' = st):=by
  induction m with
  | zero => intro n h;omega
  | succ m ih =>
  intro n hm h0 h1 st
  refine Duo.Call.clo fun hst => ?_
  have hl:=Lib.itoa_length_le (n / 10) (by omega) (by omega)
  have hl0:-9223372036854775807 ≤ n → (Lib.itoa (0 - n)).length ≤ 21:=fun h => Lib.itoa_length_le (0 - n) (by omega) (by omega)
  have hl2:(List.drop (n % 10).toNat (List.take (n % 10 + 1).toNat ([48,49,50,51,52,53,54,55,56,57]:Str))).length ≤ 1:=by rw [List.length_drop,List.length_take];omega
  refine Duo.Call.body 28 [(0,.int .i64 n)] Tryz.func17 rfl rfl ?_
  repeat' first
    | refine AW.seqK fun K hK => ?_
    | (refine hK _ _ ?_;clear hK K)
    | refine AW.region ?_
    | refine awL_call rfl (by exact ent17) (by simp only [go_sem,↓reduceIte];rfl) (by (exact ih _ (by split at hm <;> split <;> omega) (by omega) (by omega) _)) rfl ?_
    | refine awL_nil ?_
    | refine awL_S1 rfl rfl (by simp (disch:=omega) only [go_sem,↓reduceIte,Nat.reduceEqDiff,Nat.reduceAdd];rfl) ?_
    | (refine AW.condK _ rfl (fun hb => ?_) (fun hb => ?_) <;> (simp only [decide_eq_true_eq,decide_eq_false_iff_not,Int.not_lt] at hb) <;> skip)
    | refine AW.skip ?_
    | (refine AW.ret ?_;show (_ ∨ _) ∧ _;refine ⟨.inr rfl, ?_⟩;show resP _ _ _ [.tmp 2] _;simp (disch:=omega) only [go_sem,↓reduceIte];refine ⟨_,_,_,Nat.le_refl _,V.le_refl _ _,StLe.refl _, ?_⟩;(simp (disch:=omega) only [go_sem,hst.trim]))
  all_goals first | (have e:n = -9223372036854775808:=(by omega);rw [e,itoa_min];done) | exact congrArg V.str (itoa_minus (by omega)) | exact congrArg V.str (itoa_small (by omega) (by omega)) | exact congrArg V.str (itoa_big (by omega))
theorem decimalF_spec (n:Int) (h0:-9223372036854775808 ≤ n) (h1:n ≤ 9223372036854775807) (st:List O):Duo.Call Tryz.prog Tryz.gl 17 [.int .i64 n] st (fun v st' => v = .str (Lib.itoa n) ∧ st' = st):=decimalF_aux _ n (Nat.lt_succ_self _) h0 h1 st
end Tryz
end Go.Proofs

namespace Go.Proofs
open Go Go.Duo
namespace Tryz
attribute [local irreducible] awL awA awT AW
set_option maxRecDepth 100000 in
set_option maxHeartbeats 8000000 in
theorem rnameg_spec (k:Int) (p:Bool) (h0:-9223372036854775808 ≤ k) (h1:k ≤ 9223372036854775807) (st:List O):Duo.Call Tryz.prog Tryz.gl 67 [.int .i64 k,.bool p] st (fun v st' => v = .str (nameL k p) ∧ st' = st):=by
  refine Duo.Call.clo fun hst => ?_
  have hl:=Lib.itoa_length_le k h0 h1
  refine Duo.Call.body 12 [(0,.int .i64 k),(1,.bool p)] Tryz.func67 rfl rfl ?_
  repeat' first
    | refine AW.seqK fun K hK => ?_
    | (refine hK _ _ ?_;clear hK K)
    | refine AW.region ?_
    | refine awL_call rfl (by exact ent17) (by simp only [go_sem,↓reduceIte];rfl) (by exact decimalF_spec _ (by omega) (by omega) _) rfl ?_
    | refine awL_nil ?_
    | refine awL_S1 rfl rfl (by simp (disch:=omega) only [go_sem,↓reduceIte,Nat.reduceEqDiff,Nat.reduceLeDiff];rfl) ?_
    | (refine AW.condK _ rfl (fun hb => ?_) (fun hb => ?_) <;> (skip) <;> skip)
    | refine AW.skip ?_
    | (refine AW.ret ?_;show (_ ∨ _) ∧ _;refine ⟨.inr rfl, ?_⟩;show resP _ _ _ [.tmp 4] _;simp (disch:=omega) only [go_sem,↓reduceIte];refine ⟨_,_,_,Nat.le_refl _,V.le_refl _ _,StLe.refl _, ?_⟩;(simp (disch:=omega) only [go_sem,hst.trim]))
  all_goals (unfold nameL;simp_all)
end Tryz
end Go.Proofs

namespace Go.Duo
open Go
mutual
def V.norm:V → V
  | .agg cs => .agg (V.normL cs)
  | .nil => .sl [] none
  | .sl es _ => .sl (V.normL es) none
  | v => v
def V.normL:List V → List V
  | [] => []
  | v :: l => V.norm v :: V.normL l
end
theorem V.normL_eq (l:List V):V.normL l = l.map V.norm:=by induction l with | nil => rfl | cons v l ih => rw [V.normL,ih];rfl
theorem norm_cells (v:V):(V.norm v).cells = v.cells.map V.norm:=by
  cases v <;> first | rfl | (rw [V.norm,V.normL_eq];rfl)
theorem flat_norm (es:List V):flat (es.map V.norm) = (flat es).map V.norm:=by
  induction es with
  | nil => rfl
  | cons e es ih => rw [List.map_cons,flat_cons,flat_cons,List.map_append,ih,norm_cells]
theorem norm_one {v:V} (h:v.one = true):(V.norm v).one = true:=by
  cases v <;> first | exact h | rfl | (cases h;done)
theorem PR.norm {w:World} {K:Nat → Nat → Prop} {v:V} {x:Value} (h:PR w K v x):PR w K (V.norm v) x:=by
  induction h with
  | int k n => exact .int k n
  | bool b => exact .bool b
  | str s => exact .str s
  | agg cs xs hl _ ih =>
    rw [V.norm,V.normL_eq]
    refine .agg _ xs (by rw [List.length_map];exact hl) fun i c x hc hx => ?_
    rw [List.getElem?_map] at hc
    cases hci:cs[i]? with
    | none => rw [hci] at hc;cases hc
    | some c0 => rw [hci] at hc;cases hc;exact ih i c0 x hci hx
  | tuple cs xs hl h _ => exact .tuple cs xs hl h
  | nil a => exact PR.nil_sl a
  | sl es a cap sz x hcap hmax hsz h1 hc _ ih =>
    rw [V.norm,V.normL_eq]
    have e:es.length = (es.map V.norm).length:=(List.length_map ..).symm
    rw [e]
    have hf:∀ (j:Nat) (c:V),(flat (es.map V.norm))[j]? = some c → ∃ c0,(flat es)[j]? = some c0 ∧ c = V.norm c0:=fun j c hj => by
      rw [flat_norm,List.getElem?_map] at hj
      cases hci:(flat es)[j]? with
      | none => rw [hci] at hj;cases hj
      | some c0 => rw [hci] at hj;cases hj;exact ⟨c0,rfl,rfl⟩
    refine .sl _ a cap sz x (by rw [← e];exact hcap) hmax (fun e he => ?_) (fun c hc => ?_) (fun j c hj => ?_) (fun j c hj => ?_)
    · obtain ⟨e0,he0,rfl⟩:=List.mem_map.1 he
      rw [norm_cells,List.length_map];exact hsz e0 he0
    · rw [flat_norm] at hc
      obtain ⟨c0,hc0,rfl⟩:=List.mem_map.1 hc
      exact norm_one (h1 c0 hc0)
    · obtain ⟨c0,h1,h2⟩:=hf j c hj;exact hc j c0 h1
    · obtain ⟨c0,h1,rfl⟩:=hf j c hj;exact ih j c0 h1
  | nilptr => exact .nilptr
  | dptr cs b o x hc h _ => exact .dptr cs b o x hc h
  | pmap ks vs r es clock hb hK hkl hvl h h' _ _ => exact .pmap ks vs r es clock hb hK hkl hvl h h'
  | func fn fs cs xs ys hl hl' h h' _ _ => exact .func fn fs cs xs ys hl hl' h h'
  | nilfunc => exact .nilfunc
  | iface t v x h _ => exact .iface t v x h
  | niliface => exact .niliface
mutual
theorem V.le_norm (st:List O):∀ v:V,V.le st v (V.norm v)
  | .agg cs => by
    rw [V.norm]
    exact V.le_agg (by rw [V.normL_eq,List.length_map]) (V.le_normL st cs)
  | .sl es t => V.le_trans (V.le_sl _ _ t) fun w s x _ hx => .pure _ _ hx.sl_inv.norm
  | .nil => V.le_nil _
  | .undef | .int _ _ | .bool _ | .str _ | .ref _ _ | .rptr _ _ _ | .ptr _ _ | .dptr _ | .nilptr | .map _ | .pmap _ _ | .nilfunc | .niliface | .yld _ | .tuple _ | .func _ _ _ | .iface _ _ => V.le_refl _ _
theorem V.le_normL (st:List O):∀ (cs:List V) (i:Nat) (c d:V),cs[i]? = some c → (V.normL cs)[i]? = some d → V.le st c d
  | [],i,c,d,h,_ => by cases i <;> cases h
  | v :: l,0,c,d,h,h' => by
    rw [V.normL] at h'
    simp only [List.getElem?_cons_zero,Option.some.injEq] at h h'
    subst h h'
    exact V.le_norm st v
  | v :: l,i + 1,c,d,h,h' => by
    rw [V.normL] at h'
    simp only [List.getElem?_cons_succ] at h h'
    exact V.le_normL st l i c d h h'
end
theorem Call.cut0 {P:Program} {gl:Nat → V} {k:FuncId} {args:List V} {v v1:V} {st0:List O} (h:Call P gl k args [] fun v' st' => v' = v ∧ st' = st0) (hv:∀ s,V.le s (v.trim 0) v1):Call P gl k args [] fun v' st' => v' = v1 ∧ st' = []:=fun w s xs hs0 hs hxs =>
  CallsIn.mono (h w s xs hs0 hs hxs) fun e w' ⟨v',x,s',h1,h2,h3,h4,h5,h6⟩ => by
    subst h5
    exact ⟨v1,x,s'.trim 0,h1,h2.trim 0,h3.trim hs.len h2.len (by rw [hs0];exact Nat.zero_le _),hv _ w' (s'.trim 0) x rfl (Rep.trim h4),rfl,by simp [S.trim]⟩
end Go.Duo
