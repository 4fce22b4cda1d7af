/-
  A part of the proof.
-/
import Derived.Test.YtdlcnihacaboiaaGreatDoorGF
import Derived.Lib.SliceRun
import Derived.Test.YtdlcnihacaboiaaGreatDoorGG
import Derived.Test.YtdlcnihacaboiaaGreatDoorGH
set_option linter.all false
namespace Go.Duo
open Go
section
variable {P:Program} {gl:Nat → V} {r:Option Nat} {e:Env} {st:List O} {Q:Exit → Env → List O → Prop}
def isRow:V → Bool
  | .sl _ _ | .nil => true
  | _ => false
def rowEs:V → List V
  | .sl es _ => es
  | _ => []
theorem PR.slNone {w:World} {K:Nat → Nat → Prop} {es:List V} {n c:Nat} (h:PR w K (.sl es none) (.slice none n c)):flat es = []:=by
  cases h with
  | sl _ _ _ sz y hcap hmax hsz h1 hc hh =>
    cases hf:flat es with
    | nil => rfl
    | cons x xs =>
      obtain ⟨b,o,ha,_⟩:=hc 0 x (by rw [hf];rfl)
      cases ha
theorem isRow_rep {w:World} {s:S} {v:V} {x:Value} (h:isRow v = true) (hx:Rep w s v x):∃ a n c,x = .slice a n c ∧ (a = none → flat (rowEs v) = []):=by
  cases v <;> simp only [isRow,Bool.false_eq_true] at h
  · have hp:=hx.sl_inv
    obtain ⟨a,n,c,rfl⟩:∃ a n c,x = .slice a n c:=by cases hp with | sl _ a cap => exact ⟨_,_,_,rfl⟩
    exact ⟨a,n,c,rfl,fun h => by subst h;exact hp.slNone⟩
  · cases hx with
    | pure _ _ h => cases h with | nil a => exact ⟨_,_,_,rfl,fun _ => rfl⟩
theorem AW.regionNil {id d1 d2:Nat} {x:Operand} {t t1 t2 u et sz by_:TypeId} {p1 p2:String} {a1 a2:Array Edge} {v:V} (hx:e.ev gl x = v) (hv:isRow v = true) (he:elt P t = some (et,sz,by_)) (h1:d1 < e.n) (h2:d2 < e.n)
    (h:∀ b,(b = true → flat (rowEs v) = []) → Q .normal ((e.put (some d1) v).put (some d2) (.bool b)) st) :
    AW P gl r (.region id #[⟨some d1,.move x,t1,p1,a1,none⟩,⟨some d2,.binOp .eql t (.tmp d1) (.const (.slice none 0 0)) u,t2,p2,a2,none⟩] false) Q e st:=fun n0 w s a hn hst hs ha => by
  refine wpIn_region ?_
  show wpOpsIn (Fr r) 0 P _ _ [0,1] a w
  have hs1:step1 P gl (e.ev gl) st (.move x) (fun v' st' => v' = v ∧ st' = st):=⟨hx,rfl⟩
  rw [wpOpsIn_cons]
  unfold wpOpIn
  simp only [List.getElem?_toArray,List.getElem?_cons_zero,Region.wanted,if_true]
  refine step1_sound (o:=⟨some d1,.move x,t1,p1,a1,none⟩) hs1 n0 w s _ _ _ hn hst hs ha fun v' y w' s' hs' hE hr hK => ?_
  obtain ⟨rfl,hst'⟩:=hK
  have ha':=(ha.evolve hE hs.wf).put (d:=some d1) h1 hr
  rw [wpOpsIn_cons]
  unfold wpOpIn
  simp only [List.getElem?_toArray,List.getElem?_cons_succ,List.getElem?_cons_zero,Region.wanted,if_true]
  have hAO:AO P gl r ⟨some d2,.binOp .eql t (.tmp d1) (.const (.slice none 0 0)) u,t2,p2,a2,none⟩ (e.put (some d1) v') st (fun v2 st2 => (∃ b,v2 = .bool b ∧ (b = true → flat (rowEs v') = [])) ∧ st2 = st):=by
    refine AO.of_run (fun c => by simp) fun n1 w1 s1 a1 _ hst1 hs1 ha1 hr1 => ?_
    have hv1:=hr1 (.tmp d1)
    have hg:(e.put (some d1) v').ev gl (.tmp d1) = v':=by
      show (e.put (some d1) v').get d1 = v'
      simp [Env.put,Env.get,getM]
    rw [hg] at hv1
    obtain ⟨ad,n,c,hy,hnil⟩:=isRow_rep hv hv1
    obtain ⟨hu,_⟩:=elt_runs he
    refine ⟨.bool ad.isNone,w1,s1,⟨.bool ad.isNone,.inl ⟨?_,.pure _ _ (.bool _)⟩⟩,hs1,Evolve.refl hs1.wf,⟨_,rfl,fun hb => hnil (by simpa using hb)⟩,hst1⟩
    have:=Lib.run_eql_slice_nil (P:=P) w1 t et ad n c 0 0 hu
    have hq:∀ y',(eqGuard .eql t (.tmp d1) (.const (.slice none 0 0)) (.slice ad n c) y').run P w1 = .ok () w1:=fun y' => eqGuard_calm _ _ _ _ ⟨fun _ => by simp,by simp⟩
    have hy2:a1.tmps[d1]?.getD undef = .slice ad n c:=by simpa [Act.eval] using hy
    simp [execOp,Act.eval,hy2,hq,this]
  refine hAO n0 w' s' _ _ _ (Nat.le_trans hn hE.size) hst' hs' ha' fun v2 y2 w2 s2 hs2 hE2 hr2 hK2 => ?_
  obtain ⟨⟨b,rfl,hbn⟩,hst2⟩:=hK2
  refine ⟨_,s2,hs2,hE.trans hs.len hs'.len hE2,(ha'.evolve hE2 hs'.wf).put (d:=some d2) h2 hr2, ?_⟩
  rw [hst2]
  exact h b hbn
end
end Go.Duo

namespace Go.Duo
open Go
section
variable {P:Program} {gl:Nat → V} {r:Option Nat} {e:Env} {st:List O} {w w':World} {s s':S} {ops:Array Oper} {m:Nat}
def tkEq:O → O → Prop
  | .tok e sz _,o' => ∃ n,o' = .tok e sz n
  | .arr e sz _ _,o' => ∃ v es,o' = .arr e sz v es
  | o,o' => o' = o
def TkEq (st st':List O):Prop:=st.length = st'.length ∧ ∀ (i:Nat) (o:O),st[i]? = some o → ∃ o',st'[i]? = some o' ∧ tkEq o o'
theorem tkEq.refl (o:O):tkEq o o:=by cases o <;> first | exact ⟨_,rfl⟩ | exact ⟨_,_,rfl⟩ | rfl
theorem tkEq.symm {o o':O} (h:tkEq o o'):tkEq o' o:=by cases o <;> first | (obtain ⟨n,rfl⟩:=h;exact ⟨_,rfl⟩) | (obtain ⟨n,l,rfl⟩:=h;exact ⟨_,_,rfl⟩) | (cases h;exact tkEq.refl _)
theorem tkEq.trans {o o' o2:O} (h:tkEq o o') (k:tkEq o' o2):tkEq o o2:=by cases o <;> first | (obtain ⟨n,rfl⟩:=h;obtain ⟨n',rfl⟩:=k;exact ⟨_,rfl⟩) | (obtain ⟨n,l,rfl⟩:=h;obtain ⟨n',l',rfl⟩:=k;exact ⟨_,_,rfl⟩) | (cases h;exact k)
theorem TkEq.refl (st:List O):TkEq st st:=⟨rfl,fun i o h => ⟨o,h,tkEq.refl o⟩⟩
theorem TkEq.trans {a b c:List O} (h:TkEq a b) (k:TkEq b c):TkEq a c:=⟨h.1.trans k.1,fun i o ho => by
  obtain ⟨o1,h1,h2⟩:=h.2 i o ho
  obtain ⟨o2,h3,h4⟩:=k.2 i o1 h1
  exact ⟨o2,h3,h2.trans h4⟩⟩
theorem TkEq.symm {a b:List O} (h:TkEq a b):TkEq b a:=⟨h.1.symm,fun i o ho => by
  have hi:i < a.length:=by have:=(List.getElem?_eq_some_iff.1 ho).1;have:=h.1;omega
  obtain ⟨o1,h1,h2⟩:=h.2 i a[i] (List.getElem?_eq_getElem hi)
  rw [ho] at h1
  simp only [Option.some.injEq] at h1
  subst h1
  exact ⟨_,List.getElem?_eq_getElem hi,h2.symm⟩⟩
theorem TkEq.box {a b:List O} (h:TkEq a b) {id:Nat} {t:TypeId} {cs:List V} (ho:a[id]? = some (.box t cs)):b[id]? = some (.box t cs):=by
  obtain ⟨o,h1,h2⟩:=h.2 id _ ho
  cases h2
  exact h1
theorem TkEq.set {a:List O} {id:Nat} {t:TypeId} {sz n n':Nat} (ho:a[id]? = some (.tok t sz n)):TkEq a (a.set id (.tok t sz n')):=⟨by simp,fun i o h => by
  by_cases hi:id = i
  · subst hi
    rw [ho] at h
    simp only [Option.some.injEq] at h
    subst h
    exact ⟨_,by rw [List.getElem?_set_self (List.getElem?_eq_some_iff.1 ho).1],n',rfl⟩
  · exact ⟨o,by rw [List.getElem?_set_ne hi];exact h,tkEq.refl o⟩⟩
theorem TkEq.setA {a:List O} {id:Nat} {t:TypeId} {sz n n':Nat} {es es':List V} (ho:a[id]? = some (.arr t sz n es)):TkEq a (a.set id (.arr t sz n' es')):=⟨by simp,fun i o h => by
  by_cases hi:id = i
  · subst hi
    rw [ho] at h
    simp only [Option.some.injEq] at h
    subst h
    exact ⟨_,by rw [List.getElem?_set_self (List.getElem?_eq_some_iff.1 ho).1],n',es',rfl⟩
  · exact ⟨o,by rw [List.getElem?_set_ne hi];exact h,tkEq.refl o⟩⟩
def isRf:V → Bool
  | .ref _ _ | .rptr _ _ _ => true
  | _ => false
def rdRef (ρ:Operand → V):Op → Bool
  | .load _ x => isRf (ρ x)
  | .fieldAddr _ x _ => isRf (ρ x)
  | .indexAddr _ x _ => isRf (ρ x)
  | .call c => c.args.toList.any fun x => isRf (ρ x)
  | _ => false
theorem step1_tk {st':List O} {ρ:Operand → V} {op:Op} {v:V} (hc:calm op = true) (hr:rdRef ρ op = false) (ht:TkEq st st') (h:step1 P gl ρ st op (fun v' s2 => v' = v ∧ s2 = st)):step1 P gl ρ st' op (fun v' s2 => v' = v ∧ s2 = st'):=by
  cases op <;> simp only [calm,Bool.false_eq_true] at hc <;> simp only [step1,and_true] at h ⊢
  case load t x =>
    unfold loadP at h ⊢
    cases hl:lay P t with
    | none => simp [hl] at h
    | some ng =>
      obtain ⟨n,g⟩:=ng
      rw [hl] at h
      simp only at h ⊢
      cases hx:ρ x <;> rw [hx] at h <;> simp only at h ⊢ <;> try exact h
      · rename_i id off
        cases ho:st[id]? with
        | none => rw [ho] at h;exact h.elim
        | some o => rw [ho] at h;cases o <;> try exact h.elim
                    rw [ht.box ho];exact h
      · simp [rdRef,hx,isRf] at hr
  case fieldAddr t x f =>
    unfold faP at h ⊢
    cases hl:fld P t f with
    | none => simp [hl] at h
    | some ng =>
      obtain ⟨n,k,g⟩:=ng
      rw [hl] at h
      simp only at h ⊢
      refine ⟨h.1, ?_⟩
      have h:=h.2
      cases hx:ρ x <;> rw [hx] at h <;> simp only at h ⊢ <;> try exact h
      simp [rdRef,hx,isRf] at hr
  case indexAddr t x i =>
    unfold iaP at h ⊢
    cases hi:ρ i <;> rw [hi] at h <;> simp only at h ⊢ <;> try exact h
    cases hl:elt P t with
    | none => rw [hl] at h;exact h
    | some ng =>
      obtain ⟨n,k,g⟩:=ng
      rw [hl] at h
      simp only at h ⊢
      cases hx:ρ x <;> rw [hx] at h <;> simp only at h ⊢ <;> try exact h
      simp [rdRef,hx,isRf] at hr
  case call c =>
    cases hcal:c.callee with
    | value f => rw [hcal] at hc;simp at hc
    | invoke a b => rw [hcal] at hc;simp at hc
    | builtin b =>
      rw [hcal] at h hc
      cases b <;> simp only [Bool.false_eq_true] at hc <;> simp only at h ⊢
      case len =>
        split at h <;> try exact h.elim
        rename_i x t h1 h2
        unfold lenP at h ⊢
        cases hx:ρ x <;> rw [hx] at h <;> simp only at h ⊢ <;> try exact h
        simp [rdRef,h1,hx,isRf] at hr
      all_goals exact h
  case lookup t x k ok =>
    unfold lookP at h ⊢
    have:lookE P st' t (ρ x) (ρ k) ok = lookE P st t (ρ x) (ρ k) ok:=by
      have hm:mapV st' (ρ x) = mapV st (ρ x):=by
        unfold mapV
        cases hx:ρ x <;> try rfl
        rename_i id
        simp only
        cases ho:st[id]? with
        | none =>
          have:st'[id]? = none:=by
            have:=ht.1
            simp only [List.getElem?_eq_none_iff] at ho ⊢
            omega
          rw [this]
        | some o =>
          obtain ⟨o',h1,h2⟩:=ht.2 id o ho
          rw [h1]
          cases o <;> first
            | (cases h2;rfl)
            | (obtain ⟨n,rfl⟩:=h2;rfl)
            | (obtain ⟨n,l,rfl⟩:=h2;rfl)
      unfold lookE
      rw [hm]
    rw [this]
    exact h
  all_goals exact h
def nilTok (k:Nat):V → V
  | .nil => .sl [] (some k)
  | v => v
def isTok:V → Bool
  | .sl _ (some _) => true
  | .ref _ _ => true
  | _ => false
def appT (P:Program) (t:TypeId) (st:List O) (k:Nat) (x y:V) (K:V → List O → Prop):Prop:=isTok (nilTok k x) = true ∧ appendP P t st (nilTok k x) y K
theorem appT_det {t:TypeId} {k:Nat} {x y:V} {K:V → List O → Prop} (h:appT P t st k x y K):∃ v st',K v st' ∧ TkEq st st' ∧ ∀ K':V → List O → Prop,K' v st' → appT P t st k x y K':=by
  obtain ⟨h1,h2⟩:=h
  unfold appT
  cases hx:nilTok k x <;> rw [hx] at h1 h2 <;> simp only [isTok,Bool.false_eq_true] at h1
  rotate_left
  · rename_i id ver
    unfold appendP at h2 ⊢
    cases he:elt P t with
    | none => simp [he] at h2
    | some esb =>
      obtain ⟨el,sz,by_⟩:=esb
      cases hr:rowOf y with
      | none => simp [he,hr] at h2
      | some es2 =>
        rw [he,hr] at h2
        simp only at h2 ⊢
        obtain ⟨q1,h2⟩:=h2
        cases ho:st[id]? with
        | none => simp [ho] at h2
        | some o =>
          rw [ho] at h2
          cases o <;> try exact h2.elim
          obtain ⟨rfl,rfl,rfl,q2,q3,q4⟩:=h2
          exact ⟨_,_,q4,TkEq.setA ho,fun K' hk => ⟨rfl,q1,rfl,rfl,rfl,q2,q3,hk⟩⟩
  rename_i es tk
  cases tk with
  | none => cases h1
  | some id =>
    unfold appendP at h2 ⊢
    cases he:elt P t with
    | none => simp [he] at h2
    | some esb =>
      obtain ⟨el,sz,by_⟩:=esb
      cases hr:rowOf y with
      | none => simp [he,hr] at h2
      | some es2 =>
        rw [he,hr] at h2
        simp only at h2 ⊢
        obtain ⟨q1,h2⟩:=h2
        cases ho:st[id]? with
        | none => simp [ho] at h2
        | some o =>
          rw [ho] at h2
          cases o <;> try exact h2.elim
          obtain ⟨rfl,rfl,rfl,q2,q3,q4⟩:=h2
          exact ⟨_,_,q4,TkEq.set ho,fun K' hk => ⟨rfl,q1,rfl,rfl,rfl,q2,q3,hk⟩⟩
theorem appT_sound (hs:Sim P gl w s) {t ty:TypeId} {k:Nat} {a b:V} {x y:Value} {K:V → List O → Prop} (hx:Rep w s a x) (hy:Rep w s b y) (h:appT P t s.st k a b K) :
    ∃ v z w' s',(Builtin.append_ #[t,t] ty #[x,y]).run P w = .ok z w' ∧ Sim P gl w' s' ∧ Evolve w s w' s' ∧ Rep w' s' v z ∧ K v s'.st:=by
  obtain ⟨_,h⟩:=h
  cases a with
  | nil =>
    refine append_sound hs ?_ hy h
    simp only [nilTok] at h ⊢
    unfold appendP at h
    cases he:elt P t with
    | none => simp [he] at h
    | some esb =>
      obtain ⟨el,sz,by_⟩:=esb
      cases hr:rowOf b with
      | none => simp [he,hr] at h
      | some es2 =>
        rw [he,hr] at h
        simp only at h
        have h:=h.2
        cases ho:s.st[k]? with
        | none => simp [ho] at h
        | some o =>
          rw [ho] at h
          cases o <;> try exact h.elim
          obtain ⟨rfl,rfl,rfl,_⟩:=h
          exact V.le_nil_tok ho w s x rfl hx
  | _ => exact append_sound hs hx hy h
def lateOp (op:Op):Bool:=match op with
  | .call c => match c.callee with
    | .builtin .append => true
    | _ => false
  | _ => false
def stepL (P:Program) (k:Nat) (ρ:Operand → V) (st:List O) (op:Op) (K:V → List O → Prop):Prop:=match op with
  | .call c => match c.args.toList,c.argTypes.toList with
    | [x,y],[t,u] => t = u ∧ appT P t st k (ρ x) (ρ y) K
    | _,_ => False
  | _ => False
def stepN (P:Program) (gl:Nat → V) (ρ:Operand → V) (st:List O) (op:Op) (K:V → Option ((Nat → V) × O) → Prop):Prop :=
  match op with
  | .alloc t => match zro P t with
    | some z => K .undef (some (fun i => .ptr i 0,.box t z))
    | none => False
  | .buildSlice t len parts => (len = 0 → parts.size = 0) ∧ buildSliceA P t len (parts.toList.map fun p => (p.1,ρ p.2)) K
  | .call c => match c.callee with
    | .value f => match ρ f with
      | .func (.func k) fs cs => ent P k = true ∧ ∃ v,(∀ st',TkEq st st' → Call P gl k (fs ++ c.args.toList.map ρ ++ cs) st' (fun v' s2 => v' = v ∧ s2 = st')) ∧ K v none
      | _ => False
    | _ => if calm op = true ∧ rdRef ρ op = false then step1 P gl ρ st op (fun v _ => K v none) else False
  | op => if calm op = true ∧ rdRef ρ op = false then step1 P gl ρ st op (fun v _ => K v none) else False
theorem stepA_calm {ρ:Operand → V} {op:Op} {K:V → Option ((Nat → V) × O) → Prop} (hc:calm op = true) (h:step1 P gl ρ st op (fun v _ => K v none)):stepA P gl ρ st op K:=by
  unfold stepA
  cases op <;> first
    | (simp only [calm,Bool.false_eq_true] at hc;done)
    | exact (if_pos hc).symm ▸ h
    | skip
  rename_i c
  simp only at h ⊢
  cases hcal:c.callee with
  | value f => simp only [calm,hcal,Bool.false_eq_true] at hc
  | invoke a b => simp only [calm,hcal,Bool.false_eq_true] at hc
  | builtin b =>
    simp only [calm,hcal] at hc
    cases b <;> first
      | (simp only [Bool.false_eq_true] at hc;done)
      | (simp only [calm,hcal];rw [if_pos trivial];exact h)
theorem stepN_full {o:Oper} {K:V → Option ((Nat → V) × O) → Prop} (h:stepN P gl (e.ev gl) st o.op K):∃ v u,K v u ∧ ∀ st',TkEq st st' → ∀ e':Env,(∀ x ∈ o.op.operands,e.ev gl x = e'.ev gl x) → OpA P gl r o e' st' v u:=by
  have key:∃ v u,K v u ∧ ∀ st',TkEq st st' → stepA P gl (e.ev gl) st' o.op (fun v' u' => v' = v ∧ u' = u):=by
    have gen:(if calm o.op = true ∧ rdRef (e.ev gl) o.op = false then step1 P gl (e.ev gl) st o.op (fun v _ => K v none) else False) → ∃ v u,K v u ∧ ∀ st',TkEq st st' → stepA P gl (e.ev gl) st' o.op (fun v' u' => v' = v ∧ u' = u):=fun h => by
      split at h
      · rename_i hc
        obtain ⟨hc,hrd⟩:=hc
        obtain ⟨v,h1,h2⟩:=step1_det hc h
        refine ⟨v,none,h2,fun st' ht => stepA_calm hc ?_⟩
        have h3:=step1_tk hc hrd ht (h1 (fun v' s2 => v' = v ∧ s2 = st) ⟨rfl,rfl⟩)
        obtain ⟨v2,h4,h5,_⟩:=step1_det hc h3
        subst h5
        exact h4 (fun v' _ => v' = v2 ∧ (none:Option ((Nat → V) × O)) = none) ⟨rfl,rfl⟩
      · exact h.elim
    unfold stepN at h
    cases ho:o.op <;> rw [ho] at h
    case alloc t =>
      simp only at h
      cases hz:zro P t with
      | none => simp [hz] at h
      | some z =>
        rw [hz] at h
        refine ⟨_,_,h,fun st' _ => ?_⟩
        simp [stepA,hz]
    case buildSlice t len parts =>
      simp only at h
      obtain ⟨h0,h⟩:=h
      have h1:∃ v u,K v u ∧ buildSliceA P t len (parts.toList.map fun p => (p.1,e.ev gl p.2)) (fun v' u' => v' = v ∧ u' = u):=by
        unfold buildSliceA at h ⊢
        cases he:elt P t with
        | none => simp [he] at h
        | some o =>
          obtain ⟨e,sz,by_⟩:=o
          rw [he] at h
          simp only at h ⊢
          split at h
          · exact ⟨_,_,h,by rw [if_pos (by assumption)];exact ⟨rfl,rfl⟩⟩
          · exact ⟨_,_,h.2.2.2,by rw [if_neg (by assumption)];exact ⟨h.1,h.2.1,h.2.2.1,rfl,rfl⟩⟩
      obtain ⟨v,u,hK,hA⟩:=h1
      exact ⟨v,u,hK,fun st' _ => ⟨h0,hA⟩⟩
    case call c =>
      simp only at h
      cases hcal:c.callee with
      | value f =>
        rw [hcal] at h
        simp only at h
        cases hf:e.ev gl f <;> rw [hf] at h <;> try exact h.elim
        rename_i fn fs cs
        cases fn <;> try exact h.elim
        obtain ⟨hent,v,hcall,hK⟩:=h
        refine ⟨v,none,hK,fun st' ht => ?_⟩
        unfold stepA
        simp only [hcal,hf]
        exact ⟨hent,v,hcall st' ht,by simp⟩
      | invoke rc mm => rw [hcal] at h;rw [ho] at gen;exact gen h
      | builtin b => rw [hcal] at h;rw [ho] at gen;exact gen h
    all_goals (rw [ho] at gen;exact gen h)
  obtain ⟨v,u,hK,hall⟩:=key
  refine ⟨v,u,hK,fun st' ht e' he => ?_⟩
  obtain ⟨v',u',⟨rfl,rfl⟩,hA⟩:=stepA_sound (r:=r) (stepA_congr he (hall st' ht))
  exact hA
def awT (P:Program) (gl:Nat → V) (k:Nat):List Oper → Env → List O → List Up → (Env → List O → Prop) → Prop
  | [],e,st,ups,K => K (applyUps ups e st).1 (applyUps ups e st).2
  | o :: rest,e,st,ups,K => o.guard = none ∧ e.fits o.dst ∧ match lateOp o.op with
    | true => stepL P k (e.ev gl) st o.op fun v st' => awT P gl k rest (e.put o.dst v) st' ups K
    | false => stepN P gl (e.ev gl) st o.op fun v u => match u,o.dst with
      | none,_ => awT P gl k rest (e.put o.dst v) st ups K
      | some (f,ob),some d => awT P gl k rest (e.put o.dst v) st (ups ++ [(d,f,ob)]) K
      | some _,none => False
def RunT (P:Program) (gl:Nat → V) (r:Option Nat) (ops:Array Oper):List Oper → List (V × Option ((Nat → V) × O)) → Env → List O → List (List O) → Prop
  | [],[],_,_,Ss => Ss = []
  | o :: l,(v,u) :: res,e,st,Ss => e.fits o.dst ∧ (u.isSome = true → o.dst.isSome = true) ∧ match lateOp o.op with
    | true => ∃ st1 Ss',Ss = st1 :: Ss' ∧ TkEq st st1 ∧ OpB2 P gl r ops o e st st1 v u ∧ RunT P gl r ops l res (e.put o.dst v) st1 Ss'
    | false => (∀ st',TkEq st st' → OpB2 P gl r ops o e st' st' v u) ∧ RunT P gl r ops l res (e.put o.dst v) st Ss
  | _,_,_,_,_ => False
theorem late_sound {o:Oper} {k:Nat} {K:V → List O → Prop} (hg:o.guard = none) (hla:lateOp o.op = true) (h:stepL P k (e.ev gl) st o.op K):∃ v st',K v st' ∧ TkEq st st' ∧ OpB2 P gl r ops o e st st' v none:=by
  unfold stepL at h
  cases ho:o.op <;> rw [ho] at h <;> try exact h.elim
  rename_i c
  simp only at h
  have hcal:c.callee = .builtin .append:=by
    rw [ho] at hla
    simp only [lateOp] at hla
    split at hla
    · assumption
    · cases hla
  split at h <;> try exact h.elim
  rename_i x y t u h1 h2
  obtain ⟨rfl,h⟩:=h
  obtain ⟨v,st',hK,ht,hall⟩:=appT_det h
  refine ⟨v,st',hK,ht,fun e' he n0 w s a next Q hn hst hs ha hk => ?_⟩
  rw [if_pos (by simp [Region.wanted,hg])]
  have hev:=ev_of_get (gl:=gl) he
  have hx:e.ev gl x = e'.ev gl x:=hev x (by rw [ho];simp only [Op.operands,Call.operands,Array.mem_append];refine .inr ?_;rw [← Array.mem_toList_iff,h1];simp)
  have hy:e.ev gl y = e'.ev gl y:=hev y (by rw [ho];simp only [Op.operands,Call.operands,Array.mem_append];refine .inr ?_;rw [← Array.mem_toList_iff,h1];simp)
  have hA:=hall (fun v' s2 => v' = v ∧ s2 = st') ⟨rfl,rfl⟩
  rw [hx,hy] at hA
  subst hst
  obtain ⟨v',z,w',s',k1,k2,k3,k4,rfl,k5⟩:=appT_sound (ty:=o.type) hs (ha.ev hs x) (ha.ev hs y) hA
  have ea:c.args = #[x,y]:=by apply Array.ext';simpa using h1
  have et:c.argTypes = #[t,t]:=by apply Array.ext';simpa using h2
  have hrun:∃ consts,(execOp a.eval o).run P w = (builtin .append c.argTypes o.type consts (c.args.map a.eval)).run P w:=by
    simp only [execOp,ho,resolve,hcal,Sem.run_bind,Sem.run_pure,Result.andThen_ok,invoke]
    exact ⟨_,rfl⟩
  obtain ⟨_,hrun⟩:=hrun
  have hrun2:(execOp a.eval o).run P w = .ok (.value z) w':=by
    rw [hrun,ea,et]
    have k1':(Builtin.append_ #[t,t] o.type (#[x,y].map a.eval)).run P w = .ok z w':=by simpa using k1
    show (do pure (Next.value (← Builtin.append_ #[t,t] o.type (#[x,y].map a.eval))):Sem Next).run P w = _
    rw [Sem.run_bind,k1'];rfl
  refine ⟨fun _ _ => trivial, ?_⟩
  rw [Oper.semAt_eq _ _ _ (fun c' => by rw [ho];simp),hrun2]
  exact hk z w' s' k2 k3 k5 k4 (by simp)
theorem awT_run {k:Nat} {K:Env → List O → Prop}:∀ (l:List Oper) (e:Env) (st:List O) (ups:List Up),awT P gl k l e st ups K →
    ∃ res Ss,RunT P gl r ops l res e st Ss ∧ K (applyUps (ups ++ upsOf l res) (envOf l res e) (Ss.getLastD st)).1 (applyUps (ups ++ upsOf l res) (envOf l res e) (Ss.getLastD st)).2:=by
  intro l
  induction l with
  | nil => intro e st ups h;exact ⟨[],[],rfl,by simpa [upsOf,envOf,awT] using h⟩
  | cons o l ih =>
    intro e st ups h
    unfold awT at h
    obtain ⟨hg,hfit,h⟩:=h
    cases hla:lateOp o.op with
    | true =>
      rw [hla] at h
      simp only at h
      obtain ⟨v,st',hK,ht,hB⟩:=late_sound (r:=r) (ops:=ops) hg hla h
      obtain ⟨res,Ss,h1,h2⟩:=ih _ _ _ hK
      refine ⟨(v,none) :: res,st' :: Ss,⟨hfit,by simp, ?_⟩, ?_⟩
      · rw [hla]
        exact ⟨st',Ss,rfl,ht,hB,h1⟩
      · have hlast:(st' :: Ss).getLastD st = Ss.getLastD st':=by cases Ss <;> rfl
        rw [hlast]
        simpa [upsOf,upOf,envOf] using h2
    | false =>
      rw [hla] at h
      simp only at h
      obtain ⟨v,u,hK,hA⟩:=stepN_full (r:=r) h
      have hB:∀ st',TkEq st st' → OpB2 P gl r ops o e st' st' v u:=fun st' ht e' he n0 w s a next Q hn hst hs ha hk => by
        rw [if_pos (by simp [Region.wanted,hg])]
        exact hA st' ht e' (ev_of_get he) n0 w s a next Q hn hst hs ha hk
      cases u with
      | none =>
        obtain ⟨res,Ss,h1,h2⟩:=ih _ _ _ hK
        refine ⟨(v,none) :: res,Ss,⟨hfit,by simp, ?_⟩,by simpa [upsOf,upOf,envOf] using h2⟩
        rw [hla]
        exact ⟨hB,h1⟩
      | some fo =>
        obtain ⟨f,ob⟩:=fo
        cases hd:o.dst with
        | none => rw [hd] at hK;exact hK.elim
        | some d =>
          rw [hd] at hK
          obtain ⟨res,Ss,h1,h2⟩:=ih _ _ _ hK
          rw [← hd] at h1
          refine ⟨(v,some (f,ob)) :: res,Ss,⟨hfit,by simp [hd], ?_⟩,by simpa [upsOf,upOf,envOf,hd] using h2⟩
          rw [hla]
          exact ⟨hB,h1⟩
def cntL (l:List Oper) (i:Nat):Nat:=((l.take i).filter fun o => lateOp o.op).length
theorem cntL_succ (o:Oper) (l:List Oper) (i:Nat):cntL (o :: l) (i + 1) = (if lateOp o.op = true then 1 else 0) + cntL l i:=by
  unfold cntL
  rw [List.take_succ_cons,List.filter_cons]
  split <;> simp [Nat.add_comm]
theorem runT_at:∀ (l:List Oper) (res:List (V × Option ((Nat → V) × O))) (e:Env) (st:List O) (Ss:List (List O)),RunT P gl r ops l res e st Ss → l.length = res.length ∧ Ss.length = cntL l l.length ∧
    (∀ (k:Nat) (s1:List O),(st :: Ss)[k]? = some s1 → TkEq st s1) ∧ ∀ (i:Nat) (o:Oper),l[i]? = some o →
    ∃ v u,res[i]? = some (v,u) ∧ (envOf (l.take i) (res.take i) e).fits o.dst ∧ (u.isSome = true → o.dst.isSome = true) ∧
      (lateOp o.op = false → ∀ st',TkEq st st' → OpB2 P gl r ops o (envOf (l.take i) (res.take i) e) st' st' v u) ∧
      (lateOp o.op = true → ∃ a b,(st :: Ss)[cntL l i]? = some a ∧ (st :: Ss)[cntL l i + 1]? = some b ∧ OpB2 P gl r ops o (envOf (l.take i) (res.take i) e) a b v u):=by
  intro l
  induction l with
  | nil =>
    intro res e st Ss h
    cases res with
    | nil =>
      obtain rfl:Ss = []:=h
      refine ⟨rfl,rfl,fun k s1 hk => ?_,by simp⟩
      cases k with
      | zero => simp at hk;subst hk;exact TkEq.refl _
      | succ k => simp at hk
    | cons => exact h.elim
  | cons o l ih =>
    intro res e st Ss h
    cases res with
    | nil => exact h.elim
    | cons vu res =>
      obtain ⟨v,u⟩:=vu
      obtain ⟨h1,h2,h3⟩:=h
      cases hla:lateOp o.op with
      | true =>
        rw [hla] at h3
        obtain ⟨st1,Ss',rfl,h4,h5,h6⟩:=h3
        obtain ⟨i1,i2,i3,i4⟩:=ih _ _ _ _ h6
        refine ⟨by simp [i1],by rw [show (o :: l).length = l.length + 1 from rfl,cntL_succ,if_pos hla,List.length_cons,i2,Nat.add_comm],fun k s1 hk => ?_,fun i o' ho => ?_⟩
        · cases k with
          | zero => simp at hk;subst hk;exact TkEq.refl _
          | succ k => exact h4.trans (i3 k s1 (by simpa using hk))
        · cases i with
          | zero =>
            simp only [List.getElem?_cons_zero,Option.some.injEq] at ho
            subst ho
            exact ⟨v,u,rfl,h1,h2,fun hf => (by rw [hla] at hf;cases hf),fun _ => ⟨st,st1,rfl,rfl,h5⟩⟩
          | succ i =>
            obtain ⟨v',u',j1,j2,j3,j4,j5⟩:=i4 i o' (by simpa using ho)
            refine ⟨v',u',by simpa using j1,j2,j3,fun hf st' ht => j4 hf st' (h4.symm.trans ht),fun hf => ?_⟩
            obtain ⟨a,b,k1,k2,k3⟩:=j5 hf
            refine ⟨a,b, ?_, ?_,k3⟩ <;> (rw [cntL_succ,if_pos hla,Nat.add_comm 1];first | exact k1 | exact k2)
      | false =>
        rw [hla] at h3
        obtain ⟨h5,h6⟩:=h3
        obtain ⟨i1,i2,i3,i4⟩:=ih _ _ _ _ h6
        refine ⟨by simp [i1],by rw [show (o :: l).length = l.length + 1 from rfl,cntL_succ,if_neg (by rw [hla];simp),i2,Nat.zero_add],i3,fun i o' ho => ?_⟩
        cases i with
        | zero =>
          simp only [List.getElem?_cons_zero,Option.some.injEq] at ho
          subst ho
          exact ⟨v,u,rfl,h1,h2,fun _ => h5,fun hf => (by rw [hla] at hf;cases hf)⟩
        | succ i =>
          obtain ⟨v',u',j1,j2,j3,j4,j5⟩:=i4 i o' (by simpa using ho)
          refine ⟨v',u',by simpa using j1,j2,j3,j4,fun hf => ?_⟩
          obtain ⟨a,b,k1,k2,k3⟩:=j5 hf
          refine ⟨a,b, ?_, ?_,k3⟩ <;> (rw [cntL_succ,if_neg (by rw [hla];simp),Nat.zero_add];first | exact k1 | exact k2)
def lateAt (ops:Array Oper) (i:Nat):Bool:=match ops[i]? with
  | some o => lateOp o.op
  | none => false
def cntA (ops:Array Oper) (m i:Nat):Nat:=cntL (ops.toList.take m) i
def chainT (ops:Array Oper) (m:Nat):Bool:=(List.range m).all fun i => !lateAt ops i || cntA ops m i == 0 || (List.range i).any fun p => lateAt ops p && (cntA ops m p + 1 == cntA ops m i) && dep ops i p
theorem chainT_spec (h:chainT ops m = true) {i:Nat} (hi:i < m) (hl:lateAt ops i = true):cntA ops m i = 0 ∨ ∃ p,p < i ∧ lateAt ops p = true ∧ cntA ops m p + 1 = cntA ops m i ∧ dep ops i p = true:=by
  have h1:=List.all_eq_true.1 h i (List.mem_range.2 hi)
  simp only [hl,Bool.not_true,Bool.false_or,Bool.or_eq_true,beq_iff_eq,List.any_eq_true,List.mem_range,Bool.and_eq_true] at h1
  rcases h1 with h1 | ⟨p,h1,⟨h2,h3⟩,h4⟩
  · exact .inl h1
  · exact .inr ⟨p,h1,h2,h3,h4⟩
theorem cntA_step (i:Nat) (hi:i < m):cntA ops m (i + 1) = cntA ops m i + (if lateAt ops i = true then 1 else 0):=by
  unfold cntA cntL lateAt
  rw [List.take_succ,List.getElem?_take_of_lt hi]
  cases h:ops[i]? with
  | none => rw [show ops.toList[i]? = none by simpa using h];simp
  | some o =>
    rw [show ops.toList[i]? = some o by simpa using h]
    simp only [Option.toList_some,List.filter_append,List.length_append,List.filter_cons,List.filter_nil]
    split <;> simp
theorem cntA_mono {i j:Nat} (h:i ≤ j) (hj:j ≤ m):cntA ops m i ≤ cntA ops m j:=by
  induction j with
  | zero => obtain rfl:i = 0:=by omega
            exact Nat.le_refl _
  | succ j ih =>
    rcases Nat.lt_or_eq_of_le h with h | rfl
    · have:=ih (by omega) (by omega)
      have:=cntA_step (ops:=ops) j (show j < m by omega)
      omega
    · exact Nat.le_refl _
theorem cntA_lt {i j:Nat} (h:i < j) (hj:j ≤ m) (hl:lateAt ops i = true):cntA ops m i < cntA ops m j:=by
  have h1:=cntA_step (ops:=ops) i (show i < m by omega)
  rw [if_pos hl] at h1
  have h2:=cntA_mono (ops:=ops) (m:=m) (show i + 1 ≤ j by omega) hj
  omega
theorem cntA_ex:∀ (n:Nat),n ≤ m → ∀ k,k < cntA ops m n → ∃ j,j < n ∧ lateAt ops j = true ∧ cntA ops m j = k:=by
  intro n
  induction n with
  | zero => intro _ k hk;rw [show cntA ops m 0 = 0 from rfl] at hk;omega
  | succ n ih =>
    intro hn k hk
    rw [cntA_step n (by omega)] at hk
    split at hk
    · rename_i hl
      by_cases h:k = cntA ops m n
      · exact ⟨n,by omega,hl,h.symm⟩
      · obtain ⟨j,h1,h2,h3⟩:=ih (by omega) k (by omega)
        exact ⟨j,by omega,h2,h3⟩
    · obtain ⟨j,h1,h2,h3⟩:=ih (by omega) k (by omega)
      exact ⟨j,by omega,h2,h3⟩
structure InvK (st:List O) (Ss:List (List O)) (P:Program) (gl:Nat → V) (ops:Array Oper) (m:Nat) (res:List (V × Option ((Nat → V) × O))) (e:Env) (n0:Nat) (w0:World) (s0:Duo.S) (L:Array Bool) (a:Act) (w:World) (s:Duo.S) (B:Nat → Nat):Prop where
  closed:Closed ops L
  pre:∀ i,L.getD i false = true → i < m
  sq:∃ k,(st :: Ss)[k]? = some s.st ∧ ∀ j,j < m → lateAt ops j = true → (L.getD j false = true ↔ cntA ops m j < k)
  sim:Sim P gl w s
  ev:Evolve w0 s0 w s
  n:e.n ≤ a.tmps.size
  marks:Marks w s n0 a.defers
  old:∀ t,(∀ j,j < m → dstAt ops j ≠ some t) → Rep w s (e.get t) (a.tmps.getD t undef)
  new:∀ (j:Nat) (t:Tmp) (v:V) (u:Option ((Nat → V) × O)),L.getD j false = true → dstAt ops j = some t → res[j]? = some (v,u) → Rep w s v (a.tmps.getD t undef) ∧ ∀ f o,u = some (f,o) → w0.heap.size ≤ B j ∧ Pend P w s f o (a.tmps.getD t undef) (B j)
  inj:∀ (j j':Nat) (v v':V) (fo fo':(Nat → V) × O),L.getD j false = true → L.getD j' false = true → res[j]? = some (v,some fo) → res[j']? = some (v',some fo') → B j = B j' → j = j'
theorem anyK {Ss:List (List O)} {res:List (V × Option ((Nat → V) × O))} {n0:Nat} {w0:World} {s0:Duo.S} (hok:anyOK ops m = true) (hch:chainT ops m = true) (htk:∀ (k:Nat) (s1:List O),(st :: Ss)[k]? = some s1 → TkEq st s1) (hSl:Ss.length = cntA ops m m) (hrl:res.length = m)
    (hat:∀ (i:Nat) (o:Oper),(ops.toList.take m)[i]? = some o → ∃ v u,res[i]? = some (v,u) ∧ (envOf ((ops.toList.take m).take i) (res.take i) e).fits o.dst ∧ (u.isSome = true → o.dst.isSome = true) ∧
      (lateAt ops i = false → ∀ st',TkEq st st' → OpB2 P gl r ops o (envOf ((ops.toList.take m).take i) (res.take i) e) st' st' v u) ∧
      (lateAt ops i = true → ∃ a b,(st :: Ss)[cntA ops m i]? = some a ∧ (st :: Ss)[cntA ops m i + 1]? = some b ∧ OpB2 P gl r ops o (envOf ((ops.toList.take m).take i) (res.take i) e) a b v u))
    (hn0:n0 ≤ w0.heap.size) {sl:List O} (hsl:(st :: Ss)[Ss.length]? = some sl) (hlen0:s0.st.length ≤ st.length) (hwf0:s0.g.length = s0.st.length) {Q:Exit → Act → World → Prop}
    (hfin:∀ a w s,Sim P gl w s → Evolve w0 s0 w s → ActOK w s n0 (applyUps (upsOf (ops.toList.take m) res) (envOf (ops.toList.take m) res e) sl).1 a → s.st = (applyUps (upsOf (ops.toList.take m) res) (envOf (ops.toList.take m) res e) sl).2 → wpOpsIn (Fr r) 0 P ops Q (List.range' m (ops.size - m)) a w) :
    ∀ (fuel:Nat) (L:Array Bool) (a:Act) (w:World) (s:Duo.S) (B:Nat → Nat),InvK st Ss P gl ops m res e n0 w0 s0 L a w s B → L.count false ≤ fuel → wpAnyIn (Fr r) 0 P .any ops Q fuel L a w:=by
  obtain ⟨hm,hdown,hlook,hdst,hrest⟩:=anyOK_spec hok
  have hl:(ops.toList.take m).length = m:=by simp;omega
  have hget:∀ i,i < m → (ops.toList.take m)[i]? = ops[i]?:=fun i hi => by rw [List.getElem?_take_of_lt hi];simp
  have henv:∀ (i:Nat) (t:Tmp),i ≤ m → ((∀ j,j < m → dstAt ops j ≠ some t) → (envOf ((ops.toList.take m).take i) (res.take i) e).get t = e.get t) ∧
      ∀ j v u,j < i → dstAt ops j = some t → res[j]? = some (v,u) → (envOf ((ops.toList.take m).take i) (res.take i) e).get t = v:=fun i t hi => by
    have hg:∀ k o,((ops.toList.take m).take i)[k]? = some o → k < i ∧ dstAt ops k = o.dst:=fun k o hk => by
      have hki:k < i:=by
        have:=(List.getElem?_eq_some_iff.1 hk).1
        simp at this
        omega
      rw [List.getElem?_take_of_lt hki,hget k (by omega)] at hk
      exact ⟨hki,by simp [dstAt,hk]⟩
    refine ⟨fun h => envOf_other _ _ _ _ fun k o hk he => ?_,fun j v u hj hd hr => ?_⟩
    · obtain ⟨h1,h2⟩:=hg k o hk
      exact h k (by omega) (h2.trans he)
    · have hjs:j < ops.size:=by omega
      refine envOf_at _ _ _ _ j ops[j] v u (by rw [List.getElem?_take_of_lt hj,hget j (by omega)];exact Array.getElem?_eq_getElem hjs) (by rw [List.getElem?_take_of_lt hj];exact hr) (by simpa [dstAt,hjs] using hd) fun k o hk ho he => ?_
      obtain ⟨h1,h2⟩:=hg k o ho
      have:=hdst j k t (by omega) (by omega) hd (h2.trans he)
      omega
  have hdone:∀ (fuel:Nat) (L:Array Bool) (a:Act) (w:World) (s:Duo.S) (B:Nat → Nat),InvK st Ss P gl ops m res e n0 w0 s0 L a w s B → L.count false ≤ fuel → (∀ j,j < m → L.getD j false = true) → wpAnyIn (Fr r) 0 P .any ops Q fuel L a w:=fun fuel L a w s B hI hf hall => by
    have hA:ActOK w s n0 (envOf (ops.toList.take m) res e) a:=by
      refine ⟨by rw [envOf_n];exact hI.n,fun t => ?_,hI.marks⟩
      obtain ⟨g1,g2⟩:=henv m t (Nat.le_refl _)
      have t1:(ops.toList.take m).take m = ops.toList.take m:=List.take_of_length_le (by omega)
      have t2:res.take m = res:=List.take_of_length_le (by omega)
      rw [t1,t2] at g1 g2
      by_cases hex:∃ j,j < m ∧ dstAt ops j = some t
      · obtain ⟨j,hj,hd⟩:=hex
        obtain ⟨v,u,hr,_⟩:=hat j (ops[j]'(by omega)) (by rw [hget j hj];exact Array.getElem?_eq_getElem _)
        rw [g2 j v u hj hd hr]
        exact (hI.new j t v u (hall j hj) hd hr).1
      · rw [g1 fun j hj hd => hex ⟨j,hj,hd⟩]
        exact hI.old t fun j hj hd => hex ⟨j,hj,hd⟩
    obtain ⟨bs,q1,q2,_,q4⟩:=ups_blocks (P:=P) (w:=w) (s:=s) (w0:=w0) (a:=a) (B:=B) (ops.toList.take m) res 0 (fun j o v f ob d ho hr hd => by
      have hj:j < m:=by have:=(List.getElem?_eq_some_iff.1 ho).1;omega
      rw [hget j hj] at ho
      have:=(hI.new j d v (some (f,ob)) (hall j hj) (by simp [dstAt,ho,hd]) hr).2 f ob rfl
      simpa using this) (fun j j' v v' fo fo' hr hr' he => by
      have hj:j < m:=by have:=(List.getElem?_eq_some_iff.1 hr).1;omega
      have hj':j' < m:=by have:=(List.getElem?_eq_some_iff.1 hr').1;omega
      exact hI.inj j j' v v' fo fo' (hall j hj) (hall j' hj') hr hr' (by simpa using he))
    have hstE:s.st = sl:=by
      obtain ⟨k,hk1,hk2⟩:=hI.sq
      have hk3:k ≤ Ss.length:=by have:=(List.getElem?_eq_some_iff.1 hk1).1;simpa using Nat.le_of_lt_succ this
      have hk4:¬ k < cntA ops m m:=fun hlt => by
        obtain ⟨j,hj1,hj2,hj3⟩:=cntA_ex (ops:=ops) (m:=m) m (Nat.le_refl _) k hlt
        have:=(hk2 j hj1 hj2).1 (hall j hj1)
        omega
      obtain rfl:k = Ss.length:=by omega
      rw [hsl] at hk1
      simpa using hk1.symm
    have hlen1:s0.st.length ≤ s.st.length:=by rw [hstE,← (htk _ _ hsl).1];exact hlen0
    obtain ⟨s',k1,k2,k3,k4⟩:=register (upsOf (ops.toList.take m) res) bs s _ hI.sim hI.ev hlen1 hA q1 q2 q4
    rw [hstE] at k3 k4
    refine chain (m:=m) (fun i hi hmi => (hrest (by omega)).2 i hi hmi) hdown (ops.size - m) m (by omega) (Nat.le_refl _) fuel L a w hI.closed.1 (fun i hi => ⟨fun h => hI.pre i h,fun h => hall i h⟩) hf (hfin a w s' k1 k2 k3 k4)
  intro fuel
  induction fuel with
  | zero =>
    intro L a w s B hI hf
    refine hdone 0 L a w s B hI hf fun j hj => ?_
    cases hx:L.getD j false with
    | true => rfl
    | false =>
      have:=count_set (L:=L) (i:=j) (by rw [hI.closed.1];omega) hx
      omega
  | succ fuel ih =>
    intro L a w s B hI hf
    by_cases hall:∀ j,j < m → L.getD j false = true
    · exact hdone _ L a w s B hI hf hall
    · -- some operation of the first phase is ready
      have hsize:=hI.closed.1
      have hmin:∃ j,j < m ∧ j ∈ Region.ready .any ops L:=by
        have hex:∃ j,j < m ∧ L.getD j false = false:=by
          apply Classical.byContradiction
          intro hno
          refine hall fun j hj => ?_
          cases hx:L.getD j false with
          | true => rfl
          | false => exact absurd ⟨j,hj,hx⟩ hno
        obtain ⟨j,hj⟩:=hex
        induction j using Nat.strongRecOn with
        | _ j ihj =>
          by_cases hd:∃ i,i < j ∧ L.getD i false = false
          · obtain ⟨i,hi,hx⟩:=hd
            exact ihj i hi ⟨by omega,hx⟩
          · refine ⟨j,hj.1,(ready_spec hsize).2 ⟨by omega,hj.2,fun i hdep => ?_⟩⟩
            cases hx:L.getD i false with
            | true => rfl
            | false => exact absurd ⟨i,hdown j i hdep,hx⟩ hd
      obtain ⟨j0,_,hj0⟩:=hmin
      refine ⟨fun h0 => by rw [h0] at hj0;simp at hj0,fun i hi => ?_⟩
      obtain ⟨hilt,hifalse,hideps⟩:=(ready_spec hsize).1 hi
      have him:i < m:=by
        apply Classical.byContradiction
        intro hge
        by_cases heq:i = m
        · subst heq
          refine hall fun j hj => ?_
          obtain ⟨hsucc,_⟩:=hrest hilt
          have key:∀ d j,j < i → i - j = d → L.getD j false = true:=by
            intro d
            induction d using Nat.strongRecOn with
            | _ d ihd =>
              intro j hj hd
              obtain ⟨j',h1,h2,h3⟩:=hsucc j hj
              by_cases hj':j' = i
              · subst hj';exact hideps j h3
              · exact hI.closed.2 j' j (ihd (i - j') (by omega) j' (by omega) rfl) h3
          exact key _ j hj rfl
        · have:=hideps _ ((hrest (by omega)).2 i hilt (by omega))
          have:=hI.pre _ this
          omega
      have hoi:ops[i]? = some ops[i]:=Array.getElem?_eq_getElem hilt
      obtain ⟨v,u,hres,hfit,hud,hBn,hBl⟩:=hat i ops[i] (by rw [hget i him];exact hoi)
      have hA:ActOK w s n0 ⟨e.n,((ops[i]).looksAt ops).map fun t => (t,(envOf ((ops.toList.take m).take i) (res.take i) e).get t)⟩ a:=by
        refine ⟨hI.n,fun t => ?_,hI.marks⟩
        show Rep w s (getM _ t) _
        rw [getM_map (fun t => (envOf ((ops.toList.take m).take i) (res.take i) e).get t)]
        split
        · rename_i hlk
          obtain ⟨g1,g2⟩:=henv i t (by omega)
          by_cases hex:∃ j,j < m ∧ dstAt ops j = some t
          · obtain ⟨j,hj,hd⟩:=hex
            have hdep:=hlook i j _ t him hj hoi hlk hd
            obtain ⟨vj,uj,hrj,_⟩:=hat j (ops[j]'(by omega)) (by rw [hget j hj];exact Array.getElem?_eq_getElem _)
            rw [g2 j vj uj (hdown i j hdep) hd hrj]
            exact (hI.new j t vj uj (hideps j hdep) hd hrj).1
          · rw [g1 fun j hj hd => hex ⟨j,hj,hd⟩]
            exact hI.old t fun j hj hd => hex ⟨j,hj,hd⟩
        · exact .undef _
      obtain ⟨k,hk1,hk2⟩:=hI.sq
      obtain ⟨sN,hB,hnext⟩:∃ sN,OpB2 P gl r ops ops[i] (envOf ((ops.toList.take m).take i) (res.take i) e) s.st sN v u ∧ ∃ k',(st :: Ss)[k']? = some sN ∧ ∀ j,j < m → lateAt ops j = true → ((L.setIfInBounds i true).getD j false = true ↔ cntA ops m j < k'):=by
        cases hla:lateAt ops i with
        | false =>
          refine ⟨s.st,hBn hla _ (htk _ _ hk1),k,hk1,fun j hj hlj => ?_⟩
          rw [getD_set (by omega),if_neg (fun he => by subst he;rw [hla] at hlj;cases hlj)]
          exact hk2 j hj hlj
        | true =>
          obtain ⟨a1,b1,ha1,hb1,hB⟩:=hBl hla
          have h1:¬ cntA ops m i < k:=fun hlt => by have:=(hk2 i him hla).2 hlt;rw [hifalse] at this;cases this
          have h2:cntA ops m i ≤ k:=by
            rcases chainT_spec hch him hla with h0 | ⟨p,hp1,hp2,hp3,hp4⟩
            · omega
            · have:=(hk2 p (by omega) hp2).1 (hideps p hp4)
              omega
          have hke:cntA ops m i = k:=by omega
          rw [hke] at ha1 hb1
          rw [hk1] at ha1
          simp only [Option.some.injEq] at ha1
          subst ha1
          refine ⟨b1,hB,k + 1,hb1,fun j hj hlj => ?_⟩
          rw [getD_set (by omega)]
          by_cases hji:i = j
          · subst hji
            simp [hke]
          · rw [if_neg hji,hk2 j hj hlj]
            have hne:cntA ops m j ≠ cntA ops m i:=by
              rcases Nat.lt_or_gt_of_ne hji with h | h
              · have:=cntA_lt (ops:=ops) (m:=m) h (by omega) hla;omega
              · have:=cntA_lt (ops:=ops) (m:=m) h (by omega) hlj;omega
            omega
      have hstep:=hB ⟨e.n,((ops[i]).looksAt ops).map fun t => (t,(envOf ((ops.toList.take m).take i) (res.take i) e).get t)⟩ (fun t ht => by show getM _ t = _;rw [getM_map (fun t => (envOf ((ops.toList.take m).take i) (res.take i) e).get t),if_pos ht]) n0 w s a
        (wpAnyIn (Fr r) 0 P .any ops Q fuel (L.setIfInBounds i true)) Q (Nat.le_trans hn0 hI.ev.size) rfl hI.sim hA (fun x w' s' k1 k2 k3 k4 k5 => ?_)
      · unfold wpOpIn
        rw [hoi]
        exact hstep
      · have hcs:=count_set (L:=L) (i:=i) (by omega) hifalse
        have hwf:=hI.sim.wf
        obtain ⟨bn,hbn⟩:∃ bn,∀ f o,u = some (f,o) → w.heap.size ≤ bn ∧ Pend P w' s' f o x bn:=by
          cases u with
          | none => exact ⟨0,by simp⟩
          | some fo =>
            obtain ⟨f,o⟩:=fo
            obtain ⟨bn,h1,h2⟩:=k5 f o rfl
            exact ⟨bn,fun f' o' he => by simp only [Option.some.injEq,Prod.mk.injEq] at he;obtain ⟨rfl,rfl⟩:=he;exact ⟨h1,h2⟩⟩
        have hdi:∀ j t,j < m → j ≠ i → dstAt ops j = some t → (ops[i]).dst ≠ some t:=fun j t hj hne hd he => hne (hdst j i t hj him hd (by simp [dstAt,hilt,he]))
        refine ih _ (a.put (ops[i]).dst x) w' s' (fun j => if j = i then bn else B j) ⟨hI.closed.set hi,fun j hj => ?_,by rw [k3];exact hnext,k1,hI.ev.trans hwf0 hI.sim.len k2,by rw [put_size];exact hI.n,by rw [put_defers];exact hI.marks.evolve k2 hwf,fun t ht => ?_,fun j t vj uj hL hd hrj => ?_,fun j j' v1 v2 fo fo' hL hL' hr hr' hBe => ?_⟩ (by omega)
        · rw [getD_set (by omega)] at hj
          split at hj
          · rename_i he;subst he;exact him
          · exact hI.pre j hj
        · rw [put_other (fun he => ht i him (by simp [dstAt,hilt,he]))]
          exact (hI.old t ht).evolve k2 hwf
        · rw [getD_set (by omega)] at hL
          by_cases hji:j = i
          · subst hji
            rw [hres] at hrj
            simp only [Option.some.injEq,Prod.mk.injEq] at hrj
            obtain ⟨rfl,rfl⟩:=hrj
            have hd':(ops[j]).dst = some t:=by simpa [dstAt,hilt] using hd
            have hlt:t < a.tmps.size:=by
              rw [hd'] at hfit
              have h1:t < (envOf ((ops.toList.take m).take j) (res.take j) e).n:=hfit
              rw [envOf_n] at h1
              exact Nat.lt_of_lt_of_le h1 hI.n
            rw [hd',put_same hlt]
            refine ⟨k4,fun f o hu => ?_⟩
            rw [if_pos rfl]
            obtain ⟨h1,h2⟩:=hbn f o hu
            exact ⟨Nat.le_trans hI.ev.size h1,h2⟩
          · rw [if_neg (fun he => hji he.symm)] at hL
            have hjm:=hI.pre j hL
            rw [put_other (hdi j t hjm hji hd)]
            obtain ⟨h1,h2⟩:=hI.new j t vj uj hL hd hrj
            refine ⟨h1.evolve k2 hwf,fun f o hu => ?_⟩
            rw [if_neg hji]
            obtain ⟨h3,h4⟩:=h2 f o hu
            exact ⟨h3,h4.evolve hI.sim k2⟩
        · rw [getD_set (by omega)] at hL hL'
          have hlt:∀ j v fo,j ≠ i → L.getD j false = true → res[j]? = some (v,some fo) → B j < w.heap.size:=fun j v fo hji hL hr => by
            have hjm:=hI.pre j hL
            obtain ⟨v',u',hr',_,hud',_⟩:=hat j (ops[j]'(by omega)) (by rw [hget j hjm];exact Array.getElem?_eq_getElem _)
            rw [hr] at hr'
            simp only [Option.some.injEq,Prod.mk.injEq] at hr'
            obtain ⟨rfl,rfl⟩:=hr'
            obtain ⟨d,hd⟩:=Option.isSome_iff_exists.1 (hud' rfl)
            obtain ⟨_,h2⟩:=hI.new j d v (some fo) hL (by simp [dstAt,show j < ops.size by omega,hd]) hr
            obtain ⟨_,_,_,h3,_⟩:=(h2 fo.1 fo.2 rfl).2
            exact h3
          have hnew:∀ v fo,res[i]? = some (v,some fo) → w.heap.size ≤ bn:=fun v' fo hr => by
            rw [hres] at hr
            simp only [Option.some.injEq,Prod.mk.injEq] at hr
            exact (hbn fo.1 fo.2 hr.2).1
          by_cases h1:j = i
          · by_cases h2:j' = i
            · omega
            · subst h1
              rw [if_pos rfl,if_neg h2] at hBe
              rw [if_neg (fun he => h2 he.symm)] at hL'
              have:=hlt j' v2 fo' h2 hL' hr'
              have:=hnew v1 fo hr
              omega
          · rw [if_neg (fun he => h1 he.symm)] at hL
            by_cases h2:j' = i
            · subst h2
              rw [if_neg h1,if_pos rfl] at hBe
              have:=hlt j v1 fo h1 hL hr
              have:=hnew v2 fo' hr'
              omega
            · rw [if_neg h1,if_neg h2] at hBe
              rw [if_neg (fun he => h2 he.symm)] at hL'
              exact hI.inj j j' v1 v2 fo fo' hL hL' hr hr' hBe
theorem AW.anyT {id:Nat} {Q:Exit → Env → List O → Prop} (hfol:P.follows .mixedOrders = true) (m k:Nat) (hok:(anyOK ops m && chainT ops m) = true)
    (h:awT P gl k (ops.toList.take m) e st [] fun e1 s1 => awL P gl ops (ops.toList.drop m) e1 s1 (Q .normal)):AW P gl r (.region id ops true) Q e st:=fun n0 w s a hn hst hs ha => by
  simp only [Bool.and_eq_true] at hok
  obtain ⟨hok,hch⟩:=hok
  refine wpIn_region_any hfol ?_
  have hE0:=Evolve.drawn (w:=w) hs.wf (w.drawn + 1)
  have hS0:=hs.drawn (w.drawn + 1)
  have hA0:=ha.evolve hE0 hs.wf
  obtain ⟨res,Ss,hrun,hK⟩:=awT_run (r:=r) (ops:=ops) _ _ _ _ h
  rw [List.nil_append] at hK
  obtain ⟨hm,_⟩:=anyOK_spec hok
  have hll:(ops.toList.take m).length = m:=by simp;omega
  have hget:∀ i,i < m → (ops.toList.take m)[i]? = ops[i]?:=fun i hi => by rw [List.getElem?_take_of_lt hi];simp
  obtain ⟨q1,q2,q3,q4⟩:=runT_at _ _ _ _ _ hrun
  have hsl:(st :: Ss)[Ss.length]? = some (Ss.getLastD st):=by
    rw [List.getElem?_eq_getElem (by simp),Option.some.injEq,List.getLastD_eq_getLast?]
    cases Ss with
    | nil => rfl
    | cons a l => simp [List.getLast?_eq_getElem?]
  refine anyK (Ss:=Ss) (res:=res) (st:=st) (Q:=fun x a' w' => ∃ e' s',Sim P gl w' s' ∧ Evolve w s w' s' ∧ ActOK w' s' n0 e' a' ∧ Q x e' s'.st) hok hch q3 (by rw [q2,hll];rfl) (by omega) (fun i o hio => ?_) (w0:={ w with drawn:=w.drawn + 1 }) (s0:=s) hn hsl (by rw [hst];exact Nat.le_refl _) hs.len (fun a' w' s' k1 k2 k3 k4 => ?_) ops.size _ a _ s (fun _ => 0)
    ⟨⟨by simp,fun i j hi => ?_⟩,fun i hi => ?_,⟨0,by rw [hst];rfl,fun j _ _ => ⟨fun hL => ?_,fun hL => absurd hL (Nat.not_lt_zero _)⟩⟩,hS0,Evolve.refl hS0.wf,hA0.n,hA0.marks,fun t _ => hA0.get t,fun j t v u hL => ?_,fun j j' v v' fo fo' hL => ?_⟩ (by simp [Array.count_replicate])
  · have him:i < m:=by have:=(List.getElem?_eq_some_iff.1 hio).1;omega
    have hoi:ops[i]? = some o:=by rw [← hget i him];exact hio
    have hle:lateAt ops i = lateOp o.op:=by simp [lateAt,hoi]
    rw [hle]
    exact q4 i o hio
  · have hE:=hE0.trans hs.len hs.len k2
    rw [← k4] at hK
    have hl':(ops.toList.drop m).length = ops.size - m:=by simp
    rw [← hl']
    refine awL_sound (r:=r) (ops.toList.drop m) m _ _ rfl hK n0 w' s' a' _ (Nat.le_trans hn hE.size) rfl k1 k3 fun e'' s'' a'' w'' j1 j2 j3 j4 => ⟨e'',s'',j1,hE.trans hs.len k1.len j2,j3,j4⟩
  all_goals (exfalso;simp only [Array.getD_eq_getD_getElem?,Array.getElem?_replicate] at *)
  · split at hi <;> simp at hi
  · split at hi <;> simp at hi
  · split at hL <;> simp at hL
  · split at hL <;> simp at hL
  · split at hL <;> simp at hL
end
end Go.Duo
