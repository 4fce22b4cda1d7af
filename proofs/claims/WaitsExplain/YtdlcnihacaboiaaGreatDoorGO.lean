/-
  A part of the proof.
-/
import Derived.Test.YtdlcnihacaboiaaGreatDoorGM
import Derived.Test.YtdlcnihacaboiaaGreatDoorGF
import Derived.Test.YtdlcnihacaboiaaGreatDoorGH
set_option linter.all false
namespace Go.Duo
open Go
section
variable {P:Program} {gl:Nat → V} {r:Option Nat} {e:Env} {st:List O} {ops:Array Oper} {m:Nat}
def tokOp (P:Program) (gl:Nat → V) (ρ:Operand → V) (st:List O) (op:Op) (es:List V) (el:TypeId) (sz:Nat):Prop:=match op with
  | .call c => match c.callee with
    | .value f => match ρ f with
      | .func (.func k) fs cs => ent P k = true ∧ Call P gl k (fs ++ c.args.toList.map ρ ++ cs) st fun v st' => v = .sl es (some st.length) ∧ st' = st ++ [.tok el sz es.length]
      | _ => False
    | _ => False
  | _ => False
theorem OpB_tok {o:Oper} {es:List V} {el:TypeId} {sz:Nat} (hg:o.guard = none) (hne:es ≠ []) (h:tokOp P gl (e.ev gl) st o.op es el sz):OpB P gl r ops o e st (.sl es none) (some (fun i => .sl es (some i),.tok el sz es.length)):=by
  intro e' he n0 w s a next Q hn hst hs ha hk
  have hw:Region.wanted o (yielded ops a.tmps) = true:=by unfold Region.wanted;rw [hg]
  rw [if_pos hw]
  have hev:∀ x ∈ o.op.operands,e.ev gl x = e'.ev gl x:=ev_of_get he
  unfold tokOp at h
  split at h <;> try exact h.elim
  rename_i c ho
  split at h <;> try exact h.elim
  rename_i f hcal
  split at h <;> try exact h.elim
  rename_i k fs cs hf
  obtain ⟨hent,hcall⟩:=h
  have hfo:f ∈ o.op.operands:=by rw [ho];simp [Op.operands,Call.operands,hcal]
  have hf':e'.ev gl f = .func (.func k) fs cs:=by rw [← hev f hfo];exact hf
  have hargs:c.args.toList.map (e.ev gl) = c.args.toList.map (e'.ev gl):=List.map_congr_left fun x hx => hev x (by rw [ho];simp only [Op.operands,Call.operands,Array.mem_append];exact .inr (by simpa using hx))
  rw [hargs] at hcall
  refine call_sound ho hcal hf' hent hcall n0 w s a next Q hn hst hs ha fun v' x w' s' hs' hE hr hK => ?_
  obtain ⟨rfl,hst'⟩:=hK
  have hclo:=hs.clo
  have hlen':s'.g.length = s'.st.length:=hs'.len
  have hkst:s.st.length ≤ st.length:=by rw [hst];exact Nat.le_refl _
  have hS2:=hs'.trim st.length
  have hE2:Evolve w s w' (s'.trim st.length):=Evolve.trim hE hs.len hlen' hkst
  have hst2:(s'.trim st.length).st = st:=by
    simp only [S.trim]
    rw [hst',List.take_left]
    rw [← hst]
    exact hclo s.st.length (Nat.le_refl _)
  have hpr:PR w' (s'.trim st.length).K (.sl es none) x:=hr.sl_inv
  refine hk x w' _ hS2 hE2 hst2 (.pure _ _ hpr) fun f' o' hfo' => ?_
  simp only [Option.some.injEq,Prod.mk.injEq] at hfo'
  obtain ⟨rfl,rfl⟩:=hfo'
  have hto:s'.st[st.length]? = some (.tok el sz es.length):=by rw [hst'];simp
  have htok:TokOK s' st.length es x:=by
    cases hr with
    | tok _ _ _ _ ht => exact ht
    | pure _ _ h => cases h
  obtain ⟨ob,hob,hm⟩:=htok
  rw [hto] at hob
  simp only [Option.some.injEq] at hob
  subst hob
  obtain ⟨_,hrow,hsz⟩:=hm
  have hpos:0 < es.length:=List.length_pos_iff.2 hne
  have hrow:s'.g[st.length]? = some (.row x):=by
    rcases hrow rfl with h | ⟨h,_⟩
    · exact h
    · omega
  have hobj:=hs'.obj _ _ _ hto hrow
  simp only [ObjOK] at hobj
  obtain ⟨xs,hown⟩:=hobj
  obtain ⟨b,hb⟩:∃ b,x.ownBlock = some b:=by
    rcases hown.2 with ⟨_,h0⟩ | ⟨g,cap,cur,rfl,_⟩
    · omega
    · exact ⟨g,rfl⟩
  have hownb:s'.own st.length b:=⟨_,_,hto,rfl,hrow,hb⟩
  have hfresh:w.heap.size ≤ b:=hE.fresh st.length _ _ b (by rw [hs.len,hst];exact Nat.le_refl _) hto rfl hrow hb
  refine ⟨b,hfresh,pend_of_own hown hb (hown.lt _ hb).2 (fun hmi => ?_) (fun hfo => ?_) (fun y hy hk => ?_) hpr hsz ((hs.late hfresh).evolve hE2 hs.len)⟩
  · obtain ⟨i,hi⟩:=hmi
    have h1:=hs'.inj _ _ _ (own_trim hi) hownb
    obtain ⟨o1,g1,ho1,_⟩:=hi
    obtain ⟨_,_,_,hlt⟩:=trim_get ho1
    omega
  · exact (hs'.fgn b (foreign_trim hfo)).2 ⟨_,hownb⟩
  · exact hs'.kout _ _ _ _ hownb hto (show es.length * sz ≤ y from hy) hk
theorem RunA_app:∀ (l l2:List Oper) (res res2:List (V × Option ((Nat → V) × O))) (e:Env),RunA P gl r ops st l res e → RunA P gl r ops st l2 res2 (envOf l res e) → RunA P gl r ops st (l ++ l2) (res ++ res2) e:=by
  intro l
  induction l with
  | nil =>
    intro l2 res res2 e h h2
    cases res with
    | nil => exact h2
    | cons a res => exact h.elim
  | cons o l ih =>
    intro l2 res res2 e h h2
    cases res with
    | nil => exact h.elim
    | cons a res =>
      obtain ⟨v,u⟩:=a
      obtain ⟨h1,h3,h4,h5⟩:=h
      exact ⟨h1,h3,h4,ih l2 res res2 _ h5 h2⟩
theorem RunA_len:∀ (l:List Oper) (res:List (V × Option ((Nat → V) × O))) (e:Env),RunA P gl r ops st l res e → l.length = res.length:=fun l res e h => (runA_at l res e h).1
theorem AW.anyT2 {id:Nat} {Q:Exit → Env → List O → Prop} (hfol:P.follows .mixedOrders = true) (m q:Nat) (oq:Oper) (hok:anyOK ops m = true) (hqm:q < m) (hoq0:ops.toList[q]? = some oq) (hg:oq.guard = none)
    (h:awA P gl ops (ops.toList.take q) e st [] fun e1 s1 => s1 = st ∧ e1.fits oq.dst ∧ ∃ (d:Tmp) (es:List V) (el:TypeId) (sz:Nat),oq.dst = some d ∧ es ≠ [] ∧ tokOp P gl (e1.ev gl) st oq.op es el sz ∧
      awA P gl ops ((ops.toList.take m).drop (q + 1)) (e1.put (some d) (.sl es none)) st [(d,fun i => .sl es (some i),.tok el sz es.length)] fun e2 s2 => awL P gl ops (ops.toList.drop m) e2 s2 (Q .normal)):AW P gl r (.region id ops true) Q e st:=fun n0 w s a hn hst hs ha => by
  refine wpIn_region_any hfol ?_
  have hE0:=Evolve.drawn (w:=w) hs.wf (w.drawn + 1)
  have hS0:=hs.drawn (w.drawn + 1)
  have hA0:=ha.evolve hE0 hs.wf
  obtain ⟨res1,hrun1,hK1⟩:=awA_run (r:=r) _ _ _ h
  rw [List.nil_append] at hK1
  obtain ⟨hs1,hfit,d,es,el,sz,hd,hne,htok,h2⟩:=hK1
  have hups1:upsOf (ops.toList.take q) res1 = []:=by
    have key:∀ (l:List Up) (e:Env) (st:List O),(applyUps l e st).2.length = st.length + l.length:=fun l => by
      induction l with
      | nil => intro e st;rfl
      | cons u l ih => intro e st;obtain ⟨d,f,o⟩:=u;rw [applyUps,ih];simp;omega
    have:=congrArg List.length hs1
    rw [key] at this
    exact List.length_eq_zero_iff.1 (by omega)
  have he1:(applyUps (upsOf (ops.toList.take q) res1) (envOf (ops.toList.take q) res1 e) st).1 = envOf (ops.toList.take q) res1 e:=by rw [hups1];rfl
  rw [he1] at hfit htok h2
  obtain ⟨res2,hrun2,hK⟩:=awA_run (r:=r) _ _ _ h2
  have hm:=(anyOK_spec hok).1
  have hqs:q < ops.toList.length:=by have:=(List.getElem?_eq_some_iff.1 hoq0).1;exact this
  have hsplit:ops.toList.take m = ops.toList.take q ++ (oq :: (ops.toList.take m).drop (q + 1)):=by
    have h1:(ops.toList.take m)[q]? = some oq:=by rw [List.getElem?_take_of_lt hqm];exact hoq0
    obtain ⟨hlt,hge⟩:=List.getElem?_eq_some_iff.1 h1
    have h3:ops.toList.take q = (ops.toList.take m).take q:=by rw [List.take_take,Nat.min_eq_left (Nat.le_of_lt hqm)]
    rw [h3,← hge,← List.drop_eq_getElem_cons hlt,List.take_append_drop]
  have hrun:RunA P gl r ops st (ops.toList.take m) (res1 ++ ((.sl es none,some (fun i => .sl es (some i),.tok el sz es.length)) :: res2)) e:=by
    rw [hsplit]
    refine RunA_app _ _ _ _ _ hrun1 ⟨hfit,fun _ => by rw [hd];rfl,OpB_tok hg hne htok, ?_⟩
    rw [hd];exact hrun2
  have hlen1:=RunA_len _ _ _ hrun1
  obtain ⟨henv,hupsA⟩:=envOf_app (ops.toList.take q) (oq :: (ops.toList.take m).drop (q + 1)) res1 ((.sl es none,some (fun i => .sl es (some i),.tok el sz es.length)) :: res2) e hlen1
  rw [← hsplit] at henv hupsA
  rw [hups1,List.nil_append] at hupsA
  have hupc:upsOf (oq :: (ops.toList.take m).drop (q + 1)) ((.sl es none,some (fun i => .sl es (some i),.tok el sz es.length)) :: res2) = [(d,fun i => .sl es (some i),.tok el sz es.length)] ++ upsOf ((ops.toList.take m).drop (q + 1)) res2:=by
    rw [upsOf,hd];rfl
  rw [hupc] at hupsA
  have henv2:envOf (oq :: (ops.toList.take m).drop (q + 1)) ((.sl es none,some (fun i => .sl es (some i),.tok el sz es.length)) :: res2) (envOf (ops.toList.take q) res1 e) = envOf ((ops.toList.take m).drop (q + 1)) res2 ((envOf (ops.toList.take q) res1 e).put (some d) (.sl es none)):=by
    rw [envOf,hd]
  rw [henv2] at henv
  refine anyA (Q:=fun x a' w' => ∃ e' s',Sim P gl w' s' ∧ Evolve w s w' s' ∧ ActOK w' s' n0 e' a' ∧ Q x e' s'.st) hok hrun (w0:={ w with drawn:=w.drawn + 1 }) (s0:=s) hn hst hs.len (fun a' w' s' k1 k2 k3 k4 => ?_) ops.size _ a _ s (fun _ => 0)
    ⟨⟨by simp,fun i j hi => ?_⟩,fun i hi => ?_,hst,hS0,Evolve.refl hS0.wf,hA0.n,hA0.marks,fun t _ => hA0.get t,fun j t v u hL => ?_,fun j j' v v' fo fo' hL => ?_⟩ (by simp [Array.count_replicate])
  · have hE:=hE0.trans hs.len hs.len k2
    have hl:(ops.toList.drop m).length = ops.size - m:=by simp
    rw [henv,hupsA] at k3 k4
    rw [← hl]
    refine awL_sound (r:=r) (ops.toList.drop m) m _ _ rfl hK n0 w' s' a' _ (Nat.le_trans hn hE.size) k4 k1 k3 fun e'' s'' a'' w'' j1 j2 j3 j4 => ⟨e'',s'',j1,hE.trans hs.len k1.len j2,j3,j4⟩
  all_goals (exfalso;simp only [Array.getD_eq_getD_getElem?,Array.getElem?_replicate] at *)
  · split at hi <;> simp at hi
  · split at hi <;> simp at hi
  · split at hL <;> simp at hL
  · split at hL <;> simp at hL
end
end Go.Duo

namespace Go.Duo
open Go
section
variable {P:Program} {gl:Nat → V} {r:Option Nat} {e:Env} {st:List O} {K:V → Prop} {x y:V}
def isCallV (o:Oper):Bool:=match o.op with
  | .call c => match c.callee with
    | .value _ => true
    | _ => false
  | _ => false
def findR (ops:Array Oper) (m q:Nat) (oq:Oper) (ls as:List Nat):Option (Nat × List Nat × List Nat × Oper) :=
  if (Nat.blt q m && (oq.guard.isNone && callOK ops m q ls as)) = true then some (q,ls,as,oq) else none
def findQ (ops:Array Oper) (m:Nat):Option (Nat × List Nat × List Nat × Oper) :=
  match (List.range m).filter (fun i => match ops[i]? with | some o => isCallV o | none => false) with
  | [q] => match ops.toList[q]? with
    | some oq => findR ops m q oq ((List.range q).filter fun i => !dep ops q i) ((List.range m).filter fun i => Nat.blt q i)
    | none => none
  | _ => none
theorem findQ_ok {ops:Array Oper} {m q:Nat} {ls as:List Nat} {oq:Oper} (h:findQ ops m = some (q,ls,as,oq)):q < m ∧ ops.toList[q]? = some oq ∧ oq.guard = none ∧ callOK ops m q ls as = true:=by
  unfold findQ at h
  split at h <;> try (cases h;done)
  split at h <;> try (cases h;done)
  rename_i oq' hoq
  unfold findR at h
  split at h <;> try (cases h;done)
  rename_i hh
  simp only [Option.some.injEq,Prod.mk.injEq] at h
  obtain ⟨rfl,rfl,rfl,rfl⟩:=h
  simp only [Bool.and_eq_true] at hh
  refine ⟨by have:=hh.1;simpa [Nat.blt_eq] using this,hoq, ?_,hh.2.2⟩
  have:=hh.2.1
  cases hg:oq'.guard with
  | none => rfl
  | some x => rw [hg] at this;cases this
def fnEq:Fn → Fn → Bool
  | .func a,.func b => decide (a = b)
  | _,_ => false
theorem fnEq_eq {a b:Fn} (h:fnEq a b = true):a = b:=by
  cases a <;> cases b <;> simp only [fnEq,decide_eq_true_eq] at h <;> first | (cases h;done) | (subst h;rfl)
mutual
def V.eqq:V → V → Bool
  | .undef,.undef => true
  | .int k n,.int k' n' => decide (k = k') && decide (n = n')
  | .bool a,.bool b => decide (a = b)
  | .str a,.str b => decide (a = b)
  | .agg a,.agg b => V.eqqL a b
  | .tuple a,.tuple b => V.eqqL a b
  | .sl a t,.sl b t' => V.eqqL a b && decide (t = t')
  | .nil,.nil => true
  | .ptr i o,.ptr i' o' => decide (i = i') && decide (o = o')
  | .dptr a,.dptr b => V.eqqL a b
  | .nilptr,.nilptr => true
  | .nilfunc,.nilfunc => true
  | .niliface,.niliface => true
  | .map i,.map j => decide (i = j)
  | .func f a b,.func f' a' b' => fnEq f f' && (V.eqqL a a' && V.eqqL b b')
  | _,_ => false
def V.eqqL:List V → List V → Bool
  | [],[] => true
  | a :: as,b :: bs => V.eqq a b && V.eqqL as bs
  | _,_ => false
end
mutual
theorem V.eqq_eq:∀ {a b:V},V.eqq a b = true → a = b:=fun {a b} h => by
  cases a <;> cases b <;> simp only [V.eqq,Bool.and_eq_true,decide_eq_true_eq] at h <;> first | (cases h;done) | rfl | (subst h;rfl) | (obtain ⟨rfl,rfl⟩:=h;rfl) | (rw [V.eqqL_eq h]) | (rw [V.eqqL_eq h.1,h.2]) | (rw [fnEq_eq h.1,V.eqqL_eq h.2.1,V.eqqL_eq h.2.2])
theorem V.eqqL_eq:∀ {a b:List V},V.eqqL a b = true → a = b:=fun {a b} h => by
  cases a <;> cases b <;> simp only [V.eqqL,Bool.and_eq_true] at h <;> first | (cases h;done) | rfl | (rw [V.eqq_eq h.1,V.eqqL_eq h.2])
end
def O.eqq:O → O → Bool
  | .box t cs,.box t' cs' => decide (t = t') && V.eqqL cs cs'
  | .map a b,.map a' b' => V.eqqL a a' && V.eqqL b b'
  | .tok e s n,.tok e' s' n' => decide (e = e') && decide (s = s') && decide (n = n')
  | .arr e s v es,.arr e' s' v' es' => decide (e = e') && decide (s = s') && decide (v = v') && V.eqqL es es'
  | .dead,.dead => true
  | _,_ => false
theorem O.eqq_eq {a b:O} (h:O.eqq a b = true):a = b:=by
  cases a <;> cases b <;> simp only [O.eqq,Bool.and_eq_true,decide_eq_true_eq] at h <;> first | (cases h;done) | rfl | (rw [h.1,V.eqqL_eq h.2]) | (rw [V.eqqL_eq h.1,V.eqqL_eq h.2]) | (rw [h.1.1,h.1.2,h.2]) | (rw [h.1.1.1,h.1.1.2,h.1.2,V.eqqL_eq h.2])
def stEqq:List O → List O → Bool
  | [],[] => true
  | a :: as,b :: bs => O.eqq a b && stEqq as bs
  | _,_ => false
theorem stEqq_eq:∀ {a b:List O},stEqq a b = true → a = b:=fun {a b} h => by
  induction a generalizing b with
  | nil => cases b with
    | nil => rfl
    | cons => cases h
  | cons x a ih => cases b with
    | nil => cases h
    | cons y b =>
      simp only [stEqq,Bool.and_eq_true] at h
      rw [O.eqq_eq h.1,ih h.2]
noncomputable def stepQ (P:Program) (call:CallE) (ρ:Operand → V) (st:List O) (op:Op):Option (V × Option ((Nat → V) × O)):=match op with
  | .call c => match c.callee with
    | .value f => match ρ f with
      | .func (.func k) fs cs => if ent P k = true then match call k (fs ++ c.args.toList.map ρ ++ cs) st with
        | some (v,st') => if stEqq st' st = true then some (v,none) else none
        | none => none
        else none
      | _ => none
    | _ => stepAE P call ρ st op
  | _ => stepAE P call ρ st op
theorem stepQ_sound {call:CallE} (hc:call.ok P gl) {ρ:Operand → V} {op:Op} {v:V} {u:Option ((Nat → V) × O)} {K:V → Option ((Nat → V) × O) → Prop} (h:stepQ P call ρ st op = some (v,u)) (hk:K v u):stepA P gl ρ st op K:=by
  unfold stepQ at h
  split at h
  · rename_i c
    split at h
    · rename_i f hcal
      split at h <;> try (cases h;done)
      rename_i k fs cs hf
      split at h <;> try (cases h;done)
      rename_i hent
      split at h <;> try (cases h;done)
      rename_i v' st' hcl
      split at h <;> try (cases h;done)
      rename_i heq
      simp only [Option.some.injEq,Prod.mk.injEq] at h
      obtain ⟨rfl,rfl⟩:=h
      unfold stepA
      simp only [hcal,hf]
      exact ⟨hent,_,Call.mono (hc _ _ _ _ _ hcl) fun v' s' hv => ⟨hv.1,hv.2.trans (stEqq_eq heq)⟩,hk⟩
    · exact stepAE_sound hc h hk
  · exact stepAE_sound hc h hk
noncomputable def anyH (P:Program) (gl:Nat → V) (call:CallE) (ops:Array Oper):List Oper → Env → List O → List Up → Option (Env × List O)
  | [],e,st,ups => some (applyUps ups e st)
  | o :: rest,e,st,ups => if fitB e o.dst = true then match o.guard with
    | none => match stepQ P call (e.ev gl) st o.op with
      | some (v,none) => anyH P gl call ops rest (e.put o.dst v) st ups
      | some (v,some (f,ob)) => match o.dst with
        | some d => anyH P gl call ops rest (e.put o.dst v) st (ups ++ [(d,f,ob)])
        | none => none
      | none => none
    | some (j,want) => match (ops[j]?).bind (·.dst) with
      | none => none
      | some d => match e.get d with
        | .bool b => if b = want then match stepQ P call (e.ev gl) st o.op with
            | some (v,none) => anyH P gl call ops rest (e.put o.dst v) st ups
            | some (v,some (f,ob)) => match o.dst with
              | some d => anyH P gl call ops rest (e.put o.dst v) st (ups ++ [(d,f,ob)])
              | none => none
            | none => none
          else anyH P gl call ops rest (e.put o.dst (.tuple [])) st ups
        | .tuple [] => anyH P gl call ops rest (e.put o.dst (.tuple [])) st ups
        | _ => none
    else none
theorem anyH_sound {call:CallE} (hc:call.ok P gl) {ops:Array Oper} {K:Env → List O → Prop}:∀ (l:List Oper) (e:Env) (st:List O) (ups:List Up) (e':Env) (st':List O),anyH P gl call ops l e st ups = some (e',st') → K e' st' → awA P gl ops l e st ups K:=by
  intro l
  induction l with
  | nil =>
    intro e st ups e' st' h hk
    simp only [anyH,Option.some.injEq] at h
    unfold awA
    rw [h];exact hk
  | cons o rest ih =>
    intro e st ups e' st' h hk
    unfold anyH at h
    unfold awA
    split at h <;> try (cases h;done)
    rename_i hf
    refine ⟨fits_of hf, ?_⟩
    cases hg:o.guard with
    | none =>
      rw [hg] at h
      simp only at h ⊢
      split at h <;> try (cases h;done)
      · rename_i hs
        exact stepQ_sound hc hs (ih _ _ _ _ _ h hk)
      · rename_i hs
        split at h <;> try (cases h;done)
        rename_i hd
        refine stepQ_sound hc hs ?_
        rw [hd] at h ⊢
        exact ih _ _ _ _ _ h hk
    | some jw =>
      obtain ⟨j,want⟩:=jw
      rw [hg] at h
      simp only at h ⊢
      split at h <;> try (cases h;done)
      rename_i hd
      simp only [hd]
      split at h <;> try (cases h;done)
      case h_2 hb =>
        simp only [hb]
        exact ih _ _ _ _ _ h hk
      rename_i hb
      simp only [hb]
      split at h
      · rename_i hbw
        rw [if_pos hbw]
        split at h <;> try (cases h;done)
        · rename_i hs
          exact stepQ_sound hc hs (ih _ _ _ _ _ h hk)
        · rename_i hs
          split at h <;> try (cases h;done)
          rename_i hd
          refine stepQ_sound hc hs ?_
          rw [hd] at h ⊢
          exact ih _ _ _ _ _ h hk
      · rename_i hbw
        rw [if_neg hbw]
        exact ih _ _ _ _ _ h hk
noncomputable def lateQ (P:Program) (gl:Nat → V) (call:CallE) (ops:Array Oper) (e1:Env) (st':List O):List Nat → Bool
  | [] => true
  | i :: ls => match ops[i]? with
    | some o => match o.guard,o.dst with
      | none,some d => match stepQ P call (e1.ev gl) st' o.op with
        | some (v,none) => V.eqq v (e1.get d) && lateQ P gl call ops e1 st' ls
        | _ => false
      | _,_ => false
    | none => false
theorem lateQ_sound {call:CallE} (hc:call.ok P gl) {ops:Array Oper} {e1:Env} {st':List O}:∀ ls:List Nat,lateQ P gl call ops e1 st' ls = true → awS P gl ops e1 st' ls
  | [],_ => trivial
  | i :: ls,h => by
    unfold lateQ at h
    split at h <;> try (cases h;done)
    rename_i o ho
    split at h <;> try (cases h;done)
    rename_i d hg hd
    split at h <;> try (cases h;done)
    rename_i v hs
    simp only [Bool.and_eq_true] at h
    exact ⟨⟨o,d,ho,hg,hd,stepQ_sound hc hs ⟨V.eqq_eq h.1,rfl⟩⟩,lateQ_sound hc ls h.2⟩
noncomputable def regQ (P:Program) (gl:Nat → V) (call:CallE) (ops:Array Oper) (m q:Nat) (ls as:List Nat) (oq:Oper) (e:Env) (st:List O):Option (Env × List O) :=
  match anyH P gl call ops (ops.toList.take q) e st [] with
  | some (e1,s1) => if (stEqq s1 st && fitB e1 oq.dst) = true then match stepE P call (e1.ev gl) st oq.op with
      | some (vq,st') => if (Nat.ble st.length st'.length && lateQ P gl call ops e1 st' ls) = true then match anyH P gl call ops ((ops.toList.take m).drop (q + 1)) (e1.put oq.dst vq) st' [] with
          | some (e2,s2) => regE P gl call ops (ops.toList.drop m) e2 s2
          | none => none
        else none
      | none => none
    else none
  | none => none
theorem regQ_sound {call:CallE} (hc:call.ok P gl) (hfol:P.follows .mixedOrders = true) {ops:Array Oper} {m q id:Nat} {ls as:List Nat} {oq:Oper} {e':Env} {st':List O} {Q:Exit → Env → List O → Prop} (hm:anyOK ops m = true)
    (hf:findQ ops m = some (q,ls,as,oq)) (h:regQ P gl call ops m q ls as oq e st = some (e',st')) (hq:Q .normal e' st'):AW P gl r (.region id ops true) Q e st:=by
  obtain ⟨h1,h2,h3,h4⟩:=findQ_ok hf
  unfold regQ at h
  split at h <;> try (cases h;done)
  rename_i e1 s1 ha
  split at h <;> try (cases h;done)
  rename_i hb
  simp only [Bool.and_eq_true] at hb
  split at h <;> try (cases h;done)
  rename_i vq st1 hs
  split at h <;> try (cases h;done)
  rename_i hl
  simp only [Bool.and_eq_true] at hl
  split at h <;> try (cases h;done)
  rename_i e2 s2 ha2
  refine AW.anyC hfol m q ls as oq hm h1 h2 h3 h4 (anyH_sound hc _ _ _ _ _ _ ha ⟨stEqq_eq hb.1,fits_of hb.2,vq,st1,stepE_sound hc hs ⟨rfl,rfl⟩,Nat.le_of_ble_eq_true hl.1,lateQ_sound hc ls hl.2, ?_⟩)
  exact anyH_sound hc _ _ _ _ _ _ ha2 (regE_sound hc _ _ _ _ _ h hq)
noncomputable def tokE (P:Program) (call:CallE) (ρ:Operand → V) (st:List O) (op:Op):Option (List V × TypeId × Nat):=match op with
  | .call c => match c.callee with
    | .value f => match ρ f with
      | .func (.func k) fs cs => if ent P k = true then match call k (fs ++ c.args.toList.map ρ ++ cs) st with
          | some (.sl (x :: es) (some i),st') => match st'.drop st.length with
            | [.tok el sz n] => if (Nat.beq i st.length && (Nat.beq n (es.length + 1) && stEqq st' (st ++ [.tok el sz n]))) = true then some (x :: es,el,sz) else none
            | _ => none
          | _ => none
        else none
      | _ => none
    | _ => none
  | _ => none
theorem tokE_sound {call:CallE} (hc:call.ok P gl) {ρ:Operand → V} {op:Op} {es:List V} {el:TypeId} {sz:Nat} (h:tokE P call ρ st op = some (es,el,sz)):es ≠ [] ∧ tokOp P gl ρ st op es el sz:=by
  unfold tokE at h
  split at h <;> try (cases h;done)
  rename_i c
  split at h <;> try (cases h;done)
  rename_i f hf
  split at h <;> try (cases h;done)
  rename_i k fs cs hk
  split at h <;> try (cases h;done)
  rename_i hent
  split at h <;> try (cases h;done)
  rename_i x es' i st' hcall
  split at h <;> try (cases h;done)
  rename_i el' sz' n hd
  split at h <;> try (cases h;done)
  rename_i hb
  simp only [Bool.and_eq_true] at hb
  obtain ⟨b1,b2,b3⟩:=hb
  have e1:=Nat.eq_of_beq_eq_true b1
  have e2:=Nat.eq_of_beq_eq_true b2
  have e3:=stEqq_eq b3
  simp only [Option.some.injEq,Prod.mk.injEq] at h
  obtain ⟨rfl,rfl,rfl⟩:=h
  refine ⟨by simp, ?_⟩
  unfold tokOp
  simp only [hf,hk]
  refine ⟨hent, ?_⟩
  have:=hc _ _ _ _ _ hcall
  rw [e3,e1,e2] at this
  exact this
noncomputable def regT (P:Program) (gl:Nat → V) (call tk:CallE) (ops:Array Oper) (m:Nat) (e:Env) (st:List O):List Nat → Option (Env × List O)
  | [] => none
  | q :: qs => match regT P gl call tk ops m e st qs with
    | some x => some x
    | none => match ops.toList[q]? with
      | some oq => match oq.guard,oq.dst,Nat.blt q m with
        | none,some d,true => match anyH P gl call ops (ops.toList.take q) e st [] with
          | some (e1,s1) => if (stEqq s1 st && fitB e1 (some d)) = true then match tokE P tk (e1.ev gl) st oq.op with
              | some (es,el,sz) => match anyH P gl call ops ((ops.toList.take m).drop (q + 1)) (e1.put (some d) (.sl es none)) st [(d,fun i => .sl es (some i),.tok el sz es.length)] with
                | some (e2,s2) => regE P gl call ops (ops.toList.drop m) e2 s2
                | none => none
              | none => none
            else none
          | none => none
        | _,_,_ => none
      | none => none
theorem regT_sound {call tk:CallE} (hc:call.ok P gl) (ht:tk.ok P gl) (hfol:P.follows .mixedOrders = true) {ops:Array Oper} {m id:Nat} {e':Env} {st':List O} {Q:Exit → Env → List O → Prop} (hm:anyOK ops m = true) (hq:Q .normal e' st'):∀ qs:List Nat,regT P gl call tk ops m e st qs = some (e',st') → AW P gl r (.region id ops true) Q e st
  | [],h => by cases h
  | q :: qs,h => by
    unfold regT at h
    split at h
    · rename_i x hx
      rw [h] at hx
      exact regT_sound hc ht hfol hm hq qs hx
    split at h <;> try (cases h;done)
    rename_i oq hoq
    split at h <;> try (cases h;done)
    rename_i d hg hd hqm
    split at h <;> try (cases h;done)
    rename_i e1 s1 ha
    split at h <;> try (cases h;done)
    rename_i hb
    simp only [Bool.and_eq_true] at hb
    split at h <;> try (cases h;done)
    rename_i es el sz hto
    split at h <;> try (cases h;done)
    rename_i e2 s2 ha2
    obtain ⟨hne,htok⟩:=tokE_sound ht hto
    refine AW.anyT2 hfol m q oq hm (by simpa [Nat.blt_eq] using hqm) hoq hg (anyH_sound hc _ _ _ _ _ _ ha ⟨stEqq_eq hb.1,by rw [hd];exact fits_of hb.2,d,es,el,sz,hd,hne,htok, ?_⟩)
    exact anyH_sound hc _ _ _ _ _ _ ha2 (regE_sound hc _ _ _ _ _ h hq)
noncomputable def codeQ (P:Program) (gl:Nat → V) (call tk:CallE) (m:Nat):Code → Env → List O → ResE
  | .skip,e,st => some (.normal,e,st)
  | .label _,e,st => some (.normal,e,st)
  | .exit id,e,st => some (.exit id,e,st)
  | .ret,e,st => some (.ret,e,st)
  | .region _ ops false,e,st => match regE P gl call ops ops.toList e st with
    | some (e',st') => some (.normal,e',st')
    | none => none
  | .region _ ops true,e,st => match findM ops ops.size with
    | none => none
    | some m => match (match findQ ops m with
        | some (q,ls,as,oq) => regQ P gl call ops m q ls as oq e st
        | none => match anyH P gl call ops (ops.toList.take m) e st [] with
          | none => none
          | some (e',st') => regE P gl call ops (ops.toList.drop m) e' st') with
      | some (e',st') => some (.normal,e',st')
      | none => match regT P gl call tk ops m e st ((List.range m).filter fun i => match ops[i]? with | some o => isCallV o | none => false) with
        | some (e',st') => some (.normal,e',st')
        | none => none
  | .seq x y,e,st => match codeQ P gl call tk m x e st with
    | some (.normal,e',st') => codeQ P gl call tk m y e' st'
    | r => r
  | .cond c x y,e,st => match evE gl e c with
    | .bool true => codeQ P gl call tk m x e st
    | .bool false => codeQ P gl call tk m y e st
    | _ => none
  | .block id c,e,st => match codeQ P gl call tk m c e st with
    | some (.exit j,e',st') => if j = id then some (.normal,e',st') else some (.exit j,e',st')
    | r => r
  | .loop c,e,st => loopE (codeQ P gl call tk m c) m e st
  | .scope c,e,st => match codeQ P gl call tk m c e st with
    | some (.normal,e',st') => some (.normal,e',st')
    | some (.exit j,e',st') => some (.exit j,e',st')
    | some (.ret,e',st') => some (.ret,e',st')
    | _ => none
  | _,_,_ => none
theorem codeQ_sound {call tk:CallE} (hc:call.ok P gl) (htk:tk.ok P gl) (hfol:P.follows .mixedOrders = true) {m:Nat}:∀ (c:Code) (e:Env) (st:List O) (x:Exit) (e':Env) (st':List O) (Q:Exit → Env → List O → Prop),codeQ P gl call tk m c e st = some (x,e',st') → Q x e' st' → AW P gl r c Q e st:=by
  intro c
  induction c with
  | skip =>
    intro e st x e' st' Q h hq
    simp only [codeQ,Option.some.injEq,Prod.mk.injEq] at h
    obtain ⟨rfl,rfl,rfl⟩:=h
    exact .skip hq
  | label l =>
    intro e st x e' st' Q h hq
    simp only [codeQ,Option.some.injEq,Prod.mk.injEq] at h
    obtain ⟨rfl,rfl,rfl⟩:=h
    exact .label hq
  | exit l =>
    intro e st x e' st' Q h hq
    simp only [codeQ,Option.some.injEq,Prod.mk.injEq] at h
    obtain ⟨rfl,rfl,rfl⟩:=h
    exact .exit hq
  | ret =>
    intro e st x e' st' Q h hq
    simp only [codeQ,Option.some.injEq,Prod.mk.injEq] at h
    obtain ⟨rfl,rfl,rfl⟩:=h
    exact .ret hq
  | region id ops draw =>
    intro e st x e' st' Q h hq
    cases draw with
    | false =>
      unfold codeQ at h
      split at h <;> try (cases h;done)
      rename_i hr
      simp only [Option.some.injEq,Prod.mk.injEq] at h
      obtain ⟨rfl,rfl,rfl⟩:=h
      exact .region (regE_sound hc _ _ _ _ _ hr hq)
    | true =>
      unfold codeQ at h
      split at h <;> try (cases h;done)
      rename_i hm
      split at h
      · rename_i hr
        simp only [Option.some.injEq,Prod.mk.injEq] at h
        obtain ⟨rfl,rfl,rfl⟩:=h
        split at hr
        · rename_i hqq
          exact regQ_sound hc hfol (findM_ok _ hm) hqq hr hq
        split at hr <;> try (cases hr;done)
        rename_i ha
        exact AW.any hfol _ (findM_ok _ hm) (anyH_sound hc _ _ _ _ _ _ ha (regE_sound hc _ _ _ _ _ hr hq))
      split at h <;> try (cases h;done)
      rename_i hr
      simp only [Option.some.injEq,Prod.mk.injEq] at h
      obtain ⟨rfl,rfl,rfl⟩:=h
      exact regT_sound hc htk hfol (findM_ok _ hm) hq _ hr
  | seq a b iha ihb =>
    intro e st x e' st' Q h hq
    unfold codeQ at h
    refine .seq ?_
    split at h
    · rename_i hh
      exact iha _ _ _ _ _ _ hh (ihb _ _ _ _ _ _ h hq)
    · rename_i hne
      refine iha _ _ _ _ _ _ h ?_
      cases x with
      | normal => exact (hne _ _ h).elim
      | _ => exact hq
  | cond c a b iha ihb =>
    intro e st x e' st' Q h hq
    unfold codeQ at h
    rw [evE_eq] at h
    split at h <;> try (cases h;done)
    · rename_i hc
      exact .cond hc (fun _ => iha _ _ _ _ _ _ h hq) (fun hh => by cases hh)
    · rename_i hc
      exact .cond hc (fun hh => by cases hh) (fun _ => ihb _ _ _ _ _ _ h hq)
  | block id a iha =>
    intro e st x e' st' Q h hq
    unfold codeQ at h
    refine .block ?_
    split at h
    · rename_i hh
      refine iha _ _ _ _ _ _ hh ?_
      simp only [blockQ]
      split at h
      · simp only [Option.some.injEq,Prod.mk.injEq] at h
        obtain ⟨rfl,rfl,rfl⟩:=h
        rw [if_pos (by assumption)];exact hq
      · simp only [Option.some.injEq,Prod.mk.injEq] at h
        obtain ⟨rfl,rfl,rfl⟩:=h
        rw [if_neg (by assumption)];exact hq
    · rename_i hne
      refine iha _ _ _ _ _ _ h ?_
      cases x with
      | exit j => exact (hne _ _ _ h).elim
      | _ => exact hq
  | loop a iha =>
    intro e st x e' st' Q h hq
    unfold codeQ at h
    exact (loopE_sound (r:=r) iha m e st x e' st' Q h).2 hq
  | scope a iha =>
    intro e st x e' st' Q h hq
    unfold codeQ at h
    refine .scope ?_
    split at h <;> try (cases h;done)
    all_goals
      rename_i hh
      simp only [Option.some.injEq,Prod.mk.injEq] at h
      obtain ⟨rfl,rfl,rfl⟩:=h
      exact iha _ _ _ _ _ _ hh hq
  | _ => intro e st x e' st' Q h hq;cases h
def cutN (n:Nat) (v:V) (st':List O):Nat:=if (V.eqq (v.trim n) v && stEqq (trimS n st') (st'.take n)) = true then n else if n ≤ st'.length then st'.length else n
theorem cutN_le (n:Nat) (v:V) (st':List O):n ≤ cutN n v st':=by
  unfold cutN
  split
  · exact Nat.le_refl _
  · split
    · assumption
    · exact Nat.le_refl _
noncomputable def funQ (P:Program) (gl:Nat → V) (known tk:CallE) (m:Nat):Nat → CallE
  | 0 => fun _ _ _ => none
  | n + 1 => fun k args st => match known k args st with
    | some r => some r
    | none => match P.funcs[k]? with
      | some fn => match fn.body with
        | some c => match codeQ P gl (funQ P gl known tk m n) tk m c (env0 fn.ntmps args) st with
          | some (x,e',st') => if isEnd x = true then match resE P e' st' fn.results.toList with
            | some vs => some ((resV vs).trim (cutN st.length (resV vs) st'),trimS (cutN st.length (resV vs) st') st')
            | none => none
            else none
          | none => none
        | none => none
      | none => none
theorem funQ_sound {known tk:CallE} (hkn:known.ok P gl) (htk:tk.ok P gl) (hfol:P.follows .mixedOrders = true) {m:Nat}:∀ n,(funQ P gl known tk m n).ok P gl:=by
  intro n
  induction n with
  | zero => intro k args st v st' h;cases h
  | succ n ih =>
    intro k args st v st' h
    unfold funQ at h
    split at h
    · rename_i hh
      simp only [Option.some.injEq] at h
      subst h
      exact hkn _ _ _ _ _ hh
    split at h <;> try (cases h;done)
    rename_i fn hfn
    split at h <;> try (cases h;done)
    rename_i c hb
    split at h <;> try (cases h;done)
    rename_i x e' st1 hcode
    split at h <;> try (cases h;done)
    rename_i hx
    split at h <;> try (cases h;done)
    rename_i vs hres
    simp only [Option.some.injEq,Prod.mk.injEq] at h
    obtain ⟨rfl,rfl⟩:=h
    refine Call.of_body hfn hb (codeQ_sound ih htk hfol _ _ _ _ _ _ _ hcode ⟨?_, ?_⟩)
    · cases x <;> first | exact .inl rfl | exact .inr rfl | cases hx
    · exact resE_sound _ _ _ hres ⟨cutN st.length (resV vs) st1,_,_,cutN_le _ _ _,V.le_refl _ _,StLe.refl _,rfl,rfl⟩
theorem Call.frame0 {k:FuncId} {b:Bool} (h:Call P gl k [] [] fun v st' => v = .bool b ∧ st' = []) (st:List O):Call P gl k [] st fun v st' => v = .bool b ∧ st' = st:=fun w s xs hst hs hxs => by
  have hS0:Sim P gl w ⟨s.K,[],[]⟩:=⟨rfl,fun i o g ho => by simp at ho,fun i j b ⟨o,g,ho,_⟩ => by simp at ho,fun i b o ob ⟨o',g,ho,_⟩ => by simp at ho,hs.kin,fun b ⟨i,xs,k,l,go,F,J,Jx,ho,_⟩ => by simp at ho,hs.glob⟩
  refine CallsIn.mono (h w ⟨s.K,[],[]⟩ xs rfl hS0 ⟨hxs.1,fun i c x hc => by simp at hc⟩) fun e w' ⟨v,x,s',h1,h2,h3,h4,h5,h6⟩ => ?_
  subst h5
  have hold:∀ k,k < w.heap.size → w'.heap[k]? = w.heap[k]?:=fun k hk => h3.block k hk (fun ⟨i,o,g,ho,_⟩ => by simp at ho) (fun ⟨i,xs,k,l,go,F,J,Jx,ho,_⟩ => by simp at ho)
  have hN:∀ b o,(s'.K b o ∧ w.heap.size ≤ b) → w.heap.size ≤ b ∧ b < w'.heap.size:=fun b o hk => ⟨hk.2,h2.kin b o hk.1⟩
  have hS:=hs.grow h3.os h3.tape h3.output h3.size hold (fun b o => s'.K b o ∧ w.heap.size ≤ b) hN
  have hE:=Evolve.grow (w:=w) (w':=w') hs.wf h3.os h3.tape h3.output h3.size hold (fun b o => s'.K b o ∧ w.heap.size ≤ b) hN
  refine ⟨.bool b,x,_,h1,hS,hE, ?_,rfl,hst⟩
  cases h4 with
  | pure _ _ h => cases h;exact .pure _ _ (.bool _)
end
end Go.Duo
