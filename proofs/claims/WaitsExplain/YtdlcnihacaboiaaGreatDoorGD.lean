/-
  A part of the proof.
-/
import Derived.Test.YtdlcnihacaboiaaGreatDoorGC
import Derived.RangeFuncCalls
import Derived.RangeFuncRecord
import Derived.Sort.LoopGhostIn
set_option linter.all false
namespace Go.Duo
open Go
def Call (P:Program) (gl:Nat → V) (k:FuncId) (args:List V) (st:List O) (K:V → List O → Prop):Prop :=
  ∀ (w:World) (s:S) (xs:List Value),s.st = st → Sim P gl w s → RepL w s args xs →
    CallsIn Fence.wide 0 P k xs.toArray w fun e w' => ∃ v x s',e = .returned x ∧ Sim P gl w' s' ∧ Evolve w s w' s' ∧ Rep w' s' v x ∧ K v s'.st
def ent (P:Program) (k:FuncId):Bool :=
  match P.funcs[k]? with
  | some fn => fn.name != "runtime.NumGoroutine" && fn.body.isSome
  | none => false
def Split (b:Bool) (A B:Prop):Prop:=(b = true → A) ∧ (b = false → B)
def lenP (st:List O) (P:Program) (t:TypeId) (x:V) (K:V → Prop):Prop :=
  match x with
  | .str l => P.underlying t = some .string ∧ K (.int .i64 l.length)
  | .sl es _ => (elt P t).isSome = true ∧ K (.int .i64 es.length)
  | .nil => (elt P t).isSome = true ∧ K (.int .i64 0)
  | .ref id ver => (elt P t).isSome = true ∧ match st[id]? with
    | some (.arr _ _ v es) => ver = v ∧ K (.int .i64 es.length)
    | _ => False
  | _ => False
def O.isYld:O → Bool
  | .yld _ _ _ => true
  | _ => false
def yldP (st:List O) (id:Nat) (args:List V) (K:V → List O → Prop):Prop :=
  match st[id]? with
  | some (.yld xs i true) => (∀ (j:Nat) (o:O),st[j]? = some o → j ≠ id → o.isYld = false) ∧ (∀ a ∈ args,PureV a) ∧ xs[i]? = some (args.map V.bare) ∧
      K (.bool true) (st.set id (.yld xs (i + 1) true)) ∧ K (.bool false) (st.set id (.yld xs (i + 1) false))
  | _ => False
def isNilC:Operand → Bool
  | .const .nilIface => true
  | _ => false
theorem isNilC_eq {y:Operand} (h:isNilC y = true):y = .const .nilIface:=by
  unfold isNilC at h;split at h <;> first | rfl | cases h
def isIfc (P:Program) (t:TypeId):Bool:=match P.underlying t with | some (.interface _) => true | _ => false
def ifcP (P:Program) (t:TypeId) (op:BinOp) (x:V) (K:V → Prop):Prop :=
  isIfc P t = true ∧ match x,op with
    | .niliface,.eql => K (.bool true)
    | .niliface,.neq => K (.bool false)
    | .iface _ _,.eql => K (.bool false)
    | .iface _ _,.neq => K (.bool true)
    | _,_ => False
def notNil:V → Bool
  | .ptr .. | .dptr _ => true
  | _ => false
def step1 (P:Program) (gl:Nat → V) (ρ:Operand → V) (st:List O) (op:Op) (K:V → List O → Prop):Prop :=
  match op with
  | .move x => K (ρ x) st
  | .assign x => K (ρ x) st
  | .pick c a b => match ρ c with
    | .bool t => K (if t then ρ a else ρ b) st
    | _ => False
  | .binOp op t x y _ => if isNilC y = true then ifcP P t op (ρ x) fun v => K v st else binP P t op (ρ x) (ρ y) fun v => K v st
  | .unOp op _ x => unP op (ρ x) fun v => K v st
  | .convert src dst x => match P.underlying src,P.underlying dst,ρ x with
    | some (.int _),some (.int k),.int _ n => K (.int k (k.wrap n)) st
    | some .string,some .string,.str l => K (.str l) st
    | _,_,_ => False
  | .extract x i => match ρ x with
    | .tuple vs => i < vs.length ∧ K (vs.getD i .undef) st
    | _ => False
  | .makeFunc fn first captured => K (.func fn (first.toList.map ρ) (captured.toList.map ρ)) st
  | .nilCheck x => notNil (ρ x) = true ∧ K (ρ x) st
  | .load t x => loadP P t st (ρ x) fun v => K v st
  | .store t x y => storeP P t st (ρ x) (ρ y) fun st' => K .undef st'
  | .fieldAddr t x f => faP P t st f (ρ x) fun v => K v st
  | .field t x f => fieldP P t f (ρ x) fun v => K v st
  | .indexAddr t x i => iaP P t st (ρ x) (ρ i) fun v => K v st
  | .index t x i => ixP P t (ρ x) (ρ i) fun v => K v st
  | .slice t x lo hi mx => sliceP P t (ρ x) (lo.map ρ) (hi.map ρ) (mx.map ρ) fun v => K v st
  | .box t x => (ρ x).cells.all V.one = true ∧ K (.ptr st.length 0) (st ++ [.box t (ρ x).cells])
  | .alloc t => match zro P t with
    | some z => K (.ptr st.length 0) (st ++ [.box t z])
    | none => False
  | .build t parts => buildP P t (parts.toList.map fun p => (p.1,ρ p.2)) fun v => K v st
  | .makeSlice t x y => makeP P t st (ρ x) (ρ y) K
  | .makeMap _ none => K (.map st.length) (st ++ [.map [] []])
  | .lookup t x k ok => lookP P st t (ρ x) (ρ k) ok fun v => K v st
  | .mapUpdate t m k x => setP P st t (ρ m) (ρ k) (ρ x) fun st' => K .undef st'
  | .insert t m k x => setP P st t (ρ m) (ρ k) (ρ x) fun st' => K .undef st'
  | .buildSlice t len parts => (len = 0 → parts.size = 0) ∧ buildSliceP P t st len (parts.toList.map fun p => (p.1,ρ p.2)) K
  | .call c => match c.callee with
    | .value f => match ρ f with
      | .func (.func k) fs cs => ent P k = true ∧ Call P gl k (fs ++ c.args.toList.map ρ ++ cs) st K
      | .yld id => yldP st id (c.args.toList.map ρ) K
      | _ => False
    | .builtin .len => match c.args.toList,c.argTypes.toList with
      | [x],[t] => lenP st P t (ρ x) fun v => K v st
      | _,_ => False
    | .builtin .append => match c.args.toList,c.argTypes.toList with
      | [x,y],[t,u] => t = u ∧ appendP P t st (ρ x) (ρ y) K
      | _,_ => False
    | .builtin .delete => match c.args.toList,c.argTypes.toList with
      | [x,y],[t,_] => delP P st t (ρ x) (ρ y) fun st' => K (.tuple []) st'
      | _,_ => False
    | .builtin .max => match c.args.toList with
      | [x,y] => match ρ x,ρ y with
        | .int k a,.int _ b => K (.int k (if a < b then b else a)) st
        | _,_ => False
      | _ => False
    | .builtin .min => match c.args.toList with
      | [x,y] => match ρ x,ρ y with
        | .int k a,.int _ b => K (.int k (if b < a then b else a)) st
        | _,_ => False
      | _ => False
    | _ => False
  | _ => False
def awL (P:Program) (gl:Nat → V) (ops:Array Oper):List Oper → Env → List O → (Env → List O → Prop) → Prop
  | [],e,st,K => K e st
  | o :: rest,e,st,K => e.fits o.dst ∧ match o.guard with
    | none => step1 P gl (e.ev gl) st o.op fun v st' => awL P gl ops rest (e.put o.dst v) st' K
    | some (j,want) => match (ops[j]?).bind (·.dst) with
      | none => False
      | some d => match e.get d with
        | .bool b => Split b (if want then step1 P gl (e.ev gl) st o.op fun v st' => awL P gl ops rest (e.put o.dst v) st' K else awL P gl ops rest (e.put o.dst (.tuple [])) st K)
            (if want then awL P gl ops rest (e.put o.dst (.tuple [])) st K else step1 P gl (e.ev gl) st o.op fun v st' => awL P gl ops rest (e.put o.dst v) st' K)
        | .tuple [] => awL P gl ops rest (e.put o.dst (.tuple [])) st K
        | _ => False
@[reducible] def thenQ (next:Env → List O → Prop) (Q:Exit → Env → List O → Prop):Exit → Env → List O → Prop
  | .normal,e,st => next e st
  | x,e,st => Q x e st
@[reducible] def blockQ (id:Nat) (Q:Exit → Env → List O → Prop):Exit → Env → List O → Prop
  | .exit j,e,st => if j = id then Q .normal e st else Q (.exit j) e st
  | x,e,st => Q x e st
section
variable {P:Program} {gl:Nat → V} {r:Option Nat} {e:Env} {st:List O} {Q:Exit → Env → List O → Prop}
theorem AW.mono {c:Code} {Q':Exit → Env → List O → Prop} (h:AW P gl r c Q e st) (hq:∀ x e st,Q x e st → Q' x e st):AW P gl r c Q' e st:=fun n0 w s a hn hst hs ha =>
  wpIn_mono (h n0 w s a hn hst hs ha) fun x a' w' ⟨e',s',h1,h2,h3,h4⟩ => ⟨e',s',h1,h2,h3,hq _ _ _ h4⟩
theorem AW.skip (h:Q .normal e st):AW P gl r .skip Q e st:=fun n0 w s a _ hst hs ha => wpIn_skip ⟨e,s,hs,Evolve.refl hs.wf,ha,hst ▸ h⟩
theorem AW.label {l:Nat} (h:Q .normal e st):AW P gl r (.label l) Q e st:=fun n0 w s a _ hst hs ha => wpIn_label ⟨e,s,hs,Evolve.refl hs.wf,ha,hst ▸ h⟩
theorem AW.exit {l:Nat} (h:Q (.exit l) e st):AW P gl r (.exit l) Q e st:=fun n0 w s a _ hst hs ha => wpIn_exit ⟨e,s,hs,Evolve.refl hs.wf,ha,hst ▸ h⟩
theorem AW.ret (h:Q .ret e st):AW P gl r .ret Q e st:=fun n0 w s a _ hst hs ha => wpIn_ret ⟨e,s,hs,Evolve.refl hs.wf,ha,hst ▸ h⟩
theorem AW.seq {x y:Code} (h:AW P gl r x (thenQ (AW P gl r y Q) Q) e st):AW P gl r (.seq x y) Q e st:=fun n0 w s a hn hst hs ha => by
  refine wpIn_seq (wpIn_mono (h n0 w s a hn hst hs ha) fun z a' w' ⟨e',s',h1,h2,h3,h4⟩ => ?_)
  cases z with
  | normal =>
    refine wpIn_mono (h4 n0 w' s' a' (Nat.le_trans hn h2.size) rfl h1 h3) fun z a'' w'' ⟨e'',s'',k1,k2,k3,k4⟩ => ⟨e'',s'',k1,h2.trans hs.len h1.len k2,k3,k4⟩
  | _ => exact ⟨e',s',h1,h2,h3,h4⟩
theorem AW.cond {c:Operand} {x y:Code} {b:Bool} (hc:e.ev gl c = .bool b) (hx:b = true → AW P gl r x Q e st) (hy:b = false → AW P gl r y Q e st):AW P gl r (.cond c x y) Q e st:=fun n0 w s a hn hst hs ha => by
  have hv:=ha.ev hs c
  rw [hc] at hv
  refine wpIn_cond hv.bool_inv ?_
  cases b with
  | true => exact hx rfl n0 w s a hn hst hs ha
  | false => exact hy rfl n0 w s a hn hst hs ha
theorem AW.block {id:Nat} {c:Code} (h:AW P gl r c (blockQ id Q) e st):AW P gl r (.block id c) Q e st:=fun n0 w s a hn hst hs ha => by
  refine wpIn_block (wpIn_mono (h n0 w s a hn hst hs ha) fun z a' w' ⟨e',s',h1,h2,h3,h4⟩ => ?_)
  cases z with
  | exit j =>
    simp only [Exit.inBlock,blockQ] at h4 ⊢
    split
    · rename_i hj;rw [if_pos hj] at h4;exact ⟨e',s',h1,h2,h3,h4⟩
    · rename_i hj;rw [if_neg hj] at h4;exact ⟨e',s',h1,h2,h3,h4⟩
  | _ => exact ⟨e',s',h1,h2,h3,h4⟩
end
section
variable {P:Program} {gl:Nat → V} {r:Option Nat} {e:Env} {st:List O} {w:World} {s:S} {x y:Value} {a b:V}
theorem len_sound {t ty:TypeId} {K:V → Prop} (hs:Sim P gl w s) (hx:Rep w s a x) (h:lenP s.st P t a K):∃ v z,(Builtin.len_ #[t] ty #[x]).run P w = .ok z w ∧ Rep w s v z ∧ K v:=by
  cases a with
  | str l =>
    obtain ⟨hu,h⟩:=h
    cases hx.str_inv
    refine ⟨_,.int .i64 l.length, ?_,.pure _ _ (.int _ _),h⟩
    have hsz:(⟨l.toArray⟩:ByteArray).size = l.length:=by simp [ByteArray.size]
    simp only [Builtin.len_,List.getElem?_toArray,List.getElem?_cons_zero,Sem.run_bind,run_underlying hu,Result.andThen_ok,hsz,Sem.run_pure,goInt]
  | sl es tk =>
    obtain ⟨he,h⟩:=h
    cases he':elt P t with
    | none => simp [he'] at he
    | some o =>
      obtain ⟨e,sz,by_⟩:=o
      obtain ⟨hu,_⟩:=elt_lay he' w
      obtain ⟨ad,cap,_,_,rfl,_⟩:=hx.sl_inv.sl_inv
      exact ⟨_,.int .i64 es.length,by simp [Builtin.len_,run_underlying hu,goInt],.pure _ _ (.int _ _),h⟩
  | nil =>
    obtain ⟨he,h⟩:=h
    cases he':elt P t with
    | none => simp [he'] at he
    | some o =>
      obtain ⟨e,sz,by_⟩:=o
      obtain ⟨hu,_⟩:=elt_lay he' w
      obtain ⟨ad,rfl⟩:=hx.nil_inv
      exact ⟨_,.int .i64 0,by simp [Builtin.len_,run_underlying hu,goInt],.pure _ _ (.int _ _),h⟩
  | ref id ver =>
    obtain ⟨he,h⟩:=h
    cases he':elt P t with
    | none => simp [he'] at he
    | some o =>
      obtain ⟨e,sz,by_⟩:=o
      obtain ⟨hu,_⟩:=elt_lay he' w
      obtain ⟨o',ho,hm⟩:=ref_inv hx
      rw [ho] at h
      cases o' with
      | arr e' sz' v es =>
        obtain ⟨rfl,h⟩:=h
        have hv:∃ ad cap,x = .slice ad es.length cap:=by
          rcases hm.2 rfl with hg | ⟨rfl,ad,rfl⟩
          rotate_left
          · exact ⟨ad,0,rfl⟩
          obtain ⟨xs,hown,_⟩:=hs.obj id _ _ ho hg
          rcases hown.2 with ⟨rfl,h0⟩ | ⟨g,cap,cur,rfl,_⟩
          · exact ⟨none,0,by rw [h0]⟩
          · exact ⟨_,cap,rfl⟩
        obtain ⟨ad,cap,rfl⟩:=hv
        exact ⟨_,.int .i64 es.length,by simp [Builtin.len_,run_underlying hu,goInt],.pure _ _ (.int _ _),h⟩
      | _ => exact h.elim
  | _ => exact h.elim
theorem map_rep {ρ:Operand → Value} {ev:Operand → V} (h:∀ o,Rep w s (ev o) (ρ o)) (l:List Operand):RepL w s (l.map ev) (l.map ρ) :=
  ⟨by simp,fun i c x hc hx => by
    rw [List.getElem?_map] at hc hx
    cases hl:l[i]? with
    | none => simp [hl] at hc
    | some o =>
      simp only [hl,Option.map_some,Option.some.injEq] at hc hx
      subst hc hx
      exact h o⟩
theorem RepL.append {cs ds:List V} {xs ys:List Value} (h:RepL w s cs xs) (k:RepL w s ds ys):RepL w s (cs ++ ds) (xs ++ ys) :=
  ⟨by simp [h.1,k.1],fun i c x hc hx => by
    by_cases hi:i < cs.length
    · rw [List.getElem?_append_left hi] at hc
      rw [List.getElem?_append_left (h.1 ▸ hi)] at hx
      exact h.2 i c x hc hx
    · rw [List.getElem?_append_right (by omega)] at hc
      rw [List.getElem?_append_right (by have:=h.1;omega),← h.1] at hx
      exact k.2 _ c x hc hx⟩
theorem notNil_run {x:Value} (hx:Rep w s a x) (h:notNil a = true):∃ ad,x = .pointer (some ad):=by
  cases a with
  | ptr id off => obtain ⟨b,rfl,_⟩:=hx.ptr_inv;exact ⟨_,rfl⟩
  | dptr cs => obtain ⟨b,o,rfl,_⟩:=hx.dptr_inv;exact ⟨_,rfl⟩
  | _ => simp [notNil] at h
theorem call_sound {o:Oper} {c:Go.Call} {f:Operand} {k:FuncId} {fs cs:List V} {K:V → List O → Prop} (ho:o.op = .call c) (hf:c.callee = .value f) (hev:e.ev gl f = .func (.func k) fs cs) (hent:ent P k = true)
    (h:Call P gl k (fs ++ c.args.toList.map (e.ev gl) ++ cs) st K):AO P gl r o e st K:=by
  intro n0 w s a next Q hn hst hs ha hk
  have hrep:=ha.ev hs f
  rw [hev] at hrep
  obtain ⟨xs,ys,hfv,hl1,hl2,hr1,hr2⟩:=hrep.func_inv
  have hargs:=map_rep (fun x => ha.ev hs x) c.args.toList
  have hall:RepL w s (fs ++ c.args.toList.map (e.ev gl) ++ cs) (xs ++ c.args.toList.map a.eval ++ ys):=(RepL.append ⟨hl1,hr1⟩ hargs).append ⟨hl2,hr2⟩
  have hc:=h w s _ hst hs hall
  refine ⟨fun _ _ => trivial, ?_⟩
  rw [Oper.semAt_eq _ _ _ (fun c' => by rw [ho];simp)]
  unfold ent at hent
  cases hfn:P.funcs[k]? with
  | none => simp [hfn] at hent
  | some fn =>
    rw [hfn] at hent
    simp only [Bool.and_eq_true,bne_iff_ne,ne_eq] at hent
    have hrun:(execOp a.eval o).run P w = .ok (.enter k (xs ++ c.args.toList.map a.eval ++ ys).toArray) w:=by
      have hb:fn.body.isNone = false:=by cases hb:fn.body <;> simp_all
      have hnm:(fn.name == "runtime.NumGoroutine") = false:=by simpa using hent.1
      simp only [execOp,ho,resolve,hf,hfv,Deferred.ofValue,Sem.run_bind,Sem.run_pure,Result.andThen_ok,invoke,callFunc,run_program,hfn,hnm,hb,Bool.false_eq_true,if_false]
      congr 2
      apply Array.ext'
      simp
    rw [hrun]
    simp only [Oper.uponIn_enter]
    refine ⟨fun hd => by simp [Fr,Fence.wide] at hd, ?_⟩
    refine CallsIn.mono (F:=Fr r) (show CallsIn (Fr r) (0 - 1) P k _ w _ from hc) ?_
    rintro en w' ⟨v,x,s',rfl,h1,h2,h3,h4⟩
    exact hk v x w' s' h1 h2 h3 h4
theorem yld_sound {o:Oper} {c:Go.Call} {f:Operand} {id:Nat} {K:V → List O → Prop} (ho:o.op = .call c) (hf:c.callee = .value f) (hev:e.ev gl f = .yld id) (h:yldP st id (c.args.toList.map (e.ev gl)) K):AO P gl r o e st K:=by
  intro n0 w s a next Q hn hst hs ha hk
  subst hst
  unfold yldP at h
  cases ho':s.st[id]? with
  | none => rw [ho'] at h;exact h.elim
  | some ob =>
    rw [ho'] at h
    cases ob with
    | yld xs i go =>
      cases go with
      | false => exact h.elim
      | true =>
        obtain ⟨honly,hpure,hx,hKt,hKf⟩:=h
        have hrep:=ha.ev hs f
        rw [hev] at hrep
        generalize hfv:a.eval f = fv at hrep
        cases hrep with
        | pure _ _ h => cases h
        | yld _ l F J Jx hg =>
          have hob:=hs.obj id _ _ ho' hg
          simp only [ObjOK,if_true] at hob
          obtain ⟨hJ,hYC,hl,hm⟩:=hob
          have hargs:=map_rep (fun x => ha.ev hs x) c.args.toList
          have hpr:∀ (j:Nat) (d:V) (x:Value),((c.args.toList.map (e.ev gl)).map V.bare)[j]? = some d → (c.args.toList.map a.eval)[j]? = some x → PR w s.K d x:=fun j d x hd hx => by
            rw [List.getElem?_map] at hd
            cases hv:(c.args.toList.map (e.ev gl))[j]? with
            | none => simp [hv] at hd
            | some v =>
              simp only [hv,Option.map_some,Option.some.injEq] at hd
              subst hd
              exact hpure v (List.mem_iff_getElem?.2 ⟨j,hv⟩) w s x (hargs.2 j v x hv hx)
          obtain ⟨fn,tmps,assign,body,hrun,hround⟩:=hYC.call i F s.K w _ (c.args.toList.map a.eval) hJ hx (by simp) hpr hs.kin
          refine ⟨fun _ _ => trivial, ?_⟩
          rw [Oper.semAt_eq _ _ _ (fun c' => by rw [ho];simp)]
          have hrun':(execOp a.eval o).run P w = .ok (.round l fn tmps assign body) w:=by
            simp only [execOp,ho,resolve,hf,hfv,Deferred.ofValue,Sem.run_bind,Sem.run_pure,Result.andThen_ok,invoke]
            rw [← hrun]
            congr 2
            apply Array.ext'
            simp
          rw [hrun']
          simp only [Oper.uponIn_round]
          refine ⟨fun hd => by simp [Fr,Fence.wide] at hd, ?_⟩
          refine RoundIn.mono (F:=Fr r) (show RoundIn (Fr r) (0 - 1) P l fn tmps assign body w _ from hround) ?_
          rintro en w' ⟨F',K',b,rfl,hJ',hY⟩
          have hfor:∀ b,s.foreign b → F b:=fun b hb => by
            obtain ⟨j,xs',k',l',go',F1,J1,Jx1,hj,hgj,hF⟩:=hb
            by_cases hji:j = id
            · subst hji
              rw [hg] at hgj
              simp only [Option.some.injEq,Gh.yl.injEq] at hgj
              obtain ⟨rfl,rfl,rfl,rfl⟩:=hgj
              exact hF
            · have:=honly j _ hj hji
              cases this
          have hFfor:∀ b,F b → s.foreign b:=fun b hb => ⟨id,xs,i,l,true,F,J,Jx,ho',hg,hb⟩
          have hlen:=hs.len
          have hidl:id < s.st.length:=(List.getElem?_eq_some_iff.1 ho').1
          have hE:Evolve w s w' { K:=K',g:=s.g.set id (.yl l F' J Jx),st:=s.st.set id (.yld xs (i + 1) b) }:=by
            refine ⟨hY.os,hY.tape,hY.output,hY.size,hY.keeps,fun b o hb => ?_,fun b hb hm' hf' => hY.block b hb (fun hF => hf' (hFfor b hF)),by simp,fun j oj gj hoj hgj => ?_,fun j oj gj b hj hoj _ _ _ => ?_,fun j xs' k go hj hoj => ?_⟩
            · rcases hY.knew b o hb with h | h | h
              · exact .inl h
              · exact .inr (.inl h)
              · exact .inr (.inr (.inr (hFfor b h)))
            · by_cases hji:id = j
              · subst hji
                rw [ho'] at hoj
                rw [hg] at hgj
                simp only [Option.some.injEq] at hoj hgj
                subst hoj hgj
                exact ⟨_,_,by simp [hidl],by simp [hlen ▸ hidl],⟨l,F,F',J,Jx,rfl,rfl,fun b hb => (hY.fnew b hb).1⟩,.inr ⟨i + 1,b,rfl,by omega⟩⟩
              · refine ⟨oj,gj,by simp only [];rw [List.getElem?_set_ne hji];exact hoj,by simp only [];rw [List.getElem?_set_ne hji];exact hgj,TR.refl _ oj gj fun xs' k go he => ?_⟩
                subst he
                have:=honly j _ hoj (fun e => hji e.symm)
                cases this
            · have:=(List.getElem?_eq_some_iff.1 hoj).1
              simp at this
              omega
            · have:=(List.getElem?_eq_some_iff.1 hoj).1
              simp at this
              omega
          have hown:∀ j b',S.own { K:=K',g:=s.g.set id (.yl l F' J Jx),st:=s.st.set id (.yld xs (i + 1) b) } j b' → j ≠ id ∧ s.own j b':=by
            rintro j b' ⟨oj,gj,hoj,hlj,hgj,hat⟩
            simp only at hoj hgj
            rcases getElem?_set_cases hoj with ⟨rfl,rfl,_⟩ | ⟨hne,hoj⟩
            · cases hlj
            · rcases getElem?_set_cases hgj with ⟨rfl,_⟩ | ⟨_,hgj⟩
              · exact absurd rfl hne
              · exact ⟨hne,oj,gj,hoj,hlj,hgj,hat⟩
          have hfor':∀ b',S.foreign { K:=K',g:=s.g.set id (.yl l F' J Jx),st:=s.st.set id (.yld xs (i + 1) b) } b' → F' b':=by
            rintro b' ⟨j,xs',k',l',go',F1,J1,Jx1,hj,hgj,hF⟩
            simp only at hj hgj
            rcases getElem?_set_cases hgj with ⟨rfl,he,_⟩ | ⟨hne,hgj⟩
            · simp only [Gh.yl.injEq] at he
              obtain ⟨rfl,rfl,rfl,rfl⟩:=he
              exact hF
            · rcases getElem?_set_cases hj with ⟨rfl,_⟩ | ⟨_,hj⟩
              · exact absurd rfl hne
              · have:=honly j _ hj hne
                cases this
          have hmine:∀ b',S.mine { K:=K',g:=s.g.set id (.yl l F' J Jx),st:=s.st.set id (.yld xs (i + 1) b) } b' → s.mine b':=fun b' ⟨j,hj⟩ => ⟨j,(hown j b' hj).2⟩
          have hS:Sim P gl w' { K:=K',g:=s.g.set id (.yl l F' J Jx),st:=s.st.set id (.yld xs (i + 1) b) }:=by
            refine ⟨by simp [hlen],fun j oj gj hoj hgj => ?_,fun j1 j2 b' h1 h2 => hs.inj j1 j2 b' (hown _ _ h1).2 (hown _ _ h2).2,fun j b' o' ob hj hob hwr hkb => ?_,hY.kin,fun b' hb' => ?_,fun g => (hs.glob g).imp (fun h => h) (fun k => globKeeps hY.keeps k)⟩
            · simp only at hoj hgj
              rcases getElem?_set_cases hoj with ⟨rfl,rfl,_⟩ | ⟨hne,hoj⟩
              · rcases getElem?_set_cases hgj with ⟨_,rfl,_⟩ | ⟨hne,_⟩
                · simp only [ObjOK]
                  exact ⟨hJ',hYC,Nat.lt_of_lt_of_le hl hY.size,fun b' hb' => hm b' (hmine b' hb')⟩
                · exact absurd rfl hne
              · rcases getElem?_set_cases hgj with ⟨rfl,_⟩ | ⟨_,hgj⟩
                · exact absurd rfl hne
                · refine (hs.obj j oj gj hoj hgj).keep hE hs.wf (fun hlv b' hb' => ?_) (fun l' F1 J1 Jx1 xs' k go _ he => ?_)
                  · have hmb:s.mine b':=⟨j,oj,gj,hoj,hlv,hgj,hb'⟩
                    exact hY.block b' (hs.mine_lt hmb) (fun hF => (hs.fgn b' (hFfor b' hF)).2 hmb)
                  · subst he
                    have:=honly j _ hoj hne
                    cases this
            · obtain ⟨hne,hj'⟩:=hown j b' hj
              simp only at hob
              rcases getElem?_set_cases hob with ⟨rfl,_⟩ | ⟨_,hob⟩
              · exact hne rfl
              · have hmb:s.mine b':=⟨j,hj'⟩
                have hlt:=hs.mine_lt hmb
                rcases hY.knew b' o' hkb with h | h | h
                · exact hs.kout j b' o' ob hj' hob hwr h
                · omega
                · exact (hs.fgn b' (hFfor b' h)).2 hmb
            · obtain ⟨h1,h2⟩:=hY.fnew b' (hfor' b' hb')
              refine ⟨h2,fun hmb => ?_⟩
              have hmb':=hmine b' hmb
              rcases h1 with h1 | h1
              · exact (hs.fgn b' (hFfor b' h1)).2 hmb'
              · have:=hs.mine_lt hmb';omega
          refine hk (.bool b) (.bool b) w' _ hS hE (.pure _ _ (.bool _)) ?_
          cases b
          · exact hKf
          · exact hKt
    | _ => exact h.elim
theorem ifc_sound {x:Value} {op:BinOp} {xt:TypeId} {ox:Operand} {K:V → Prop} (hx:Rep w s a x) (h:ifcP P xt op a K) :
    ∃ v z,(do eqGuard op xt ox (.const .nilIface) x .nilIface;binOp op xt x .nilIface:Sem Value).run P w = .ok z w ∧ Rep w s v z ∧ K v:=by
  obtain ⟨hi,h⟩:=h
  obtain ⟨ms,hu⟩:∃ ms,P.underlying xt = some (.interface ms):=by
    unfold isIfc at hi
    split at hi
    · exact ⟨_,by assumption⟩
    · cases hi
  have he:∀ y:Value,y = .nilIface ∨ (∃ t v,y = .iface t v) → (Op.equal xt y .nilIface).run P w = .ok (match y with | .nilIface => true | _ => false) w:=fun y hy => by
    unfold Op.equal
    rw [show Op.maxDepth = 9999 + 1 from rfl]
    unfold Op.equalIn
    rcases hy with rfl | ⟨t,v,rfl⟩ <;> simp [Sem.run_bind,run_underlying hu,Result.andThen_ok]
  split at h
  · obtain rfl:x = .nilIface:=by cases hx with | pure _ _ h => cases h;rfl
    refine ⟨_,.bool true, ?_,.pure _ _ (.bool _),h⟩
    rw [Sem.run_bind]
    have hg:(eqGuard .eql xt ox (.const .nilIface) .nilIface .nilIface).run P w = .ok () w:=by cases ox <;> rfl
    rw [hg,Result.andThen_ok]
    show (Sem.run P (do pure (.bool (← Op.equal xt .nilIface .nilIface)):Sem Value) w) = _
    rw [Sem.run_bind,he _ (.inl rfl)]
    rfl
  · obtain rfl:x = .nilIface:=by cases hx with | pure _ _ h => cases h;rfl
    refine ⟨_,.bool false, ?_,.pure _ _ (.bool _),h⟩
    rw [Sem.run_bind]
    have hg:(eqGuard .neq xt ox (.const .nilIface) .nilIface .nilIface).run P w = .ok () w:=by cases ox <;> rfl
    rw [hg,Result.andThen_ok]
    show (Sem.run P (do pure (.bool (!(← Op.equal xt .nilIface .nilIface))):Sem Value) w) = _
    rw [Sem.run_bind,he _ (.inl rfl)]
    rfl
  · obtain ⟨t,v,rfl⟩:∃ t v,x = .iface t v:=by cases hx with | pure _ _ h => cases h;exact ⟨_,_,rfl⟩ | iface => exact ⟨_,_,rfl⟩
    refine ⟨_,.bool false, ?_,.pure _ _ (.bool _),h⟩
    rw [Sem.run_bind,eqGuard_calm _ _ _ _ ⟨fun _ => by simp,by simp⟩,Result.andThen_ok]
    show (Sem.run P (do pure (.bool (← Op.equal xt (.iface t v) .nilIface)):Sem Value) w) = _
    rw [Sem.run_bind,he _ (.inr ⟨t,v,rfl⟩)]
    rfl
  · obtain ⟨t,v,rfl⟩:∃ t v,x = .iface t v:=by cases hx with | pure _ _ h => cases h;exact ⟨_,_,rfl⟩ | iface => exact ⟨_,_,rfl⟩
    refine ⟨_,.bool true, ?_,.pure _ _ (.bool _),h⟩
    rw [Sem.run_bind,eqGuard_calm _ _ _ _ ⟨fun _ => by simp,by simp⟩,Result.andThen_ok]
    show (Sem.run P (do pure (.bool (!(← Op.equal xt (.iface t v) .nilIface))):Sem Value) w) = _
    rw [Sem.run_bind,he _ (.inr ⟨t,v,rfl⟩)]
    rfl
  · exact h.elim
theorem parts_rep {ρ:Operand → Value} {ev:Operand → V} (h:∀ o,Rep w s (ev o) (ρ o)) (l:Array (Nat × Operand)):(l.toList.map fun p => (p.1,ev p.2)).length = (l.map fun (i,x) => (i,ρ x)).size ∧
    ∀ (i:Nat) (p:Nat × V) (q:Nat × Value),(l.toList.map fun p => (p.1,ev p.2))[i]? = some p → (l.map fun (i,x) => (i,ρ x))[i]? = some q → p.1 = q.1 ∧ Rep w s p.2 q.2:=by
  refine ⟨by simp,fun i p q hp hq => ?_⟩
  rw [List.getElem?_map] at hp
  rw [Array.getElem?_map] at hq
  cases hl:l[i]? with
  | none => simp [hl] at hq
  | some o =>
    simp only [Array.getElem?_toList,hl,Option.map_some,Option.some.injEq] at hp hq
    subst hp hq
    exact ⟨rfl,h o.2⟩
theorem step1_sound {o:Oper} {K:V → List O → Prop} (h:step1 P gl (e.ev gl) st o.op K):AO P gl r o e st K:=by
  have calm:∀ (hd:∀ c,o.op ≠ .defer c),(∀ (w:World) (s:S) (ρ:Operand → Value),s.st = st → Sim P gl w s → (∀ x,Rep w s (e.ev gl x) (ρ x)) → ∃ v x,(execOp ρ o).run P w = .ok (.value x) w ∧ Rep w s v x ∧ K v st) → AO P gl r o e st K:=fun hd h => AO.of_calm hd h
  have vrun:∀ {w w':World} {m:Sem Value} {z:Value},m.run P w = .ok z w' → (do pure (Next.value (← m)):Sem Next).run P w = .ok (.value z) w':=fun {w w' m z} hm => by
    rw [Sem.run_bind,hm];rfl
  cases ho:o.op <;> rw [ho] at h <;> simp only [step1] at h
  case move x => exact calm (fun c => by rw [ho];simp) fun w s ρ _ _ hr => ⟨_,ρ x,by simp [execOp,ho],hr x,h⟩
  case assign x => exact calm (fun c => by rw [ho];simp) fun w s ρ _ _ hr => ⟨_,ρ x,by simp [execOp,ho],hr x,h⟩
  case pick c x y =>
    refine calm (fun c => by rw [ho];simp) fun w s ρ _ _ hr => ?_
    cases hc:e.ev gl c <;> rw [hc] at h <;> try exact h.elim
    rename_i t
    have hv:=hr c
    rw [hc] at hv
    refine ⟨_,if t then ρ x else ρ y,by simp [execOp,ho,hv.bool_inv,asBool], ?_,h⟩
    cases t
    · exact hr y
    · exact hr x
  case binOp op t x y yt =>
    by_cases hny:isNilC y = true
    · rw [if_pos hny] at h
      obtain rfl:=isNilC_eq hny
      refine AO.of_run (fun c => by rw [ho];simp) fun n0 w s a _ hst hs ha hr => ?_
      subst hst
      obtain ⟨v,z,h1,h2,h3⟩:=ifc_sound (ox:=x) (hr x) h
      exact ⟨v,w,s,⟨z,.inl ⟨by simp only [execOp,ho];exact vrun h1,h2⟩⟩,hs,Evolve.refl hs.wf,h3⟩
    rw [if_neg hny] at h
    refine calm (fun c => by rw [ho];simp) fun w s ρ _ _ hr => ?_
    obtain ⟨v,z,h1,h2,h3⟩:=bin_sound (ox:=x) (oy:=y) (hr x) (hr y) h
    exact ⟨v,z,by simp only [execOp,ho];exact vrun h1,h2,h3⟩
  case unOp op t x =>
    refine calm (fun c => by rw [ho];simp) fun w s ρ _ _ hr => ?_
    obtain ⟨v,z,h1,h2,h3⟩:=un_sound (P:=P) (hr x) h
    exact ⟨v,z,by simp only [execOp,ho];exact vrun h1,h2,h3⟩
  case convert src dst x =>
    refine calm (fun c => by rw [ho];simp) fun w s ρ _ _ hr => ?_
    cases hu:P.underlying src with
    | none => simp [hu] at h
    | some d =>
      cases hu':P.underlying dst with
      | none => simp [hu,hu'] at h
      | some d' =>
        rw [hu,hu'] at h
        have hv:=hr x
        cases hx:e.ev gl x <;> rw [hx] at h hv <;> cases d <;> cases d' <;> try exact h.elim
        · refine ⟨_,_, ?_,.pure _ _ (.int _ _),h⟩
          simp only [execOp,ho,hv.int_inv]
          exact vrun (by simp [convert,run_underlying hu,run_underlying hu',Conv.intToInt])
        · refine ⟨_,_, ?_,.pure _ _ (.str _),h⟩
          simp only [execOp,ho,hv.str_inv]
          exact vrun (by simp [convert,run_underlying hu,run_underlying hu'])
  case extract x i =>
    refine calm (fun c => by rw [ho];simp) fun w s ρ _ _ hr => ?_
    have hv:=hr x
    cases hx:e.ev gl x <;> rw [hx] at h hv <;> try exact h.elim
    rename_i vs
    obtain ⟨hi,h⟩:=h
    obtain ⟨xs,he,hl,hrep⟩:=hv.tuple_inv
    refine ⟨_,xs[i]'(by omega), ?_,hrep i (vs.getD i .undef) _ ?_ (List.getElem?_eq_getElem _),h⟩
    · simp only [execOp,ho,he]
      exact vrun (by simp [Instr.extract,List.getElem?_eq_getElem (show i < xs.length by omega)])
    · rw [List.getD_eq_getElem?_getD,List.getElem?_eq_getElem hi];rfl
  case makeFunc fn first captured =>
    refine calm (fun c => by rw [ho];simp) fun w s ρ _ _ hr => ?_
    have h1:=map_rep hr first.toList
    have h2:=map_rep hr captured.toList
    refine ⟨_,.func fn (first.map ρ) (captured.map ρ),by simp [execOp,ho,Instr.makeFunc], ?_,h⟩
    have e1:first.map ρ = (first.toList.map ρ).toArray:=by apply Array.ext';simp
    have e2:captured.map ρ = (captured.toList.map ρ).toArray:=by apply Array.ext';simp
    rw [e1,e2]
    exact .func _ _ _ _ _ h1.1 h2.1 h1.2 h2.2
  case nilCheck x =>
    refine calm (fun c => by rw [ho];simp) fun w s ρ _ _ hr => ?_
    obtain ⟨ad,hx⟩:=notNil_run (hr x) h.1
    refine ⟨_,ρ x, ?_,hr x,h.2⟩
    simp [execOp,ho,hx]
  case load t x =>
    refine calm (fun c => by rw [ho];simp) fun w s ρ hst hs hr => ?_
    subst hst
    obtain ⟨v,z,h1,h2,h3⟩:=load_sound hs (hr x) h
    exact ⟨v,z,by simp only [execOp,ho];exact vrun h1,h2,h3⟩
  case store t x y =>
    refine AO.of_run (fun c => by rw [ho];simp) fun n0 w s a _ hst hs ha hr => ?_
    subst hst
    obtain ⟨w',s',h1,h2,h3,h4⟩:=store_sound hs (hr x) (hr y) h
    refine ⟨.undef,w',s',⟨undef,.inr ⟨?_,rfl⟩⟩,h2,h3,h4⟩
    simp [execOp,ho,h1]
  case fieldAddr t x f =>
    refine calm (fun c => by rw [ho];simp) fun w s ρ hst _ hr => ?_
    subst hst
    obtain ⟨v,z,h1,h2,h3⟩:=fa_sound (hr x) h
    exact ⟨v,z,by simp only [execOp,ho];exact vrun h1,h2,h3⟩
  case field t x f =>
    refine calm (fun c => by rw [ho];simp) fun w s ρ _ _ hr => ?_
    obtain ⟨v,z,h1,h2,h3⟩:=field_sound (hr x) h
    exact ⟨v,z,by simp only [execOp,ho];exact vrun h1,h2,h3⟩
  case indexAddr t x i =>
    refine calm (fun c => by rw [ho];simp) fun w s ρ hst hs hr => ?_
    subst hst
    obtain ⟨v,z,h1,h2,h3⟩:=ia_sound hs (hr x) (hr i) h
    exact ⟨v,z,by simp only [execOp,ho];exact vrun h1,h2,h3⟩
  case index t x i =>
    refine calm (fun c => by rw [ho];simp) fun w s ρ _ _ hr => ?_
    obtain ⟨v,z,h1,h2,h3⟩:=ix_sound (hr x) (hr i) h
    exact ⟨v,z,by simp only [execOp,ho];exact vrun h1,h2,h3⟩
  case slice t x lo hi mx =>
    refine calm (fun c => by rw [ho];simp) fun w s ρ _ _ hr => ?_
    obtain ⟨v,z,h1,h2,h3⟩:=slice_sound (hr x) (RepO.mk hr lo) (RepO.mk hr hi) (RepO.mk hr mx) h
    exact ⟨v,z,by simp only [execOp,ho];exact vrun h1,h2,h3⟩
  case box t x =>
    refine AO.of_run (fun c => by rw [ho];simp) fun n0 w s a _ hst hs ha hr => ?_
    subst hst
    obtain ⟨xs,hxs,hlen,hrep,_⟩:=cells_rep (hr x) h.1
    obtain ⟨hS,hE,hR⟩:=new_box hs t hlen hrep
    refine ⟨_,_,_,⟨_,.inl ⟨?_,hR⟩⟩,hS,hE, ?_⟩
    · simp only [execOp,ho]
      refine vrun ?_
      have:(a.eval x).cells = xs.toArray:=by rw [← hxs]
      simp [Instr.box,newVar,newRow,this]
    · exact h.2
  case alloc t =>
    refine AO.of_run (fun c => by rw [ho];simp) fun n0 w s a _ hst hs ha hr => ?_
    subst hst
    cases hz:zro P t with
    | none => simp [hz] at h
    | some z =>
      rw [hz] at h
      obtain ⟨i,zv,hi,hzv,hlen,hrep⟩:=zro_rep (w:=w) (s:=s) hz
      obtain ⟨hS,hE,hR⟩:=new_box hs t hlen hrep
      refine ⟨_,_,_,⟨_,.inl ⟨?_,hR⟩⟩,hS,hE, ?_⟩
      · simp only [execOp,ho]
        refine vrun ?_
        simp [Instr.alloc,newVar,newRow,zeroValue,typeInfo,hi,hzv]
      · exact h
  case build t parts =>
    refine calm (fun c => by rw [ho];simp) fun w s ρ _ _ hr => ?_
    obtain ⟨h1,h2⟩:=parts_rep hr parts
    obtain ⟨v,z,h1,h2,h3⟩:=build_sound (P:=P) h1 h2 h
    exact ⟨v,z,by simp only [execOp,ho];exact vrun h1,h2,h3⟩
  case buildSlice t len parts =>
    refine AO.of_run (fun c => by rw [ho];simp) fun n0 w s a _ hst hs ha hr => ?_
    subst hst
    obtain ⟨hp1,hp2⟩:=parts_rep hr parts
    obtain ⟨v,z,w',s',h1,h2,h3,h4,h5⟩:=buildSlice_sound hs hp1 hp2 h.2 (fun h0 => by simpa using h.1 h0)
    exact ⟨v,w',s',⟨z,.inl ⟨by simp only [execOp,ho];exact vrun h1,h4⟩⟩,h2,h3,h5⟩
  case makeSlice t x y =>
    refine AO.of_run (fun c => by rw [ho];simp) fun n0 w s a _ hst hs ha hr => ?_
    subst hst
    obtain ⟨v,z,w',s',h1,h2,h3,h4,h5⟩:=make_sound hs (hr x) (hr y) h
    exact ⟨v,w',s',⟨z,.inl ⟨by simp only [execOp,ho];exact vrun h1,h4⟩⟩,h2,h3,h5⟩
  case makeMap t r =>
    cases r with
    | some r => exact h.elim
    | none =>
      refine AO.of_run (fun c => by rw [ho];simp) fun n0 w s a _ hst hs ha hr => ?_
      subst hst
      obtain ⟨hS,hE,hR⟩:=new_map hs (ks:=[]) (vs:=[]) (es:=#[]) 0 rfl rfl (fun i c e hc => by simp at hc) (fun i c e hc => by simp at hc)
      refine ⟨_,_,_,⟨_,.inl ⟨?_,hR⟩⟩,hS,hE,h⟩
      simp only [execOp,ho]
      refine vrun ?_
      simp [Instr.makeMap]
  case lookup t x k ok =>
    refine calm (fun c => by rw [ho];simp) fun w s ρ hst hs hr => ?_
    subst hst
    obtain ⟨v,z,h1,h2,h3⟩:=look_sound hs (hr x) (hr k) h
    exact ⟨v,z,by simp only [execOp,ho];exact vrun h1,h2,h3⟩
  case mapUpdate t m k x =>
    refine AO.of_run (fun c => by rw [ho];simp) fun n0 w s a _ hst hs ha hr => ?_
    subst hst
    obtain ⟨w',s',h1,h2,h3,h4⟩:=set_sound hs (hr m) (hr k) (hr x) h
    refine ⟨.undef,w',s',⟨undef,.inr ⟨?_,rfl⟩⟩,h2,h3,h4⟩
    simp [execOp,ho,h1]
  case insert t m k x =>
    refine AO.of_run (fun c => by rw [ho];simp) fun n0 w s a _ hst hs ha hr => ?_
    subst hst
    obtain ⟨w',s',h1,h2,h3,h4⟩:=set_sound hs (hr m) (hr k) (hr x) h
    refine ⟨.undef,w',s',⟨undef,.inr ⟨?_,rfl⟩⟩,h2,h3,h4⟩
    simp [execOp,ho,h1]
  case call c =>
    cases hcal:c.callee with
    | value f =>
      rw [hcal] at h
      simp only at h
      cases hf:e.ev gl f with
      | func fn fs cs =>
        cases fn with
        | func k =>
          rw [hf] at h
          exact call_sound ho hcal hf h.1 h.2
        | _ => rw [hf] at h;exact h.elim
      | yld id =>
        rw [hf] at h
        exact yld_sound ho hcal hf h
      | _ => rw [hf] at h;exact h.elim
    | invoke a m => rw [hcal] at h;exact h.elim
    | builtin bi =>
      rw [hcal] at h
      have hrun:∀ (ρ:Operand → Value) (w:World),∃ consts,(execOp ρ o).run P w = (builtin bi c.argTypes o.type consts (c.args.map ρ)).run P w:=fun ρ w => by
        simp only [execOp,ho,resolve,hcal,Sem.run_bind,Sem.run_pure,Result.andThen_ok,invoke]
        exact ⟨_,rfl⟩
      cases bi <;> simp only at h <;> try exact h.elim
      case len =>
        refine calm (fun c => by rw [ho];simp) fun w s ρ hst hs hr => ?_
        subst hst
        split at h
        · rename_i x t h1 h2
          have ea:c.args = #[x]:=by apply Array.ext';simpa using h1
          have et:c.argTypes = #[t]:=by apply Array.ext';simpa using h2
          obtain ⟨v,z,h1,h2,h3⟩:=len_sound (ty:=o.type) hs (hr x) h
          refine ⟨v,z, ?_,h2,h3⟩
          obtain ⟨_,hrun⟩:=hrun ρ w
          rw [hrun,ea,et]
          exact vrun (by simpa using h1)
        · exact h.elim
      case delete =>
        refine AO.of_run (fun c => by rw [ho];simp) fun n0 w s a _ hst hs ha hr => ?_
        subst hst
        split at h
        · rename_i x y t u h1 h2
          have ea:c.args = #[x,y]:=by apply Array.ext';simpa using h1
          have et:c.argTypes = #[t,u]:=by apply Array.ext';simpa using h2
          obtain ⟨w',s',h1,h2,h3,h4⟩:=del_sound (ty:=o.type) (u:=u) hs (hr x) (hr y) h
          refine ⟨.tuple [],w',s',⟨.tuple #[],.inl ⟨?_,.tuple [] [] rfl (fun i c x hc => by simp at hc)⟩⟩,h2,h3,h4⟩
          obtain ⟨_,hrun⟩:=hrun a.eval w
          rw [hrun,ea,et]
          exact vrun (by simpa using h1)
        · exact h.elim
      case append =>
        refine AO.of_run (fun c => by rw [ho];simp) fun n0 w s a _ hst hs ha hr => ?_
        subst hst
        split at h
        · rename_i x y t u h1 h2
          obtain ⟨rfl,h⟩:=h
          have ea:c.args = #[x,y]:=by apply Array.ext';simpa using h1
          have et:c.argTypes = #[t,t]:=by apply Array.ext';simpa using h2
          obtain ⟨v,z,w',s',h1,h2,h3,h4,h5⟩:=append_sound (ty:=o.type) hs (hr x) (hr y) h
          refine ⟨v,w',s',⟨z,.inl ⟨?_,h4⟩⟩,h2,h3,h5⟩
          obtain ⟨_,hrun⟩:=hrun a.eval w
          rw [hrun,ea,et]
          exact vrun (by simpa using h1)
        · exact h.elim
      case max =>
        refine calm (fun c => by rw [ho];simp) fun w s ρ hst hs hr => ?_
        subst hst
        split at h
        · rename_i x y h1
          have ea:c.args = #[x,y]:=by apply Array.ext';simpa using h1
          have hx:=hr x
          have hy:=hr y
          cases hvx:e.ev gl x <;> rw [hvx] at h hx <;> try exact h.elim
          cases hvy:e.ev gl y <;> rw [hvy] at h hy <;> try exact h.elim
          refine ⟨_,_, ?_,.pure _ _ (.int _ _),h⟩
          obtain ⟨_,hrun⟩:=hrun ρ w
          rw [hrun,ea]
          refine vrun ?_
          simp [Builtin.max_,hx.int_inv,hy.int_inv,Builtin.max2]
        · exact h.elim
      case min =>
        refine calm (fun c => by rw [ho];simp) fun w s ρ hst hs hr => ?_
        subst hst
        split at h
        · rename_i x y h1
          have ea:c.args = #[x,y]:=by apply Array.ext';simpa using h1
          have hx:=hr x
          have hy:=hr y
          cases hvx:e.ev gl x <;> rw [hvx] at h hx <;> try exact h.elim
          cases hvy:e.ev gl y <;> rw [hvy] at h hy <;> try exact h.elim
          refine ⟨_,_, ?_,.pure _ _ (.int _ _),h⟩
          obtain ⟨_,hrun⟩:=hrun ρ w
          rw [hrun,ea]
          refine vrun ?_
          simp [Builtin.min_,hx.int_inv,hy.int_inv,Builtin.min2]
        · exact h.elim
  all_goals exact h.elim
end
end Go.Duo

namespace Go.Duo
open Go
section
variable {P:Program} {gl:Nat → V} {r:Option Nat} {e:Env} {st:List O} {w:World} {s:S} {Q:Exit → Env → List O → Prop}
theorem yielded_of {ops:Array Oper} {n0:Nat} {a:Act} (ha:ActOK w s n0 e a) {j d:Nat} {b:Bool} (hd:(ops[j]?).bind (·.dst) = some d) (hg:e.get d = .bool b):yielded ops a.tmps j = some b:=by
  have h:=ha.get d
  rw [hg] at h
  have h:=h.bool_inv
  unfold yielded
  rw [hd]
  simp only [Option.bind_some]
  rw [Array.getD_eq_getD_getElem?] at h
  cases hx:a.tmps[d]? with
  | none => rw [hx] at h;simp [undef] at h
  | some v => rw [hx] at h;simp only [Option.getD_some] at h;rw [h]
theorem rep_hole (w:World) (s:S):Rep w s (.tuple []) undef:=.pure _ _ (.tuple [] [] rfl (by simp))
theorem hole_inv {x:Value} (h:Rep w s (.tuple []) x):x = undef:=by
  cases h with
  | pure _ _ h => cases h with | tuple _ xs hl _ => have:xs = []:=List.length_eq_zero_iff.1 hl.symm;subst this;rfl
  | tuple _ xs hl _ => have:xs = []:=List.length_eq_zero_iff.1 hl.symm;subst this;rfl
theorem yielded_hole {ops:Array Oper} {n0:Nat} {a:Act} (ha:ActOK w s n0 e a) {j d:Nat} (hd:(ops[j]?).bind (·.dst) = some d) (hg:e.get d = .tuple []):yielded ops a.tmps j = none:=by
  have h:=ha.get d
  rw [hg] at h
  have h:=hole_inv h
  unfold yielded
  rw [hd]
  simp only [Option.bind_some]
  rw [Array.getD_eq_getD_getElem?] at h
  cases hx:a.tmps[d]? with
  | none => rfl
  | some v => rw [hx] at h;simp only [Option.getD_some] at h;rw [h];rfl
theorem awL_sound {ops:Array Oper} {K:Env → List O → Prop}:∀ (l:List Oper) (k:Nat) (e:Env) (st:List O),ops.toList.drop k = l → awL P gl ops l e st K → ∀ (n0:Nat) (w:World) (s:S) (a:Act) (Q':Exit → Act → World → Prop),
    n0 ≤ w.heap.size → s.st = st → Sim P gl w s → ActOK w s n0 e a → (∀ e' s' a' w',Sim P gl w' s' → Evolve w s w' s' → ActOK w' s' n0 e' a' → K e' s'.st → Q' .normal a' w') → wpOpsIn (Fr r) 0 P ops Q' (List.range' k l.length) a w:=by
  intro l
  induction l with
  | nil =>
    intro k e st _ h n0 w s a Q' hn hst hs ha hk
    exact hk e s a w hs (Evolve.refl hs.wf) ha (hst ▸ h)
  | cons o rest ih =>
    intro k e st hdrop h n0 w s a Q' hn hst hs ha hk
    have hk0:k < ops.toList.length:=by
      apply Classical.byContradiction
      intro hc
      rw [List.drop_eq_nil_of_le (by omega)] at hdrop
      cases hdrop
    have hget:ops[k]? = some o:=by
      have:=List.getElem?_drop (xs:=ops.toList) (i:=k) (j:=0)
      rw [hdrop] at this
      simpa using this.symm
    have hdrop':ops.toList.drop (k + 1) = rest:=by
      rw [← List.drop_drop,hdrop]
      rfl
    simp only [List.length_cons,List.range'_succ]
    simp only [wpOpsIn,hget]
    unfold awL at h
    obtain ⟨hfit,h⟩:=h
    have hstep:∀ {e:Env} {a:Act},e.fits o.dst → ActOK w s n0 e a → step1 P gl (e.ev gl) st o.op (fun v st' => awL P gl ops rest (e.put o.dst v) st' K) → o.wpIn (Fr r) 0 P a w (wpOpsIn (Fr r) 0 P ops Q' (List.range' (k + 1) rest.length)) Q':=fun hfit ha h => by
      refine step1_sound h n0 w s _ _ Q' hn hst hs ha fun v x w' s' hs' hE hr hK => ?_
      exact ih (k + 1) _ _ hdrop' hK n0 w' s' _ Q' (Nat.le_trans hn hE.size) rfl hs' ((ha.evolve hE hs.wf).put hfit hr) fun e'' s'' a'' w'' k1 k2 k3 k4 => hk e'' s'' a'' w'' k1 (hE.trans hs.len hs'.len k2) k3 k4
    have hskip:∀ {a:Act},ActOK w s n0 e a → awL P gl ops rest (e.put o.dst (.tuple [])) st K → wpOpsIn (Fr r) 0 P ops Q' (List.range' (k + 1) rest.length) (a.put o.dst undef) w:=fun ha h =>
      ih (k + 1) _ _ hdrop' h n0 w s _ Q' hn hst hs (ha.put hfit (rep_hole _ _)) hk
    cases hgd:o.guard with
    | none =>
      rw [hgd] at h
      simp only at h
      rw [if_pos (by simp [Region.wanted,hgd])]
      exact hstep hfit ha h
    | some jw =>
      obtain ⟨j,want⟩:=jw
      rw [hgd] at h
      simp only at h
      cases hd:(ops[j]?).bind (·.dst) with
      | none => rw [hd] at h;exact h.elim
      | some d =>
        rw [hd] at h
        simp only at h
        cases hv:e.get d <;> rw [hv] at h <;> try exact h.elim
        case tuple cs =>
          cases cs with
          | cons c cs => exact h.elim
          | nil =>
            rw [if_neg (by simp [Region.wanted,hgd,yielded_hole ha hd hv])];exact ⟨fun _ _ => trivial,hskip ha h⟩
        rename_i b
        have hy:=yielded_of ha hd hv
        have hw:Region.wanted o (yielded ops a.tmps) = (b == want):=by simp only [Region.wanted,hgd,hy];cases b <;> cases want <;> rfl
        cases b with
        | true =>
          have h:=h.1 rfl
          cases want with
          | true => rw [if_pos (by rw [hw];rfl)];exact hstep hfit ha (by simpa using h)
          | false => rw [if_neg (by rw [hw];simp)];exact ⟨fun _ _ => trivial,hskip ha (by simpa using h)⟩
        | false =>
          have h:=h.2 rfl
          cases want with
          | true => rw [if_neg (by rw [hw];simp)];exact ⟨fun _ _ => trivial,hskip ha (by simpa using h)⟩
          | false => rw [if_pos (by rw [hw];rfl)];exact hstep hfit ha (by simpa using h)
theorem AW.region {id:Nat} {ops:Array Oper} (h:awL P gl ops ops.toList e st (Q .normal)):AW P gl r (.region id ops false) Q e st:=fun n0 w s a hn hst hs ha => by
  refine wpIn_region ?_
  have:=awL_sound (r:=r) ops.toList 0 e st rfl h n0 w s a (fun x a' w' => ∃ e' s',Sim P gl w' s' ∧ Evolve w s w' s' ∧ ActOK w' s' n0 e' a' ∧ Q x e' s'.st) hn hst hs ha (fun e' s' a' w' h1 h2 h3 h4 => ⟨e',s',h1,h2,h3,h4⟩)
  rw [← List.range_eq_range'] at this
  simpa using this
def V.trim (k:Nat):V → V
  | .agg cs => .agg (trimL k cs)
  | .tuple cs => .tuple (trimL k cs)
  | .func fn fs cs => .func fn (trimL k fs) (trimL k cs)
  | .iface t v => .iface t (v.trim k)
  | .sl es (some id) => if id < k then .sl es (some id) else .sl es none
  | .ref id v => if id < k then .ref id v else .undef
  | .rptr id v o => if id < k then .rptr id v o else .undef
  | .ptr id o => if id < k then .ptr id o else .undef
  | .map id => if id < k then .map id else .undef
  | .yld id => if id < k then .yld id else .undef
  | v => v
where trimL (k:Nat):List V → List V
  | [] => []
  | c :: cs => c.trim k :: trimL k cs
theorem trimL_eq (k:Nat) (cs:List V):V.trim.trimL k cs = cs.map (V.trim k):=by
  induction cs with
  | nil => rfl
  | cons c cs ih => simp [V.trim.trimL,ih]
def O.trim (k:Nat):O → O
  | .box t cs => .box t (cs.map (V.trim k))
  | .map ks vs => .map ks (vs.map (V.trim k))
  | o => o
def S.trim (s:S) (k:Nat):S:={ s with g:=s.g.take k,st:=(s.st.take k).map (O.trim k) }
theorem trim_get {k i:Nat} {o:O} (h:(s.trim k).st[i]? = some o):∃ o',s.st[i]? = some o' ∧ o = o'.trim k ∧ i < k:=by
  simp only [S.trim,List.getElem?_map,Option.map_eq_some_iff] at h
  obtain ⟨o',h1,rfl⟩:=h
  rw [List.getElem?_take] at h1
  split at h1
  · exact ⟨o',h1,rfl,by assumption⟩
  · cases h1
theorem trim_g {k i:Nat} {g:Gh} (h:(s.trim k).g[i]? = some g):s.g[i]? = some g ∧ i < k:=by
  simp only [S.trim] at h
  rw [List.getElem?_take] at h
  split at h
  · exact ⟨h,by assumption⟩
  · cases h
theorem trim_g' {k i:Nat} {g:Gh} (h:s.g[i]? = some g) (hi:i < k):(s.trim k).g[i]? = some g:=by
  simp only [S.trim]
  rw [List.getElem?_take_of_lt hi]
  exact h
theorem trim_st' {k i:Nat} {o:O} (h:s.st[i]? = some o) (hi:i < k):(s.trim k).st[i]? = some (o.trim k):=by
  simp only [S.trim,List.getElem?_map]
  rw [List.getElem?_take_of_lt hi,h]
  rfl
theorem PR.trim {K:Nat → Nat → Prop} {k:Nat} {v:V} {x:Value} (h:PR w K v x):PR w K (v.trim k) x:=by
  induction h with
  | agg cs xs hl _ ih =>
    simp only [V.trim,trimL_eq]
    refine .agg _ xs (by simpa using hl) fun i c x hc hx => ?_
    rw [List.getElem?_map] at hc
    cases hci:cs[i]? with
    | none => simp [hci] at hc
    | some c0 => simp only [hci,Option.map_some,Option.some.injEq] at hc;subst hc;exact ih i c0 x hci hx
  | tuple cs xs hl _ ih =>
    simp only [V.trim,trimL_eq]
    refine .tuple _ xs (by simpa using hl) fun i c x hc hx => ?_
    rw [List.getElem?_map] at hc
    cases hci:cs[i]? with
    | none => simp [hci] at hc
    | some c0 => simp only [hci,Option.map_some,Option.some.injEq] at hc;subst hc;exact ih i c0 x hci hx
  | func fn fs cs xs ys hl hl' _ _ ih ih' =>
    simp only [V.trim,trimL_eq]
    refine .func fn _ _ xs ys (by simpa using hl) (by simpa using hl') (fun i c x hc hx => ?_) (fun i c x hc hx => ?_)
    · rw [List.getElem?_map] at hc
      cases hci:fs[i]? with
      | none => simp [hci] at hc
      | some c0 => simp only [hci,Option.map_some,Option.some.injEq] at hc;subst hc;exact ih i c0 x hci hx
    · rw [List.getElem?_map] at hc
      cases hci:cs[i]? with
      | none => simp [hci] at hc
      | some c0 => simp only [hci,Option.map_some,Option.some.injEq] at hc;subst hc;exact ih' i c0 x hci hx
  | iface t v x _ ih => exact .iface t _ x ih
  | int k n => exact .int k n
  | bool b => exact .bool b
  | str l => exact .str l
  | nil a => exact .nil a
  | sl es a cap sz x h1 h2 h3 h4 h5 h6 => exact .sl es a cap sz x h1 h2 h3 h4 h5 h6
  | nilptr => exact .nilptr
  | dptr cs b o x hc h => exact .dptr cs b o x hc h
  | pmap ks vs r es clock hb hK hk hv h h' => exact .pmap ks vs r es clock hb hK hk hv h h'
  | nilfunc => exact .nilfunc
  | niliface => exact .niliface
theorem Rep.trim {k:Nat} {v:V} {x:Value} (h:Rep w s v x):Rep w (s.trim k) (v.trim k) x:=by
  have mapc:∀ {cs:List V} {xs:List Value},(∀ (i:Nat) (c:V) (x:Value),cs[i]? = some c → xs[i]? = some x → Rep w (s.trim k) (c.trim k) x) → ∀ (i:Nat) (c:V) (x:Value),(cs.map (V.trim k))[i]? = some c → xs[i]? = some x → Rep w (s.trim k) c x:=fun {cs xs} ih i c x hc hx => by
    rw [List.getElem?_map] at hc
    cases hci:cs[i]? with
    | none => simp [hci] at hc
    | some c0 => simp only [hci,Option.map_some,Option.some.injEq] at hc;subst hc;exact ih i c0 x hci hx
  induction h with
  | pure v x hp => exact .pure _ x (hp.trim (k:=k))
  | undef x => exact .undef x
  | agg cs xs hl _ ih => simp only [V.trim,trimL_eq];exact .agg _ xs (by simpa using hl) (mapc ih)
  | tuple cs xs hl _ ih => simp only [V.trim,trimL_eq];exact .tuple _ xs (by simpa using hl) (mapc ih)
  | func fn fs cs xs ys hl hl' _ _ ih ih' => simp only [V.trim,trimL_eq];exact .func fn _ _ xs ys (by simpa using hl) (by simpa using hl') (mapc ih) (mapc ih')
  | iface t v x _ ih => exact .iface t _ x ih
  | tok es id x hp ht =>
    simp only [V.trim]
    split
    · rename_i hi
      obtain ⟨o,ho,hm⟩:=ht
      refine .tok es id x hp ⟨o.trim k,trim_st' ho hi, ?_⟩
      cases o <;> first | exact hm | exact ⟨hm.1,fun e => (hm.2.1 e).imp (fun h => trim_g' h hi) (fun h => h),hm.2.2⟩
    · exact .pure _ _ hp
  | ref id ver x h1 hr =>
    simp only [V.trim]
    split
    · rename_i hi
      obtain ⟨o,ho,hm⟩:=hr
      refine .ref id ver x h1 ⟨o.trim k,trim_st' ho hi, ?_⟩
      cases o <;> first | exact hm | exact ⟨hm.1,fun e => (hm.2 e).imp (fun h => trim_g' h hi) (fun h => h)⟩
    · exact .undef x
  | rptr id ver off x h1 hr =>
    simp only [V.trim]
    split
    · rename_i hi
      obtain ⟨o,ho,hm⟩:=hr
      refine .rptr id ver off x h1 ⟨o.trim k,trim_st' ho hi, ?_⟩
      cases o <;> first | exact hm | exact ⟨hm.1,fun e => let ⟨y,b,h1,h2⟩:=hm.2 e;⟨y,b,trim_g' h1 hi,h2⟩⟩
    · exact .undef x
  | ptr id off b hb =>
    simp only [V.trim]
    split
    · rename_i hi;exact .ptr id off b (trim_g' hb hi)
    · exact .undef _
  | map id b hb =>
    simp only [V.trim]
    split
    · rename_i hi;exact .map id b (trim_g' hb hi)
    · exact .undef _
  | yld id l F J Jx hb =>
    simp only [V.trim]
    split
    · rename_i hi;exact .yld id l F J Jx (trim_g' hb hi)
    · exact .undef _
theorem O.trim_lives (k:Nat) (o:O):(o.trim k).lives = o.lives:=by cases o <;> rfl
theorem own_trim {k i b:Nat} (h:(s.trim k).own i b):s.own i b:=by
  obtain ⟨o,g,ho,hl,hg,hat⟩:=h
  obtain ⟨o',h1,rfl,_⟩:=trim_get ho
  exact ⟨o',g,h1,by rw [O.trim_lives] at hl;exact hl,(trim_g hg).1,hat⟩
theorem ObjOK.trim {k:Nat} {o:O} {g:Gh} (h:ObjOK P w s o g):ObjOK P w (s.trim k) (o.trim k) g:=by
  cases o <;> cases g <;> simp only [ObjOK,O.trim] at h ⊢ <;> try exact h
  rotate_left
  · obtain ⟨es,clock,h1,h2,h3,h4,h5⟩:=h
    refine ⟨es,clock,h1,h2,by simpa using h3,h4,fun i c x hc hx => ?_⟩
    rw [List.getElem?_map] at hc
    rename_i _ vs _
    cases hci:vs[i]? with
    | none => simp [hci] at hc
    | some c0 => simp only [hci,Option.map_some,Option.some.injEq] at hc;subst hc;exact (h5 i c0 x hci hx).trim
  · exact ⟨h.1,h.2.1,h.2.2.1,fun b ⟨i,hi⟩ => h.2.2.2 b ⟨i,own_trim hi⟩⟩
  obtain ⟨arr,h1,h2,h3⟩:=h
  refine ⟨arr,h1,by simpa using h2,fun i c x hc hx => ?_⟩
  rw [List.getElem?_map] at hc
  rename_i cs _
  cases hci:cs[i]? with
  | none => simp [hci] at hc
  | some c0 => simp only [hci,Option.map_some,Option.some.injEq] at hc;subst hc;exact (h3 i c0 x hci hx).trim
theorem foreign_trim {k b:Nat} (h:(s.trim k).foreign b):s.foreign b:=by
  obtain ⟨i,xs,n,l,go,F,J,Jx,ho,hg,hF⟩:=h
  obtain ⟨o',h1,he,_⟩:=trim_get ho
  cases o' <;> simp [O.trim] at he
  obtain ⟨rfl,rfl,rfl⟩:=he
  exact ⟨i,xs,n,l,go,F,J,Jx,h1,(trim_g hg).1,hF⟩
theorem Sim.trim (h:Sim P gl w s) (k:Nat):Sim P gl w (s.trim k) where
  len:=by simp [S.trim,h.len]
  obj:=fun i o g ho hg => by
    obtain ⟨o',h1,rfl,_⟩:=trim_get ho
    exact (h.obj i o' g h1 (trim_g hg).1).trim
  inj:=fun i j b hi hj => h.inj i j b (own_trim hi) (own_trim hj)
  kout:=fun i b o ob hi hob hwr => by
    obtain ⟨o',h1,rfl,_⟩:=trim_get hob
    refine h.kout i b o o' (own_trim hi) h1 ?_
    cases o' <;> exact hwr
  kin:=h.kin
  fgn:=fun b hb => ⟨(h.fgn b (foreign_trim hb)).1,fun ⟨i,hi⟩ => (h.fgn b (foreign_trim hb)).2 ⟨i,own_trim hi⟩⟩
  glob:=h.glob
end
end Go.Duo

namespace Go.Duo
open Go
section
variable {P:Program} {gl:Nat → V} {r:Option Nat} {e:Env} {st:List O} {w w':World} {s s':S} {Q:Exit → Env → List O → Prop}
theorem Evolve.trim (h:Evolve w s w' s') (hl:s.g.length = s.st.length) (hl':s'.g.length = s'.st.length) {k:Nat} (hk:s.st.length ≤ k):Evolve w s w' (s'.trim k) where
  os:=h.os
  tape:=h.tape
  output:=h.output
  size:=h.size
  keeps:=h.keeps
  knew:=h.knew
  block:=h.block
  len:=by
    have:=h.len
    simp only [S.trim,List.length_take]
    omega
  objs:=fun i o g ho hg => by
    obtain ⟨o',g',h1,h2,t⟩:=h.objs i o g ho hg
    have hi:i < k:=by
      have:=(List.getElem?_eq_some_iff.1 ho).1
      omega
    refine ⟨o'.trim k,g',trim_st' h1 hi,trim_g' h2 hi, ?_⟩
    cases o with
    | box t' cs =>
      obtain ⟨rfl,rfl | ⟨cs',rfl,hc⟩⟩:=t
      · exact ⟨rfl,.inl rfl⟩
      · exact ⟨rfl,.inr ⟨_,rfl,by simpa using hc⟩⟩
    | map ks vs =>
      obtain ⟨rfl,rfl | ⟨ks',vs',rfl⟩⟩:=t
      · exact ⟨rfl,.inl rfl⟩
      · exact ⟨rfl,.inr ⟨_,_,rfl⟩⟩
    | tok e sz m =>
      rcases t with rfl | ⟨m',rfl,t⟩
      · exact .inl rfl
      · exact .inr ⟨m',rfl,t⟩
    | arr e sz v es =>
      rcases t with rfl | ⟨m',es',rfl,t⟩
      · exact .inl rfl
      · exact .inr ⟨m',es',rfl,t⟩
    | yld xs j go =>
      obtain ⟨t1,rfl | ⟨j',go',rfl,t2⟩⟩:=t
      · exact ⟨t1,.inl rfl⟩
      · exact ⟨t1,.inr ⟨j',go',rfl,t2⟩⟩
    | dead => obtain ⟨rfl,rfl⟩:=t;exact ⟨rfl,rfl⟩
  fresh:=fun i o g b hi ho hlv hg hat => by
    obtain ⟨o',h1,rfl,_⟩:=trim_get ho
    exact h.fresh i o' g b hi h1 (by rw [O.trim_lives] at hlv;exact hlv) (trim_g hg).1 hat
  noyld:=fun i xs n go hi ho => by
    obtain ⟨o',h1,he,_⟩:=trim_get ho
    cases o' <;> simp only [O.trim] at he <;> try cases he
    exact h.noyld i _ _ _ hi h1
def Env.trim (k:Nat) (e:Env):Env:=⟨e.n,e.m.map fun p => (p.1,p.2.trim k)⟩
def trimS (k:Nat) (st:List O):List O:=(st.take k).map (O.trim k)
theorem Env.trim_get (k:Nat) (e:Env) (t:Nat):(e.trim k).get t = (e.get t).trim k:=by
  obtain ⟨n,m⟩:=e
  simp only [Env.trim,Env.get]
  induction m with
  | nil => rfl
  | cons p m ih =>
    obtain ⟨a,v⟩:=p
    simp only [List.map_cons,getM]
    split
    · rfl
    · exact ih
theorem Marks.trim {n0:Nat} {ds:List Deferred} (h:Marks w s n0 ds) (k:Nat):Marks w (s.trim k) n0 ds:=by
  refine ⟨fun d hd => ?_,h.2⟩
  obtain ⟨r,h1,h2,h3,h4,h5⟩:=h.1 d hd
  exact ⟨r,h1,h2,h3,fun ⟨i,hi⟩ => h4 ⟨i,own_trim hi⟩,fun hf => h5 (foreign_trim hf)⟩
theorem ActOK.trim {n0:Nat} {a:Act} (h:ActOK w s n0 e a) (k:Nat):ActOK w (s.trim k) n0 (e.trim k) a :=
  ⟨h.n,fun t => by rw [Env.trim_get];exact (h.get t).trim,h.marks.trim k⟩
def V.le (st:List O) (a b:V):Prop:=∀ (w:World) (s:S) (x:Value),s.st = st → Rep w s a x → Rep w s b x
theorem V.le_refl (st:List O) (a:V):V.le st a a:=fun _ _ _ _ h => h
theorem V.le_of_eq {st:List O} {a b:V} (h:a = b):V.le st a b:=h ▸ V.le_refl st a
theorem V.le_trans {st:List O} {a b c:V} (h:V.le st a b) (k:V.le st b c):V.le st a c:=fun w s x hs hx => k w s x hs (h w s x hs hx)
theorem V.le_undef (st:List O) (a:V):V.le st a .undef:=fun _ _ _ _ _ => .undef _
theorem V.le_nil (st:List O):V.le st .nil (.sl [] none):=fun _ _ _ _ h => by
  obtain ⟨a,rfl⟩:=h.nil_inv
  exact .pure _ _ (PR.nil_sl a)
theorem V.le_nil_tok {st:List O} {k:Nat} {e:TypeId} {sz:Nat} (h:st[k]? = some (.tok e sz 0)):V.le st .nil (.sl [] (some k)):=fun w s x hs hx => by
  obtain ⟨a,rfl⟩:=hx.nil_inv
  exact .tok [] k _ (PR.nil_sl a) ⟨.tok e sz 0,hs ▸ h,Nat.zero_le _,fun _ => .inr ⟨rfl,a,rfl⟩,by simp⟩
theorem V.le_sl (st:List O) (es:List V) (t:Option Nat):V.le st (.sl es t) (.sl es none):=fun _ _ _ _ h => .pure _ _ h.sl_inv
theorem V.le_agg {st:List O} {cs ds:List V} (hl:cs.length = ds.length) (h:∀ (i:Nat) (c d:V),cs[i]? = some c → ds[i]? = some d → V.le st c d):V.le st (.agg cs) (.agg ds):=fun w s x hs hx => by
  obtain ⟨xs,rfl,hlx,hr⟩:=hx.agg_inv
  refine .agg _ xs (by omega) fun i d y hd hy => ?_
  have hi:i < cs.length:=by have:=(List.getElem?_eq_some_iff.1 hd).1;omega
  exact h i cs[i] d (List.getElem?_eq_getElem hi) hd w s y hs (hr i _ y (List.getElem?_eq_getElem hi) hy)
theorem V.le_tuple {st:List O} {cs ds:List V} (hl:cs.length = ds.length) (h:∀ (i:Nat) (c d:V),cs[i]? = some c → ds[i]? = some d → V.le st c d):V.le st (.tuple cs) (.tuple ds):=fun w s x hs hx => by
  obtain ⟨xs,rfl,hlx,hr⟩:=hx.tuple_inv
  refine .tuple _ xs (by omega) fun i d y hd hy => ?_
  have hi:i < cs.length:=by have:=(List.getElem?_eq_some_iff.1 hd).1;omega
  exact h i cs[i] d (List.getElem?_eq_getElem hi) hd w s y hs (hr i _ y (List.getElem?_eq_getElem hi) hy)
structure Env.le (st:List O) (e e':Env):Prop where
  n:e'.n ≤ e.n
  get:∀ t,V.le st (e.get t) (e'.get t)
theorem Env.le_refl (st:List O) (e:Env):Env.le st e e:=⟨Nat.le_refl _,fun _ => V.le_refl _ _⟩
theorem ActOK.le {n0:Nat} {a:Act} {e':Env} (h:ActOK w s n0 e a) (hle:Env.le s.st e e'):ActOK w s n0 e' a :=
  ⟨Nat.le_trans hle.n h.n,fun t => hle.get t w s _ rfl (h.get t),h.marks⟩
def Env.has (st:List O) (e:Env):List (Nat × V) → Prop
  | [] => True
  | (t,v) :: m => V.le st (e.get t) v ∧ e.has st m
theorem Env.le_of_has {e:Env} {n:Nat} {m:List (Nat × V)} (hn:n ≤ e.n) (h:e.has st m):Env.le st e ⟨n,m⟩:=by
  refine ⟨hn,fun t => ?_⟩
  simp only [Env.get]
  clear hn
  induction m with
  | nil => exact V.le_undef _ _
  | cons p m ih =>
    obtain ⟨a,v⟩:=p
    obtain ⟨h1,h2⟩:=h
    simp only [getM]
    by_cases e1:a = t
    · subst e1
      rw [if_pos rfl]
      exact h1
    · rw [if_neg e1]
      exact ih h2
def O.le (st:List O):O → O → Prop
  | .box t cs,o' => ∃ cs',o' = .box t cs' ∧ cs.length = cs'.length ∧ ∀ (i:Nat) (c d:V),cs[i]? = some c → cs'[i]? = some d → V.le st c d
  | o,o' => o' = o
def StLe (st st':List O):Prop:=st.length = st'.length ∧ ∀ (i:Nat) (o o':O),st[i]? = some o → st'[i]? = some o' → O.le st o o'
theorem O.le_refl (st:List O) (o:O):O.le st o o:=by
  cases o with
  | box t cs => exact ⟨cs,rfl,rfl,fun i c d h h' => by rw [h] at h';simp only [Option.some.injEq] at h';subst h';exact V.le_refl _ _⟩
  | _ => rfl
theorem StLe.refl (st:List O):StLe st st:=⟨rfl,fun i o o' h h' => by rw [h] at h';simp only [Option.some.injEq] at h';subst h';exact O.le_refl _ _⟩
theorem O.le_lives {st:List O} {o o':O} (h:O.le st o o'):o'.lives = o.lives ∧ ∀ y,o'.writes y ↔ o.writes y:=by
  cases o with
  | box t cs => obtain ⟨cs',rfl,_⟩:=h;exact ⟨rfl,fun _ => Iff.rfl⟩
  | _ => cases h;exact ⟨rfl,fun _ => Iff.rfl⟩
theorem StLe.back {st':List O} (h:StLe s.st st') {i:Nat} {o':O} (ho:st'[i]? = some o'):∃ o,s.st[i]? = some o ∧ O.le s.st o o':=by
  have hi:i < s.st.length:=by have:=(List.getElem?_eq_some_iff.1 ho).1;have:=h.1;omega
  exact ⟨s.st[i],List.getElem?_eq_getElem hi,h.2 i _ o' (List.getElem?_eq_getElem hi) ho⟩
theorem StLe.forth {st':List O} (h:StLe s.st st') {i:Nat} {o:O} (ho:s.st[i]? = some o):∃ o',st'[i]? = some o' ∧ O.le s.st o o':=by
  have hi:i < st'.length:=by have:=(List.getElem?_eq_some_iff.1 ho).1;have:=h.1;omega
  exact ⟨st'[i],List.getElem?_eq_getElem hi,h.2 i o _ ho (List.getElem?_eq_getElem hi)⟩
def S.wk (s:S) (st':List O):S:={ s with st:=st' }
theorem Rep.wk {st':List O} (h:StLe s.st st') {v:V} {x:Value} (hr:Rep w s v x):Rep w (s.wk st') v x:=by
  induction hr with
  | pure v x hp => exact .pure v x hp
  | undef x => exact .undef x
  | agg cs xs hl _ ih => exact .agg cs xs hl ih
  | tuple cs xs hl _ ih => exact .tuple cs xs hl ih
  | func fn fs cs xs ys hl hl' _ _ ih ih' => exact .func fn fs cs xs ys hl hl' ih ih'
  | iface t v x _ ih => exact .iface t v x ih
  | tok es id x hp ht =>
    obtain ⟨o,ho,hm⟩:=ht
    obtain ⟨o',ho',hle⟩:=h.forth ho
    refine .tok es id x hp ⟨o',ho', ?_⟩
    cases o with
    | box => exact hm.elim
    | _ => cases hle;exact hm
  | ref id ver x h1 ht =>
    obtain ⟨o,ho,hm⟩:=ht
    obtain ⟨o',ho',hle⟩:=h.forth ho
    refine .ref id ver x h1 ⟨o',ho', ?_⟩
    cases o with
    | box => exact hm.elim
    | _ => cases hle;exact hm
  | rptr id ver off x h1 ht =>
    obtain ⟨o,ho,hm⟩:=ht
    obtain ⟨o',ho',hle⟩:=h.forth ho
    refine .rptr id ver off x h1 ⟨o',ho', ?_⟩
    cases o with
    | box => exact hm.elim
    | _ => cases hle;exact hm
  | ptr id off b hb => exact .ptr id off b hb
  | map id b hb => exact .map id b hb
  | yld id l F J Jx hb => exact .yld id l F J Jx hb
theorem own_wk {st':List O} (h:StLe s.st st') (i b:Nat):(s.wk st').own i b ↔ s.own i b:=by
  constructor
  · rintro ⟨o',g,ho',hl,hg,hat⟩
    obtain ⟨o,ho,hle⟩:=h.back ho'
    exact ⟨o,g,ho,by rw [← (O.le_lives hle).1];exact hl,hg,hat⟩
  · rintro ⟨o,g,ho,hl,hg,hat⟩
    obtain ⟨o',ho',hle⟩:=h.forth ho
    exact ⟨o',g,ho',by rw [(O.le_lives hle).1];exact hl,hg,hat⟩
theorem mine_wk {st':List O} (h:StLe s.st st') (b:Nat):(s.wk st').mine b ↔ s.mine b:=⟨fun ⟨i,hi⟩ => ⟨i,(own_wk h i b).1 hi⟩,fun ⟨i,hi⟩ => ⟨i,(own_wk h i b).2 hi⟩⟩
theorem foreign_wk {st':List O} (h:StLe s.st st') (b:Nat):(s.wk st').foreign b ↔ s.foreign b:=by
  constructor
  · rintro ⟨i,xs,k,l,go,F,J,Jx,ho',hg,hF⟩
    obtain ⟨o,ho,hle⟩:=h.back ho'
    cases o with
    | box => obtain ⟨_,h,_⟩:=hle;cases h
    | _ => cases hle <;> exact ⟨i,xs,k,l,go,F,J,Jx,ho,hg,hF⟩
  · rintro ⟨i,xs,k,l,go,F,J,Jx,ho,hg,hF⟩
    obtain ⟨o',ho',hle⟩:=h.forth ho
    cases hle
    exact ⟨i,xs,k,l,go,F,J,Jx,ho',hg,hF⟩
theorem Sim.wk {st':List O} (hs:Sim P gl w s) (h:StLe s.st st'):Sim P gl w (s.wk st') where
  len:=hs.len.trans h.1
  obj:=fun i o' g ho' hg => by
    obtain ⟨o,ho,hle⟩:=h.back ho'
    have hk:=hs.obj i o g ho hg
    cases o with
    | box t cs =>
      obtain ⟨cs',rfl,hl,hc⟩:=hle
      cases g <;> simp only [ObjOK] at hk ⊢
      obtain ⟨arr,h1,h2,h3⟩:=hk
      refine ⟨arr,h1,by omega,fun j d x hd hx => ?_⟩
      have hj:j < cs.length:=by have:=(List.getElem?_eq_some_iff.1 hd).1;omega
      exact (hc j _ d (List.getElem?_eq_getElem hj) hd w s x rfl (h3 j _ x (List.getElem?_eq_getElem hj) hx)).wk h
    | map ks vs =>
      cases hle
      cases g <;> simp only [ObjOK] at hk ⊢
      obtain ⟨es,clock,h1,h2,h3,h4,h5⟩:=hk
      exact ⟨es,clock,h1,h2,h3,h4,fun i c e hc he => (h5 i c e hc he).wk h⟩
    | yld => cases hle;cases g <;> first | exact hk.elim | (simp only [ObjOK] at hk ⊢;exact ⟨hk.1,hk.2.1,hk.2.2.1,fun b hb => hk.2.2.2 b ((mine_wk h b).1 hb)⟩)
    | _ => cases hle;cases g <;> first | exact hk | exact hk.elim
  inj:=fun i j b hi hj => hs.inj i j b ((own_wk h i b).1 hi) ((own_wk h j b).1 hj)
  kout:=fun i b o ob hi hob hwr => by
    obtain ⟨o0,ho0,hle⟩:=h.back hob
    exact hs.kout i b o o0 ((own_wk h i b).1 hi) ho0 (((O.le_lives hle).2 o).1 hwr)
  kin:=hs.kin
  fgn:=fun b hb => by
    obtain ⟨h1,h2⟩:=hs.fgn b ((foreign_wk h b).1 hb)
    exact ⟨h1,fun hm => h2 ((mine_wk h b).1 hm)⟩
  glob:=hs.glob
theorem Evolve.wk {w0:World} {s0:S} {st':List O} (hE:Evolve w0 s0 w s) (h:StLe s.st st'):Evolve w0 s0 w (s.wk st') where
  os:=hE.os
  tape:=hE.tape
  output:=hE.output
  size:=hE.size
  keeps:=hE.keeps
  knew:=hE.knew
  block:=hE.block
  len:=hE.len
  objs:=fun i o g ho hg => by
    obtain ⟨o1,g1,h1,h2,t⟩:=hE.objs i o g ho hg
    obtain ⟨o2,h3,hle⟩:=h.forth h1
    refine ⟨o2,g1,h3,h2, ?_⟩
    cases o1 with
    | box t1 cs1 =>
      obtain ⟨cs2,rfl,hl,_⟩:=hle
      cases o with
      | box t0 cs0 =>
        obtain ⟨hg,hh | ⟨cs',hh,hc⟩⟩:=t
        · cases hh
        · cases hh;exact ⟨hg,.inr ⟨_,rfl,by omega⟩⟩
      | map ks vs => obtain ⟨_,hh | ⟨_,_,hh⟩⟩:=t <;> cases hh
      | tok e sz m => rcases t with hh | ⟨_,hh,_⟩ <;> cases hh
      | arr e sz v es => rcases t with hh | ⟨_,_,hh,_⟩ <;> cases hh
      | yld xs j go => obtain ⟨_,hh | ⟨_,_,hh,_⟩⟩:=t <;> cases hh
      | dead => cases t.1
    | _ => cases hle;exact t
  fresh:=fun i o' g b hi ho' hlv hg hat => by
    obtain ⟨o,ho,hle⟩:=h.back ho'
    exact hE.fresh i o g b hi ho (by rw [← (O.le_lives hle).1];exact hlv) hg hat
  noyld:=fun i xs k go hi ho' => by
    obtain ⟨o,ho,hle⟩:=h.back ho'
    cases o with
    | box => obtain ⟨_,h,_⟩:=hle;cases h
    | _ => cases hle <;> exact hE.noyld i _ _ _ hi ho
theorem Marks.wk {n0:Nat} {ds:List Deferred} {st':List O} (hm:Marks w s n0 ds) (h:StLe s.st st'):Marks w (s.wk st') n0 ds:=by
  refine ⟨fun d hd => ?_,hm.2⟩
  obtain ⟨r,h1,h2,h3,h4,h5⟩:=hm.1 d hd
  exact ⟨r,h1,h2,h3,fun hh => h4 ((mine_wk h r).1 hh),fun hh => h5 ((foreign_wk h r).1 hh)⟩
theorem ActOK.wk {n0:Nat} {a:Act} {e':Env} {st':List O} (ha:ActOK w s n0 e a) (hle:Env.le s.st e e') (h:StLe s.st st'):ActOK w (s.wk st') n0 e' a :=
  ⟨(ha.le hle).n,fun t => ((ha.le hle).get t).wk h,ha.marks.wk h⟩
theorem AW.pre {c:Code} {e':Env} {st':List O} (hle:Env.le st e e') (hst:StLe st st') (h:AW P gl r c Q e' st'):AW P gl r c Q e st:=fun n0 w s a hn hs0 hs ha => by
  subst hs0
  refine wpIn_mono (h n0 w (s.wk st') a hn rfl (hs.wk hst) (ha.wk hle hst)) fun x a' w' ⟨e'',s',h1,h2,h3,hq⟩ => ?_
  exact ⟨e'',s',h1,((Evolve.refl hs.wf).wk hst).trans hs.len (hs.wk hst).len h2,h3,hq⟩
theorem AW.tok {c:Code} (el:TypeId) (sz:Nat) (h:AW P gl r c Q e (st ++ [.tok el sz 0])):AW P gl r c Q e st:=fun n0 w s a hn hst hs ha => by
  subst hst
  have hS:Sim P gl w (s.push (.tok el sz 0) (.row (.slice none 0 0))):=hs.push (fun _ _ _ h => by cases h) (fun _ _ _ h => by cases h) (fun _ _ h => by cases h) (fun _ _ _ => by simp) ⟨[],by simp,.inl ⟨rfl,rfl⟩⟩ (fun _ _ h => by cases h)
  have hE:Evolve w s w (s.push (.tok el sz 0) (.row (.slice none 0 0))):=Evolve.push hs.wf (Evolve.refl hs.wf) _ _ (fun _ _ h => by cases h) (fun _ _ _ => by simp)
  refine wpIn_mono (h n0 w _ a hn rfl hS (ha.evolve hE hs.wf)) fun x a' w' ⟨e'',s',h1,h2,h3,hq⟩ => ?_
  exact ⟨e'',s',h1,hE.trans hs.len hS.len h2,h3,hq⟩
theorem AW.post {c:Code} (h:AW P gl r c (fun x e' st' => ∃ k e'' st'',st.length ≤ k ∧ Env.le (trimS k st') (e'.trim k) e'' ∧ StLe (trimS k st') st'' ∧ Q x e'' st'') e st):AW P gl r c Q e st:=fun n0 w s a hn hst hs ha => by
  refine wpIn_mono (h n0 w s a hn hst hs ha) fun x a' w' ⟨e',s',h1,h2,h3,k,e'',st'',hk,hle,hsl,hq⟩ => ?_
  exact ⟨e'',(s'.trim k).wk st'',(h1.trim k).wk hsl,(h2.trim hs.len h1.len (by rw [hst];exact hk)).wk hsl,(h3.trim k).wk hle hsl,hq⟩
theorem AW.loopN {c:Code} (I:Nat → Env → List O → Prop) (n:Nat) (h0:I n e st)
    (round:∀ n e st,I n e st → AW P gl r c (thenQ (fun e' st' => ∃ n',n' < n ∧ I n' e' st') Q) e st):AW P gl r (.loop c) Q e st:=fun n0 w s a hn hst hs ha => by
  refine wpIn_loop_ghost (fun k a' w' => ∃ e' s',Sim P gl w' s' ∧ Evolve w s w' s' ∧ ActOK w' s' n0 e' a' ∧ I k e' s'.st) n ⟨e,s,hs,Evolve.refl hs.wf,ha,hst ▸ h0⟩ fun k a' w' ⟨e',s',h1,h2,h3,h4⟩ => ?_
  refine wpIn_mono (round k e' s'.st h4 n0 w' s' a' (Nat.le_trans hn h2.size) rfl h1 h3) fun x a'' w'' ⟨e'',s'',k1,k2,k3,k4⟩ => ?_
  have hE:=h2.trans hs.len h1.len k2
  cases x with
  | normal =>
    obtain ⟨n',hlt,hI⟩:=k4
    exact ⟨n',hlt,e'',s'',k1,hE,k3,hI⟩
  | _ => exact ⟨e'',s'',k1,hE,k3,k4⟩
theorem AW.loop {α:Type} {c:Code} (n:Nat) (m:α → List (Nat × V)) (o:α → List O) (μ:α → Nat) (a0:α) (hn:n ≤ e.n) (h0:e.has st (m a0)) (hs:StLe st (o a0))
    (round:∀ a,AW P gl r c (thenQ (fun e' st' => ∃ a',μ a' < μ a ∧ ∃ k,(o a).length ≤ k ∧ n ≤ e'.n ∧ (e'.trim k).has (trimS k st') (m a') ∧ StLe (trimS k st') (o a')) Q) ⟨n,m a⟩ (o a)):AW P gl r (.loop c) Q e st:=by
  refine .pre (Env.le_of_has hn h0) hs ?_
  refine AW.loopN (fun k e' st' => ∃ a,k = μ a ∧ e' = ⟨n,m a⟩ ∧ st' = o a) (μ a0) ⟨a0,rfl,rfl,rfl⟩ ?_
  rintro k e' st' ⟨a,rfl,rfl,rfl⟩
  refine fun n0 w s b hn0 hst hs' ha => wpIn_mono (round a n0 w s b hn0 hst hs' ha) fun x b' w' ⟨e',s',h1,h2,h3,h4⟩ => ?_
  cases x with
  | normal =>
    obtain ⟨a',hlt,k,hk,hn',hh,hs''⟩:=h4
    exact ⟨⟨n,m a'⟩,(s'.trim k).wk (o a'),(h1.trim k).wk hs'',(h2.trim hs'.len h1.len (by rw [hst];exact hk)).wk hs'',(h3.trim k).wk (Env.le_of_has hn' hh) hs'',μ a',hlt,a',rfl,rfl,rfl⟩
  | _ => exact ⟨e',s',h1,h2,h3,h4⟩
theorem Rep.ofKeeps (hk:Keeps w s.K w' s.K) {v:V} {x:Value} (h:Rep w s v x):Rep w' s v x:=by
  induction h with
  | pure v x hp => exact .pure v x (hp.keeps hk)
  | undef x => exact .undef x
  | agg cs xs hl _ ih => exact .agg cs xs hl ih
  | tuple cs xs hl _ ih => exact .tuple cs xs hl ih
  | func fn fs cs xs ys hl hl' _ _ ih ih' => exact .func fn fs cs xs ys hl hl' ih ih'
  | iface t v x _ ih => exact .iface t v x ih
  | tok es id x hp ht => exact .tok es id x (hp.keeps hk) ht
  | ref id ver x h1 hr => exact .ref id ver x h1 hr
  | ptr id off b hb => exact .ptr id off b hb
  | rptr id ver off x h1 hr => exact .rptr id ver off x h1 hr
  | map id b hb => exact .map id b hb
  | yld id l F J Jx hb => exact .yld id l F J Jx hb
theorem shut {w0:World} {s0:S} {n:Nat} {o o':Obj} (hs:Sim P gl w s) (hE:Evolve w0 s0 w s) (hn:w.heap[n]? = some o) (hc:o.isCells = false) (hm:∀ es c,o ≠ .map es c) (h0:w0.heap.size ≤ n) (h1:¬ s.mine n) (h2:¬ s.foreign n) (hlate:s.late n) :
    Sim P gl (w.putObj n o') s ∧ Evolve w0 s0 (w.putObj n o') s ∧ Keeps w s.K (w.putObj n o') s.K:=by
  have hsz:(w.putObj n o').heap.size = w.heap.size:=World.putObj_size
  have hoth:∀ b,b ≠ n → (w.putObj n o').heap[b]? = w.heap[b]?:=fun b hb => World.putObj_heap_other hb
  have hk:Keeps w s.K (w.putObj n o') s.K:=by
    refine ⟨fun _ _ h => h,fun b off x _ hx => ?_,fun b es c _ hx => ?_,fun b _ m _ hx => ?_⟩
    · by_cases hb:b = n
      · subst hb
        cases o <;> first | (cases hc;done) | (simp [World.cell?,hn] at hx;done)
      · rw [World.cell?_of_block (w:=w) (hoth b hb)]
        exact hx
    · by_cases hb:b = n
      · subst hb
        rw [hn] at hx
        simp only [Option.some.injEq] at hx
        exact absurd hx (hm es c)
      · rw [hoth b hb]
        exact hx
    · by_cases hb:b = n
      · subst hb
        obtain ⟨cs,t,fr,q1,_⟩:=hx
        rw [hn] at q1
        simp only [Option.some.injEq] at q1
        subst q1
        cases hc
      · exact hx.same (hoth b hb)
  refine ⟨⟨hs.len,fun i ob g ho hg => ?_,hs.inj,hs.kout,fun b o hb => by rw [hsz];exact hs.kin b o hb,fun b hb => by rw [hsz];exact hs.fgn b hb,fun g => (hs.glob g).imp id fun k => globKeeps hk k⟩,⟨hE.os,hE.tape,hE.output,by rw [hsz];exact hE.size,hE.keeps.trans hk,hE.knew,fun b hb hm hf => by
    rw [hoth b (by omega)];exact hE.block b hb hm hf,hE.len,hE.objs,hE.fresh,hE.noyld⟩,hk⟩
  have hh:=hs.obj i ob g ho hg
  have hb:ob.lives = true → ∀ b,g.at = some b → (w.putObj n o').heap[b]? = w.heap[b]?:=fun hl b hat => hoth b fun hb => h1 ⟨i,ob,g,ho,hl,hg,hb ▸ hat⟩
  cases ob <;> cases g <;> simp only [ObjOK] at hh ⊢
  · obtain ⟨arr,ha,hl,hr⟩:=hh
    exact ⟨arr,(hb rfl _ rfl).trans ha,hl,fun i c x hc hx => (hr i c x hc hx).ofKeeps hk⟩
  · obtain ⟨es,clock,ha,hk1,hv,h1,h2⟩:=hh
    exact ⟨es,clock,(hb rfl _ rfl).trans ha,hk1,hv,fun i c e hc he => (h1 i c e hc he).keeps hk,fun i c e hc he => (h2 i c e hc he).ofKeeps hk⟩
  · obtain ⟨xs,h1,h2⟩:=hh
    refine ⟨xs,h1, ?_⟩
    rcases h2 with h2 | ⟨g,cap,cur,rfl,h3,h4,h5⟩
    · exact .inl h2
    · exact .inr ⟨g,cap,cur,rfl,h3,(hb rfl g rfl).trans h4,h5⟩
  · obtain ⟨xs,⟨h1,h2⟩,h6,h7,h8,h9⟩:=hh
    refine ⟨xs,⟨h1, ?_⟩,h6,h7,h8,fun j c y hc hy => (h9 j c y hc hy).keeps hk⟩
    rcases h2 with h2 | ⟨g,cap,cur,rfl,h3,h4,h5⟩
    · exact .inl h2
    · exact .inr ⟨g,cap,cur,rfl,h3,(hb rfl g rfl).trans h4,h5⟩
  · obtain ⟨h3,h4,h5,h6⟩:=hh
    rename_i xs k go l F J Jx
    have hln:=hlate i xs k l go F J Jx ho hg
    exact ⟨h4.stable _ _ _ _ _ _ _ h3 (fun b hF => hoth b fun hb => h2 (hb ▸ ⟨i,xs,k,l,go,F,J,Jx,ho,hg,hF⟩)) rfl rfl rfl (by rw [hsz];exact Nat.le_refl _) hk (fun _ _ h => .inl h) (fun b hb => hoth b (by omega)) (fun b o hb => by rw [hsz];exact hs.kin b o hb),h4,by rw [hsz];exact h5,h6⟩
theorem leaves {fn:Func} {tmps:Array Value} {w0:World} {s0:S} {R:Ending → World → Prop} (hs0:Sim P gl w0 s0):∀ (ds:List Deferred) (w:World),Sim P gl w s → Evolve w0 s0 w s → Marks w s w0.heap.size ds →
    (∀ w',Sim P gl w' s → Evolve w0 s0 w' s → Keeps w s.K w' s.K → ∃ v,(results fn tmps).run P w' = .ok v w' ∧ R (.returned v) w') → LeavesInM Fence.wide 0 P fn tmps R ds .returning w:=by
  intro ds
  induction ds with
  | nil => intro w hs hE _ h;exact h w hs hE (Keeps.refl _ _)
  | cons d ds ih =>
    intro w hs hE hm h
    obtain ⟨r,h1,h2,h3,h4,h5⟩:=hm.1 d (by simp)
    obtain ⟨k1,k2,k3⟩:=shut (o':=.deferred none) hs hE h3 rfl (by simp) h2 h4 h5 ((hs0.late h2).evolve hE hs0.len)
    refine ⟨by simp,.inl ⟨r,w.putObj r (.deferred none),h1,run_takeDeferred h3,ih _ k1 k2 ⟨fun d' hd' => ?_,(List.pairwise_cons.1 hm.2).2⟩ fun w' a b c => h w' a b (k3.trans c)⟩⟩
    obtain ⟨r',g1,g2,g3,g4,g5⟩:=hm.1 d' (by simp [hd'])
    have hne:r' ≠ r:=fun he => (List.pairwise_cons.1 hm.2).1 d' hd' r h1 (he ▸ g1)
    exact ⟨r',g1,g2,by rw [World.putObj_heap_other hne];exact g3,g4,g5⟩
def resP (P:Program) (e:Env) (st:List O):List ResultVar → (List V → Prop) → Prop
  | [],K => K []
  | .tmp t :: l,K => resP P e st l fun vs => K (e.get t :: vs)
  | .cell a t :: l,K => loadP P t st (e.get a) fun v => resP P e st l fun vs => K (v :: vs)
def resV (vs:List V):V:=match vs with
  | [v] => v
  | vs => .tuple vs
def resSem (tmps:Array Value):ResultVar → Sem Value
  | .tmp t => pure (tmps.getD t undef)
  | .cell b t => do loadVar t (← asAddr (tmps.getD b undef))
theorem results_run {fn:Func} {tmps:Array Value} {xs:List Value} (h:(fn.results.toList.mapM (resSem tmps)).run P w = .ok xs w):(results fn tmps).run P w = .ok (if h:xs.toArray.size = 1 then xs.toArray[0] else .tuple xs.toArray) w:=by
  have he:results fn tmps = (do
    let vs ← fn.results.mapM (resSem tmps)
    pure (if h:vs.size = 1 then vs[0] else .tuple vs)):=by
    have:resSem tmps = (fun (x:ResultVar) => (match x with
      | .tmp t => pure (tmps.getD t undef)
      | .cell a t => do loadVar t (← asAddr (tmps.getD a undef)):Sem Value)):=by
      funext x
      cases x <;> rfl
    rw [this]
    rfl
  have h2:(fn.results.mapM (resSem tmps)).run P w = .ok xs.toArray w:=by
    rw [Array.mapM_eq_mapM_toList]
    have:(List.toArray <$> fn.results.toList.mapM (resSem tmps)) = (fn.results.toList.mapM (resSem tmps)) >>= fun l => pure l.toArray:=rfl
    rw [this,Sem.run_bind,h]
    rfl
  rw [he,Sem.run_bind,h2]
  rfl
theorem resP_sound {n0:Nat} {a:Act} (hs:Sim P gl w s) (ha:ActOK w s n0 e a):∀ (l:List ResultVar) (K:List V → Prop),resP P e s.st l K →
    ∃ vs xs,(l.mapM (resSem a.tmps)).run P w = .ok xs w ∧ RepL w s vs xs ∧ K vs:=by
  intro l
  induction l with
  | nil => intro K h;exact ⟨[],[],rfl,⟨rfl,by simp⟩,h⟩
  | cons x l ih =>
    intro K h
    have fin:∀ (v:V) (z:Value),(resSem a.tmps x).run P w = .ok z w → Rep w s v z → (resP P e s.st l fun vs => K (v :: vs)) →
      ∃ vs xs,((x :: l).mapM (resSem a.tmps)).run P w = .ok xs w ∧ RepL w s vs xs ∧ K vs:=fun v z hz hv h => by
      obtain ⟨vs,xs,h1,h2,h3⟩:=ih _ h
      refine ⟨v :: vs,z :: xs, ?_,⟨by simp [h2.1],fun i c y hc hy => ?_⟩,h3⟩
      · rw [List.mapM_cons,Sem.run_bind,hz]
        simp only [Result.andThen_ok]
        rw [Sem.run_bind,h1]
        rfl
      · cases i with
        | zero => simp only [List.getElem?_cons_zero,Option.some.injEq] at hc hy;subst hc hy;exact hv
        | succ i => exact h2.2 i c y (by simpa using hc) (by simpa using hy)
    cases x with
    | tmp t => exact fin (e.get t) (a.tmps.getD t undef) rfl (ha.get t) h
    | cell b t =>
      obtain ⟨v,z,hz,hv,hK⟩:=load_sound hs (ha.get b) h
      refine fin v z ?_ hv hK
      unfold Instr.loadAt at hz
      show Sem.run P (do loadVar t (← asAddr (a.tmps.getD b undef))) w = _
      cases hx:a.tmps.getD b undef <;> rw [hx] at hz <;> try (simp [Instr.sureAddr,Sem.run_bind,stuck] at hz;done)
      rename_i p
      cases p with
      | none => simp [Instr.sureAddr,Sem.run_bind,stuck] at hz
      | some p => exact hz
def env0 (n:Nat) (args:List V):Env:=⟨args.length + (n - args.length),(List.range args.length).zip args⟩
theorem getM_zip:∀ (args:List V) (k:Nat) (t:Nat),getM ((List.range' k args.length).zip args) t = if k ≤ t then args.getD (t - k) .undef else .undef:=by
  intro args
  induction args with
  | nil => intro k t;simp [getM]
  | cons v args ih =>
    intro k t
    simp only [List.length_cons,List.range'_succ,List.zip_cons_cons,getM]
    by_cases h:k = t
    · subst h;simp
    · rw [if_neg h,ih]
      by_cases h2:k + 1 ≤ t
      · rw [if_pos h2,if_pos (by omega),show t - k = (t - (k + 1)) + 1 by omega]
        simp
      · rw [if_neg h2,if_neg (by omega)]
theorem Call.of_body {k:FuncId} {fn:Func} {c:Code} {args:List V} {K:V → List O → Prop} (hf:P.funcs[k]? = some fn) (hb:fn.body = some c)
    (h:AW P gl none c (fun x e' st' => (x = .normal ∨ x = .ret) ∧ resP P e' st' fn.results.toList fun vs => ∃ j v st'',st.length ≤ j ∧ V.le (trimS j st') ((resV vs).trim j) v ∧ StLe (trimS j st') st'' ∧ K v st'') (env0 fn.ntmps args) st):Call P gl k args st K:=by
  intro w s xs hst hs hxs
  refine callsIn_of_wp_marks hf hb trivial ?_
  have h0:ActOK w s w.heap.size (env0 fn.ntmps args) { tmps:=xs.toArray ++ Array.replicate (fn.ntmps - xs.toArray.size) undef,defers:=[] }:=by
    refine ⟨?_,fun t => ?_,⟨by simp,by simp⟩⟩
    · simp [env0,hxs.1]
    · simp only [env0,Env.get]
      rw [List.range_eq_range',getM_zip]
      simp only [Nat.zero_le,if_true,Nat.sub_zero]
      rw [List.getD_eq_getElem?_getD,Array.getD_eq_getD_getElem?]
      cases hc:args[t]? with
      | none => exact .undef _
      | some v =>
        have hlt:t < xs.length:=by have:=(List.getElem?_eq_some_iff.1 hc).1;rw [← hxs.1];exact this
        rw [Array.getElem?_append_left (by simpa using hlt)]
        simp only [List.getElem?_toArray,List.getElem?_eq_getElem hlt,Option.getD_some]
        exact hxs.2 t v _ hc (List.getElem?_eq_getElem hlt)
  refine wpIn_mono (h w.heap.size w s _ (Nat.le_refl _) hst hs h0) fun x a' w' ⟨e',s',h1,h2,h3,hx,h4⟩ => ?_
  have hgoal:LeavesInM Fence.wide 0 P fn a'.tmps (fun e w' => ∃ v x s',e = .returned x ∧ Sim P gl w' s' ∧ Evolve w s w' s' ∧ Rep w' s' v x ∧ K v s'.st) a'.defers .returning w':=by
    refine leaves hs a'.defers w' h1 h2 h3.marks fun w2 g1 g2 g3 => ?_
    have ha2:ActOK w2 s' 0 e' { a' with defers:=[] }:=⟨h3.n,fun t => (h3.get t).ofKeeps g3,⟨by simp,by simp⟩⟩
    obtain ⟨vs,ys,k1,k2,j,v,st'',hj,hvl,hsl,hK⟩:=resP_sound g1 ha2 fn.results.toList _ h4
    have hrun:=results_run (fn:=fn) k1
    refine ⟨_,hrun,v,_,(s'.trim j).wk st'',rfl,(g1.trim j).wk hsl,(g2.trim hs.len g1.len (by rw [hst];exact hj)).wk hsl, ?_,hK⟩
    refine Rep.wk hsl (hvl w2 (s'.trim j) _ rfl (Rep.trim ?_))
    split
    · rename_i hy
      obtain ⟨y,rfl⟩:=List.length_eq_one_iff.1 (by simpa using hy)
      obtain ⟨v,rfl⟩:=List.length_eq_one_iff.1 (by rw [k2.1];rfl:vs.length = 1)
      exact k2.2 0 v y rfl rfl
    · rename_i hy
      have:resV vs = .tuple vs:=by
        unfold resV
        split
        · rename_i v
          exact absurd (by have:=k2.1;simpa using this.symm) hy
        · rfl
      rw [this]
      exact .tuple _ _ k2.1 k2.2
  rcases hx with rfl | rfl
  · exact hgoal
  · exact hgoal
end
end Go.Duo
