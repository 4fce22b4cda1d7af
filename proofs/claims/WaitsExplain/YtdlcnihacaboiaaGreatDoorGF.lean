/-
  A part of the proof.
-/
import Derived.Test.YtdlcnihacaboiaaGreatDoorGE
import Derived.IntWalk
set_option linter.all false
namespace Go.Duo
open Go
section
variable {P:Program} {gl:Nat → V} {r:Option Nat} {e:Env} {st:List O} {Q:Exit → Env → List O → Prop} {x y:V}
def fitB (e:Env):Option Tmp → Bool
  | none => true
  | some d => Nat.blt d e.n
theorem fits_of {d:Option Tmp} (h:fitB e d = true):e.fits d:=by
  cases d with
  | none => trivial
  | some d => simpa [fitB,Env.fits] using h
theorem Call.body {k:FuncId} {fn:Func} {c:Code} {args:List V} {K:V → List O → Prop} (n:Nat) (m:List (Nat × V)) (hf:P.funcs[k]? = some fn) (hb:fn.body = some c) (he:env0 fn.ntmps args = ⟨n,m⟩)
    (h:AW P gl none c (fun x e' st' => (x = .normal ∨ x = .ret) ∧ resP P e' st' fn.results.toList fun vs => ∃ j v st'',st.length ≤ j ∧ V.le (trimS j st') ((resV vs).trim j) v ∧ StLe (trimS j st') st'' ∧ K v st'') ⟨n,m⟩ st):Call P gl k args st K :=
  Call.of_body hf hb (he ▸ h)
theorem storeP_mono {K K':List O → Prop} (hk:∀ v,K v → K' v) {t:TypeId} (h:storeP P t st x y K):storeP P t st x y K':=by
  unfold storeP at h ⊢
  cases hl:lay P t with
  | none => simp [hl] at h
  | some ng =>
    rw [hl] at h
    cases x <;> try exact h.elim
    · rename_i id off
      try simp only at h ⊢
      cases ho:st[id]? with
      | none => simp [ho] at h
      | some o =>
        rw [ho] at h
        cases o <;> try exact h.elim
        exact ⟨h.1,h.2.1,h.2.2.1,hk _ h.2.2.2⟩
    · rename_i id ver off
      try simp only at h ⊢
      cases ho:st[id]? with
      | none => simp [ho] at h
      | some o =>
        rw [ho] at h
        cases o <;> try exact h.elim
        exact ⟨h.1,h.2.1,h.2.2.1,h.2.2.2.1,h.2.2.2.2.1,h.2.2.2.2.2.1,h.2.2.2.2.2.2.1,hk _ h.2.2.2.2.2.2.2⟩
theorem makeP_mono {K K':V → List O → Prop} (hk:∀ v st',K v st' → K' v st') {t:TypeId} (h:makeP P t st x y K):makeP P t st x y K':=by
  unfold makeP at h ⊢
  cases he:elt P t with
  | none => simp [he] at h
  | some a =>
    obtain ⟨e,sz,by_⟩:=a
    rw [he] at h
    simp only at h ⊢
    split at h
    · exact ⟨h.1,h.2.1,h.2.2.1,h.2.2.2.1,h.2.2.2.2.1,h.2.2.2.2.2.1,h.2.2.2.2.2.2.1,h.2.2.2.2.2.2.2.1,hk _ _ h.2.2.2.2.2.2.2.2⟩
    · exact h.elim
theorem setP_mono {K K':List O → Prop} (hk:∀ st',K st' → K' st') {t:TypeId} {k v:V} (h:setP P st t x k v K):setP P st t x k v K':=by
  unfold setP at h ⊢
  split at h
  · exact hk _ h
  · exact h.elim
theorem delP_mono {K K':List O → Prop} (hk:∀ st',K st' → K' st') {t:TypeId} {k:V} (h:delP P st t x k K):delP P st t x k K':=by
  unfold delP at h ⊢
  split at h
  · exact hk _ h
  · exact h.elim
theorem buildSliceP_mono {K K':V → List O → Prop} (hk:∀ v st',K v st' → K' v st') {t:TypeId} {len:Nat} {ps:List (Nat × V)} (h:buildSliceP P t st len ps K):buildSliceP P t st len ps K':=by
  unfold buildSliceP at h ⊢
  cases he:elt P t with
  | none => simp [he] at h
  | some o =>
    obtain ⟨e,sz,by_⟩:=o
    rw [he] at h
    simp only at h ⊢
    split at h
    · rw [if_pos (by assumption)];exact hk _ _ h
    · rw [if_neg (by assumption)];exact ⟨h.1,h.2.1,h.2.2.1,hk _ _ h.2.2.2⟩
theorem appendP_mono {K K':V → List O → Prop} (hk:∀ v st',K v st' → K' v st') {t:TypeId} (h:appendP P t st x y K):appendP P t st x y K':=by
  unfold appendP at h ⊢
  cases he:elt P t with
  | none => simp [he] at h
  | some esb =>
    obtain ⟨e,sz,by_⟩:=esb
    cases hr:rowOf y with
    | none => simp [he,hr] at h
    | some es2 =>
      rw [he,hr] at h
      simp only at h ⊢
      cases x <;> try exact h.2.elim
      · rename_i es tk
        cases tk with
        | none => exact h.2.elim
        | some id =>
          simp only at h ⊢
          cases ho:st[id]? with
          | none => simp [ho] at h
          | some o =>
            rw [ho] at h
            cases o <;> try exact h.2.elim
            obtain ⟨h0,h1,h2,h3,h4,h5,h6⟩:=h
            exact ⟨h0,h1,h2,h3,h4,h5,hk _ _ h6⟩
      rotate_left
      · rename_i id ver
        simp only at h ⊢
        cases ho:st[id]? with
        | none => simp [ho] at h
        | some o =>
          rw [ho] at h
          cases o <;> try exact h.2.elim
          obtain ⟨h0,h1,h2,h3,h4,h5,h6⟩:=h
          exact ⟨h0,h1,h2,h3,h4,h5,hk _ _ h6⟩
      · obtain ⟨h0,h1,h2,h3 | ⟨k,v,h4,h5⟩⟩:=h
        · exact ⟨h0,h1,h2,.inl (hk _ _ h3)⟩
        · exact ⟨h0,h1,h2,.inr ⟨k,v,h4,hk _ _ h5⟩⟩
theorem Call.mono {k:FuncId} {args:List V} {K K':V → List O → Prop} (h:Call P gl k args st K) (hk:∀ v st',K v st' → K' v st'):Call P gl k args st K':=fun w s xs hst hs hxs =>
  CallsIn.mono (h w s xs hst hs hxs) fun _ _ ⟨v,x,s',h1,h2,h3,h4,h5⟩ => ⟨v,x,s',h1,h2,h3,h4,hk _ _ h5⟩
theorem step1_mono {ρ:Operand → V} {op:Op} {K K':V → List O → Prop} (hk:∀ v st',K v st' → K' v st') (h:step1 P gl ρ st op K):step1 P gl ρ st op K':=by
  by_cases hc:calm op = true
  · obtain ⟨v,h1,h2⟩:=step1_det hc h
    exact h1 _ (hk _ _ h2)
  · cases op <;> simp only [calm,not_true_eq_false] at hc <;> simp only [step1] at h ⊢
    case store => exact storeP_mono (fun _ => hk _ _) h
    case makeSlice => exact makeP_mono hk h
    case makeMap t r => cases r with
      | some r => exact h.elim
      | none => exact hk _ _ h
    case mapUpdate => exact setP_mono (fun _ => hk _ _) h
    case insert => exact setP_mono (fun _ => hk _ _) h
    case box => exact ⟨h.1,hk _ _ h.2⟩
    case alloc t =>
      cases hz:zro P t with
      | none => simp [hz] at h
      | some z => rw [hz] at h;exact hk _ _ h
    case buildSlice => exact ⟨h.1,buildSliceP_mono hk h.2⟩
    case call c =>
      cases hcal:c.callee with
      | value f =>
        rw [hcal] at h
        simp only at h ⊢
        cases hf:ρ f <;> rw [hf] at h <;> try exact h.elim
        · rename_i fn fs cs
          cases fn <;> try exact h.elim
          exact ⟨h.1,Call.mono h.2 hk⟩
        · rename_i id
          simp only at h ⊢
          unfold yldP at h ⊢
          cases ho:st[id]? with
          | none => rw [ho] at h;exact h.elim
          | some o =>
            rw [ho] at h
            cases o with
            | yld xs i go =>
              cases go
              · exact h.elim
              · exact ⟨h.1,h.2.1,h.2.2.1,hk _ _ h.2.2.2.1,hk _ _ h.2.2.2.2⟩
            | _ => exact h.elim
      | invoke => rw [hcal] at h;exact h.elim
      | builtin b =>
        rw [hcal] at h hc
        cases b <;> simp only [not_true_eq_false] at hc <;> try exact h.elim
        case append =>
          simp only at h ⊢
          split at h
          · exact ⟨h.1,appendP_mono hk h.2⟩
          · exact h.elim
        case delete =>
          simp only at h ⊢
          split at h
          · exact delP_mono (fun _ => hk _ _) h
          · exact h.elim
    all_goals exact h.elim
theorem awL_no {ops:Array Oper} {o:Oper} {rest:List Oper} {K:Env → List O → Prop} {j d:Nat} {want:Bool} (hg:o.guard = some (j,want)) (hd:(ops[j]?).bind (·.dst) = some d) (hv:e.get d = .bool (!want)) (hf:fitB e o.dst = true)
    (k:awL P gl ops rest (e.put o.dst (.tuple [])) st K):awL P gl ops (o :: rest) e st K:=by
  unfold awL
  refine ⟨fits_of hf, ?_⟩
  rw [hg]
  simp only [hd]
  rw [hv]
  simp only [Split]
  cases want
  · refine ⟨fun _ => ?_,fun h => by cases h⟩
    rw [if_neg (by simp)];exact k
  · refine ⟨fun h => (by cases h),fun _ => ?_⟩
    rw [if_pos rfl];exact k
theorem awL_hole {ops:Array Oper} {o:Oper} {rest:List Oper} {K:Env → List O → Prop} {j d:Nat} {want:Bool} (hg:o.guard = some (j,want)) (hd:(ops[j]?).bind (·.dst) = some d) (hv:e.get d = .tuple []) (hf:fitB e o.dst = true)
    (k:awL P gl ops rest (e.put o.dst (.tuple [])) st K):awL P gl ops (o :: rest) e st K:=by
  unfold awL
  refine ⟨fits_of hf, ?_⟩
  rw [hg]
  simp only [hd]
  rw [hv]
  exact k
theorem awA_hole {ops:Array Oper} {o:Oper} {rest:List Oper} {ups:List Up} {K:Env → List O → Prop} {j d:Nat} {want:Bool} (hg:o.guard = some (j,want)) (hd:(ops[j]?).bind (·.dst) = some d) (hv:e.get d = .tuple []) (hf:fitB e o.dst = true)
    (k:awA P gl ops rest (e.put o.dst (.tuple [])) st ups K):awA P gl ops (o :: rest) e st ups K:=by
  unfold awA
  refine ⟨fits_of hf, ?_⟩
  rw [hg]
  simp only [hd]
  rw [hv]
  exact k
theorem awA_no {ops:Array Oper} {o:Oper} {rest:List Oper} {ups:List Up} {K:Env → List O → Prop} {j d:Nat} {want:Bool} (hg:o.guard = some (j,want)) (hd:(ops[j]?).bind (·.dst) = some d) (hv:e.get d = .bool (!want)) (hf:fitB e o.dst = true)
    (k:awA P gl ops rest (e.put o.dst (.tuple [])) st ups K):awA P gl ops (o :: rest) e st ups K:=by
  unfold awA
  refine ⟨fits_of hf, ?_⟩
  rw [hg]
  simp only [hd,hv]
  rw [if_neg (by cases want <;> simp)]
  exact k
theorem AW.seqK {x y:Code} (h:∀ K':Env → List O → Prop,(∀ e st,AW P gl r y Q e st → K' e st) → AW P gl r x (thenQ K' Q) e st):AW P gl r (.seq x y) Q e st:=.seq (h _ fun _ _ h => h)
theorem AW.condK {c:Operand} {x y:Code} (b:Bool) (hc:e.ev gl c = .bool b) (hx:b = true → AW P gl r x Q e st) (hy:b = false → AW P gl r y Q e st):AW P gl r (.cond c x y) Q e st:=.cond hc hx hy
end
end Go.Duo

namespace Go.Duo
open Go
section
variable {P:Program} {gl:Nat → V} {r:Option Nat} {e:Env} {st:List O} {w:World} {s:S} {Q:Exit → Env → List O → Prop}
theorem PR.trim_id {K:Nat → Nat → Prop} {k:Nat} {v:V} {x:Value} (h:PR w K v x):v.trim k = v:=by
  have mapid:∀ {cs:List V} {xs:List Value},cs.length = xs.length → (∀ (i:Nat) (c:V) (x:Value),cs[i]? = some c → xs[i]? = some x → c.trim k = c) → cs.map (V.trim k) = cs:=fun {cs xs} hl ih => by
    apply List.ext_getElem (by simp)
    intro i h1 h2
    rw [List.getElem_map]
    exact ih i _ (xs[i]'(by omega)) (List.getElem?_eq_getElem h2) (List.getElem?_eq_getElem _)
  induction h with
  | agg cs xs hl _ ih => simp only [V.trim,trimL_eq,mapid hl ih]
  | tuple cs xs hl _ ih => simp only [V.trim,trimL_eq,mapid hl ih]
  | func fn fs cs xs ys hl hl' _ _ ih ih' => simp only [V.trim,trimL_eq,mapid hl ih,mapid hl' ih']
  | iface t v x _ ih => simp only [V.trim,ih]
  | _ => rfl
theorem Rep.trim_id (hl:s.g.length = s.st.length) {k:Nat} (hk:s.st.length ≤ k) {v:V} {x:Value} (h:Rep w s v x):v.trim k = v:=by
  have mapid:∀ {cs:List V} {xs:List Value},cs.length = xs.length → (∀ (i:Nat) (c:V) (x:Value),cs[i]? = some c → xs[i]? = some x → c.trim k = c) → cs.map (V.trim k) = cs:=fun {cs xs} hl ih => by
    apply List.ext_getElem (by simp)
    intro i h1 h2
    rw [List.getElem_map]
    exact ih i _ (xs[i]'(by omega)) (List.getElem?_eq_getElem h2) (List.getElem?_eq_getElem _)
  induction h with
  | pure v x hp => exact hp.trim_id
  | undef x => rfl
  | agg cs xs hl _ ih => simp only [V.trim,trimL_eq,mapid hl ih]
  | tuple cs xs hl _ ih => simp only [V.trim,trimL_eq,mapid hl ih]
  | func fn fs cs xs ys hl hl' _ _ ih ih' => simp only [V.trim,trimL_eq,mapid hl ih,mapid hl' ih']
  | iface t v x _ ih => simp only [V.trim,ih]
  | tok es id x hp ht =>
    obtain ⟨o,ho,_⟩:=ht
    have:=(List.getElem?_eq_some_iff.1 ho).1
    simp only [V.trim,if_pos (show id < k by omega)]
  | ref id ver x h1 ht =>
    obtain ⟨o,ho,_⟩:=ht
    have:=(List.getElem?_eq_some_iff.1 ho).1
    simp only [V.trim,if_pos (show id < k by omega)]
  | rptr id ver off x h1 ht =>
    obtain ⟨o,ho,_⟩:=ht
    have:=(List.getElem?_eq_some_iff.1 ho).1
    simp only [V.trim,if_pos (show id < k by omega)]
  | ptr id off b hb =>
    have:=(List.getElem?_eq_some_iff.1 hb).1
    simp only [V.trim,if_pos (show id < k by omega)]
  | map id b hb =>
    have:=(List.getElem?_eq_some_iff.1 hb).1
    simp only [V.trim,if_pos (show id < k by omega)]
  | yld id l F J Jx hb =>
    have:=(List.getElem?_eq_some_iff.1 hb).1
    simp only [V.trim,if_pos (show id < k by omega)]
def Clo (st:List O):Prop:=∀ k,st.length ≤ k → st.map (O.trim k) = st
theorem Sim.clo (h:Sim P gl w s):Clo s.st:=fun k hk => by
  apply List.ext_getElem (by simp)
  intro i h1 h2
  rw [List.getElem_map]
  have ho:s.st[i]? = some s.st[i]:=List.getElem?_eq_getElem h2
  have hg:s.g[i]? = some (s.g[i]'(by rw [h.len];exact h2)):=List.getElem?_eq_getElem _
  have hk':=h.obj i _ _ ho hg
  generalize s.st[i] = o at hk'
  generalize s.g[i]'(by rw [h.len];exact h2) = g at hk'
  cases o with
  | box t cs =>
    cases g <;> simp only [ObjOK] at hk'
    obtain ⟨arr,ha,hl,hr⟩:=hk'
    simp only [O.trim,O.box.injEq,true_and]
    apply List.ext_getElem (by simp)
    intro j h3 h4
    rw [List.getElem_map]
    exact (hr j _ (arr[j]'(by omega)) (List.getElem?_eq_getElem h4) (Array.getElem?_eq_getElem _)).trim_id h.len hk
  | map ks vs =>
    cases g <;> simp only [ObjOK] at hk'
    obtain ⟨es,clock,ha,hl,hv,_,hr⟩:=hk'
    simp only [O.trim,O.map.injEq,true_and]
    apply List.ext_getElem (by simp)
    intro j h3 h4
    rw [List.getElem_map]
    exact (hr j _ (es[j]'(by omega)) (List.getElem?_eq_getElem h4) (Array.getElem?_eq_getElem _)).trim_id h.len hk
  | _ => rfl
theorem Call.clo {k:FuncId} {args:List V} {K:V → List O → Prop} (h:Clo st → Call P gl k args st K):Call P gl k args st K:=fun w s xs hst hs hxs => h (hst ▸ hs.clo) w s xs hst hs hxs
theorem AW.clo {c:Code} (h:Clo st → AW P gl r c Q e st):AW P gl r c Q e st:=fun n0 w s a hn hst hs ha => h (hst ▸ hs.clo) n0 w s a hn hst hs ha
theorem Clo.trim (h:Clo st):trimS st.length st = st:=by
  unfold trimS
  rw [List.take_of_length_le (Nat.le_refl _)]
  exact h _ (Nat.le_refl _)
theorem Clo.trim_append (h:Clo st) (l:List O):trimS st.length (st ++ l) = st:=by
  unfold trimS
  rw [List.take_left]
  exact h _ (Nat.le_refl _)
def Real (v:V):Prop:=∃ (w:World) (K:Nat → Nat → Prop) (x:Value),PR w K v x
theorem Real.sl {es:List V} (h:Real (.sl es none)):es.length ≤ maxLen ∧ ∀ c ∈ flat es,Real c:=by
  obtain ⟨w,K,x,hp⟩:=h
  obtain ⟨a,cap,sz,y,_,h1,h2,h3,h4,h5⟩:=hp.sl_inv
  refine ⟨by omega,fun c hc => ?_⟩
  obtain ⟨j,hj⟩:=List.mem_iff_getElem?.1 hc
  exact ⟨w,K,_,(h5 j c hj).2⟩
theorem Real.agg {cs:List V} (h:Real (.agg cs)):∀ c ∈ cs,Real c:=by
  obtain ⟨w,K,x,hp⟩:=h
  cases hp with
  | agg _ xs hl h =>
    intro c hc
    obtain ⟨i,hi⟩:=List.mem_iff_getElem?.1 hc
    have hlt:i < xs.length:=by rw [← hl];exact (List.getElem?_eq_some_iff.1 hi).1
    exact ⟨w,K,_,h i c _ hi (List.getElem?_eq_getElem hlt)⟩
theorem Real.dptr {cs:List V} (h:Real (.dptr cs)):∀ c ∈ cs,Real c:=by
  obtain ⟨w,K,x,hp⟩:=h
  cases hp with
  | dptr _ b o x hc h =>
    intro c hc'
    obtain ⟨i,hi⟩:=List.mem_iff_getElem?.1 hc'
    exact ⟨w,K,_,h i c hi⟩
theorem getD_map {α:Type} (f:α → V) (l:List α) (i:Nat) (h:i < l.length) (u:V):(l.map f).getD i u = f l[i]:=by
  rw [List.getD_eq_getElem?_getD,List.getElem?_map,List.getElem?_eq_getElem h];rfl
theorem i64_ok {n:Int} (h1:-9223372036854775808 ≤ n) (h2:n ≤ 9223372036854775807):IntKind.wrap .i64 n = n:=IntWalk.i64_in n ⟨h1,h2⟩
theorem st_get0 (l:List O):(st ++ l)[st.length]? = l[0]?:=by rw [List.getElem?_append_right (Nat.le_refl _),Nat.sub_self]
theorem st_get (l:List O) (n:Nat):(st ++ l)[st.length + n]? = l[n]?:=by rw [List.getElem?_append_right (by omega),Nat.add_sub_cancel_left]
theorem st_set0 (l:List O) (o:O):(st ++ l).set st.length o = st ++ l.set 0 o:=by rw [List.set_append_right _ _ (Nat.le_refl _),Nat.sub_self]
theorem st_set (l:List O) (n:Nat) (o:O):(st ++ l).set (st.length + n) o = st ++ l.set n o:=by rw [List.set_append_right _ _ (by omega),Nat.add_sub_cancel_left]
theorem st_len (l:List O):(st ++ l).length = st.length + l.length:=List.length_append
theorem c_agg (cs:List V):(V.agg cs).cells = cs:=rfl
theorem S0:(∀ (gl:Nat → V) (e:Env) (t:Nat),e.ev gl (.tmp t) = e.get t) ∧ (∀ (gl:Nat → V) (e:Env) (v:Value),e.ev gl (.const v) = V.ofConst v) ∧ (∀ (gl:Nat → V) (e:Env) (f:Nat),e.ev gl (.func f) = .func (.func f) [] []) ∧
    (∀ (n:Nat) (m:List (Nat × V)) (t:Nat),Env.get ⟨n,m⟩ t = getM m t) ∧ (∀ (n:Nat) (m:List (Nat × V)) (d:Nat) (v:V),Env.put ⟨n,m⟩ (some d) v = ⟨n,(d,v) :: m⟩) ∧ (∀ (e:Env) (v:V),e.put none v = e) ∧
    (∀ (a:Nat) (v:V) (m:List (Nat × V)) (t:Nat),getM ((a,v) :: m) t = if a = t then v else getM m t) ∧
    (∀ (k:IntKind) (n:Int),V.ofConst (.int k n) = .int k n) ∧ (∀ b:Bool,V.ofConst (.bool b) = .bool b) ∧ (V.ofConst (.slice none 0 0) = .nil) ∧ (V.ofConst (.pointer none) = .nilptr) ∧ (V.ofConst .nilFunc = .nilfunc) ∧ (V.ofConst .nilIface = .niliface) ∧ (∀ s:ByteArray,V.ofConst (.string s) = .str s.data.toList) ∧
    (∀ (a:Nat) (v:V) (n:Nat) (m:List (Nat × V)),Env.m ⟨n,(a,v) :: m⟩ = (a,v) :: m):=by
  refine ⟨fun _ _ _ => rfl,fun _ _ _ => rfl,fun _ _ _ => rfl,fun _ _ _ => rfl,fun _ _ _ _ => rfl,fun _ _ => rfl,fun _ _ _ _ => rfl,fun _ _ => rfl,fun _ => rfl,rfl,rfl,rfl,rfl,fun _ => rfl,fun _ _ _ _ => rfl⟩
theorem S1:((false = true) = False) ∧ (∀ {α:Type} (a:α) (l m:List α),(a :: l) ++ m = a :: (l ++ m)) ∧ (∀ {α:Type} (l:List α),[] ++ l = l) ∧ (∀ {α:Type} (l:List α),l ++ [] = l) ∧ (∀ {α:Type} (a:α) (l:List α),(a :: l)[0]? = some a) ∧ (∀ {α:Type} (a:α) (l:List α) (n:Nat),(a :: l)[n + 1]? = l[n]?) ∧ (∀ {α β:Type} (f:α → β) (a:α) (l:List α),(a :: l).map f = f a :: l.map f) ∧ (∀ {α β:Type} (f:α → β),([]:List α).map f = []) ∧ (∀ {α β:Type} (l:List α) (f:α → β),(l.map f).length = l.length) ∧ (∀ {α:Type} (a:α) (l:List α),(a :: l).length = l.length + 1) ∧ (∀ {α:Type},([]:List α).length = 0) ∧
    (∀ {α:Type} (n:Nat) (a:α) (l:List α),(a :: l).drop (n + 1) = l.drop n) ∧ (∀ {α:Type} (l:List α),l.drop 0 = l) ∧ (∀ {α:Type} (n:Nat) (a:α) (l:List α),(a :: l).take (n + 1) = a :: l.take n) ∧ (∀ {α:Type} (l:List α),l.take 0 = []) ∧ (∀ {α:Type} (n:Nat),([]:List α).take n = []) ∧
    (∀ {α:Type} (a:α) (l:List α) (d:α),(a :: l).headD d = a) ∧ (∀ n:Nat,(n:Int).toNat = n) ∧ (∀ n:Nat,0 + n = n) ∧ (∀ n:Nat,n + 0 = n) ∧ (∀ n:Nat,(n ≤ n) = True) ∧ (∀ p:Prop,(True ∧ p) = p) ∧ (∀ p:Prop,(p ∧ True) = p) ∧ (∀ n:Nat,((0:Int) ≤ (n:Int)) = True) ∧ (∀ a b:Nat,((a:Int) < (b:Int)) = (a < b)) ∧
    (∀ {α:Type} (p:α → Bool) (a:α) (l:List α),(a :: l).all p = (p a && l.all p)) ∧ (∀ {α:Type} (p:α → Bool),([]:List α).all p = true) ∧ (∀ b:Bool,(b && true) = b) ∧ (∀ b:Bool,(true && b) = b):=by
  refine ⟨by simp,fun _ _ _ => rfl,fun _ => rfl,List.append_nil,fun _ _ => rfl,fun _ _ _ => rfl,fun _ _ _ => rfl,fun _ => rfl,fun _ _ => List.length_map ..,fun _ _ => rfl,rfl,fun _ _ _ => rfl,fun _ => rfl,fun _ _ _ => rfl,fun _ => rfl,fun _ => List.take_nil,fun _ _ _ => rfl,fun _ => rfl,Nat.zero_add,fun _ => rfl,fun _ => by simp,fun _ => by simp,fun _ => by simp,fun _ => by simp,fun _ _ => by simp,fun _ _ _ => by simp,fun _ => rfl,Bool.and_true,Bool.true_and⟩
theorem S2:(∀ (st l:List O),(st ++ l)[st.length]? = l[0]?) ∧ (∀ (st l:List O) (n:Nat),(st ++ l)[st.length + n]? = l[n]?) ∧ (∀ (st l:List O) (o:O),(st ++ l).set st.length o = st ++ l.set 0 o) ∧ (∀ (st l:List O) (n:Nat) (o:O),(st ++ l).set (st.length + n) o = st ++ l.set n o) ∧
    (∀ (st l:List O),(st ++ l).length = st.length + l.length) ∧ (∀ (a b c:List O),(a ++ b) ++ c = a ++ (b ++ c)) ∧ (∀ (a:O) (b c:List O),(a :: b) ++ c = a :: (b ++ c)) ∧ (∀ (a:List O),[] ++ a = a) ∧ (∀ (a:O) (b:List O),(a :: b)[0]? = some a) ∧ (∀ (a:O) (b:List O) (n:Nat),(a :: b)[n + 1]? = b[n]?) ∧
    (∀ (a c:O) (b:List O),(a :: b).set 0 c = c :: b) ∧ (∀ (a c:O) (b:List O) (n:Nat),(a :: b).set (n + 1) c = a :: b.set n c) ∧ (∀ a b c:Nat,a + b + c = a + (b + c)):=by
  refine ⟨fun _ l => st_get0 l,fun _ l n => st_get l n,fun _ l o => st_set0 l o,fun _ l n o => st_set l n o,fun _ l => st_len l,List.append_assoc,fun _ _ _ => rfl,fun _ => rfl,fun _ _ => rfl,fun _ _ _ => rfl,fun _ _ _ => rfl,fun _ _ _ _ => rfl,Nat.add_assoc⟩
theorem S3:(∀ cs:List V,(V.agg cs).cells = cs) ∧ (∀ (k:IntKind) (n:Int),(V.int k n).cells = [.int k n]) ∧ (∀ b:Bool,(V.bool b).cells = [.bool b]) ∧ (∀ l:List UInt8,(V.str l).cells = [.str l]) ∧ (∀ (l:List V) (t:Option Nat),(V.sl l t).cells = [.sl l t]) ∧ (V.nil.cells = [.nil]) ∧
    (∀ i o:Nat,(V.ptr i o).cells = [.ptr i o]) ∧ (∀ l:List V,(V.dptr l).cells = [.dptr l]) ∧ (∀ (f:Fn) (a b:List V),(V.func f a b).cells = [.func f a b]) ∧ (∀ i:Nat,(V.map i).cells = [.map i]) ∧ (∀ a b:List V,(V.pmap a b).cells = [.pmap a b]) :=
  ⟨fun _ => rfl,fun _ _ => rfl,fun _ => rfl,fun _ => rfl,fun _ _ => rfl,rfl,fun _ _ => rfl,fun _ => rfl,fun _ _ _ => rfl,fun _ => rfl,fun _ _ => rfl⟩
def CLe (S:List O):List V → List V → Prop
  | [],[] => True
  | c :: cs,d :: ds => V.le S c d ∧ CLe S cs ds
  | _,_ => False
def OLe (S:List O):List O → List O → Prop
  | [],[] => True
  | o :: l,o' :: l' => O.le S o o' ∧ OLe S l l'
  | _,_ => False
theorem CLe.spec {S:List O}:∀ {cs ds:List V},CLe S cs ds → cs.length = ds.length ∧ ∀ (i:Nat) (c d:V),cs[i]? = some c → ds[i]? = some d → V.le S c d:=by
  intro cs
  induction cs with
  | nil => intro ds h;cases ds with
    | nil => exact ⟨rfl,by simp⟩
    | cons => exact h.elim
  | cons c cs ih =>
    intro ds h
    cases ds with
    | nil => exact h.elim
    | cons d ds =>
      obtain ⟨h1,h2⟩:=h
      obtain ⟨h3,h4⟩:=ih h2
      refine ⟨by simp [h3],fun i a b ha hb => ?_⟩
      cases i with
      | zero => simp only [List.getElem?_cons_zero,Option.some.injEq] at ha hb;subst ha hb;exact h1
      | succ i => exact h4 i a b (by simpa using ha) (by simpa using hb)
theorem O.le_box {S:List O} {t:TypeId} {cs ds:List V} (h:CLe S cs ds):O.le S (.box t cs) (.box t ds):=⟨ds,rfl,h.spec.1,h.spec.2⟩
theorem OLe.spec {S:List O}:∀ {l l':List O},OLe S l l' → l.length = l'.length ∧ ∀ (i:Nat) (c d:O),l[i]? = some c → l'[i]? = some d → O.le S c d:=by
  intro cs
  induction cs with
  | nil => intro ds h;cases ds with
    | nil => exact ⟨rfl,by simp⟩
    | cons => exact h.elim
  | cons c cs ih =>
    intro ds h
    cases ds with
    | nil => exact h.elim
    | cons d ds =>
      obtain ⟨h1,h2⟩:=h
      obtain ⟨h3,h4⟩:=ih h2
      refine ⟨by simp [h3],fun i a b ha hb => ?_⟩
      cases i with
      | zero => simp only [List.getElem?_cons_zero,Option.some.injEq] at ha hb;subst ha hb;exact h1
      | succ i => exact h4 i a b (by simpa using ha) (by simpa using hb)
theorem StLe.app {l l':List O} (h:OLe (st ++ l) l l'):StLe (st ++ l) (st ++ l'):=by
  obtain ⟨h1,h2⟩:=h.spec
  refine ⟨by simp [h1],fun i o o' ho ho' => ?_⟩
  by_cases hi:i < st.length
  · rw [List.getElem?_append_left hi] at ho ho'
    rw [ho] at ho'
    simp only [Option.some.injEq] at ho'
    subst ho'
    exact O.le_refl _ _
  · rw [List.getElem?_append_right (by omega)] at ho ho'
    exact h2 _ o o' ho ho'
theorem trimS_app (h:Clo st) {k:Nat} (hk:st.length ≤ k) (l:List O):trimS k (st ++ l) = st ++ (l.take (k - st.length)).map (O.trim k):=by
  unfold trimS
  rw [List.take_append,List.map_append,List.take_of_length_le hk,h k hk]
end
end Go.Duo
