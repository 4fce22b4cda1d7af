/-
  A part of the proof.
-/
import Derived.Test.YtdlcnihacaboiaaGreatDoorGL
set_option linter.all false
namespace Go.Duo
open Go
section
variable {P:Program} {gl:Nat → V} {r:Option Nat} {e:Env} {st:List O} {w w':World} {s s':S} {ops:Array Oper} {m:Nat}
theorem phaseA {q:Nat} {res:List (V × Option ((Nat → V) × O))} {n0:Nat} {w0:World} {s0:S} (hok:anyOK ops m = true) (hqm:q < m) (hrl:res.length = m) (hdq:dstAt ops q = none) (hrq:∃ v,res[q]? = some (v,none))
    (hat:∀ (i:Nat) (o:Oper),(ops.toList.take m)[i]? = some o → i ≠ q → ∃ v u,res[i]? = some (v,u) ∧ (envOf ((ops.toList.take m).take i) (res.take i) e).fits o.dst ∧ (u.isSome = true → o.dst.isSome = true) ∧ OpB P gl r ops o (envOf ((ops.toList.take m).take i) (res.take i) e) st v u)
    (hn0:n0 ≤ w0.heap.size) (hwf0:s0.g.length = s0.st.length) {Q:Exit → Act → World → Prop}
    (hq:∀ (fuel:Nat) (L:Array Bool) (a:Act) (w:World) (s:S) (B:Nat → Nat),InvA P gl ops m res e st n0 w0 s0 L a w s B → L.getD q false = false → q ∈ Region.ready .any ops L → L.count false ≤ fuel + 1 → wpOpIn (Fr r) 0 P ops Q q (wpAnyIn (Fr r) 0 P .any ops Q fuel (L.setIfInBounds q true)) a w) :
    ∀ (fuel:Nat) (L:Array Bool) (a:Act) (w:World) (s:S) (B:Nat → Nat),InvA P gl ops m res e st n0 w0 s0 L a w s B → L.getD q false = false → L.count false ≤ fuel → wpAnyIn (Fr r) 0 P .any ops Q fuel L a w:=by
  obtain ⟨hm,hdown,hlook,hdst,hrest⟩:=anyOK_spec hok
  have hres:∀ i,i < m → ∃ v u,res[i]? = some (v,u):=fun i hi => ⟨(res[i]'(by omega)).1,(res[i]'(by omega)).2,List.getElem?_eq_getElem _⟩
  have hl:(ops.toList.take m).length = m:=by simp;omega
  have hget:∀ i,i < m → (ops.toList.take m)[i]? = ops[i]?:=fun i hi => by rw [List.getElem?_take_of_lt hi];simp
  have henv:∀ (i:Nat) (t:Tmp),i ≤ m → ((∀ j,j < m → dstAt ops j ≠ some t) → (envOf ((ops.toList.take m).take i) (res.take i) e).get t = e.get t) ∧
      ∀ j v u,j < i → dstAt ops j = some t → res[j]? = some (v,u) → (envOf ((ops.toList.take m).take i) (res.take i) e).get t = v:=fun i t hi => by
    have hg:∀ k o,((ops.toList.take m).take i)[k]? = some o → k < i ∧ dstAt ops k = o.dst:=fun k o hk => by
      have hki:k < i:=by
        have:=(List.getElem?_eq_some_iff.1 hk).1
        simp at this
        omega
      rw [List.getElem?_take_of_lt hki,hget k (by omega)] at hk
      exact ⟨hki,by simp [dstAt,hk]⟩
    refine ⟨fun h => envOf_other _ _ _ _ fun k o hk he => ?_,fun j v u hj hd hr => ?_⟩
    · obtain ⟨h1,h2⟩:=hg k o hk
      exact h k (by omega) (h2.trans he)
    · have hjs:j < ops.size:=by omega
      refine envOf_at _ _ _ _ j ops[j] v u (by rw [List.getElem?_take_of_lt hj,hget j (by omega)];exact Array.getElem?_eq_getElem hjs) (by rw [List.getElem?_take_of_lt hj];exact hr) (by simpa [dstAt,hjs] using hd) fun k o hk ho he => ?_
      obtain ⟨h1,h2⟩:=hg k o ho
      have:=hdst j k t (by omega) (by omega) hd (h2.trans he)
      omega
  intro fuel
  induction fuel with
  | zero =>
    intro L a w s B hI hLq hf
    have:=count_set (L:=L) (i:=q) (by rw [hI.closed.1];omega) hLq
    omega
  | succ fuel ih =>
    intro L a w s B hI hLq hf
    have hall:¬ ∀ j,j < m → L.getD j false = true:=fun h => by have:=h q hqm;rw [hLq] at this;cases this
    · -- some operation of the first phase is ready
      have hsize:=hI.closed.1
      have hmin:∃ j,j < m ∧ j ∈ Region.ready .any ops L:=by
        have hex:∃ j,j < m ∧ L.getD j false = false:=by
          apply Classical.byContradiction
          intro hno
          refine hall fun j hj => ?_
          cases hx:L.getD j false with
          | true => rfl
          | false => exact absurd ⟨j,hj,hx⟩ hno
        obtain ⟨j,hj⟩:=hex
        induction j using Nat.strongRecOn with
        | _ j ihj =>
          by_cases hd:∃ i,i < j ∧ L.getD i false = false
          · obtain ⟨i,hi,hx⟩:=hd
            exact ihj i hi ⟨by omega,hx⟩
          · refine ⟨j,hj.1,(ready_spec hsize).2 ⟨by omega,hj.2,fun i hdep => ?_⟩⟩
            cases hx:L.getD i false with
            | true => rfl
            | false => exact absurd ⟨i,hdown j i hdep,hx⟩ hd
      obtain ⟨j0,_,hj0⟩:=hmin
      refine ⟨fun h0 => by rw [h0] at hj0;simp at hj0,fun i hi => ?_⟩
      obtain ⟨hilt,hifalse,hideps⟩:=(ready_spec hsize).1 hi
      have him:i < m:=by
        apply Classical.byContradiction
        intro hge
        by_cases heq:i = m
        · subst heq
          refine hall fun j hj => ?_
          obtain ⟨hsucc,_⟩:=hrest hilt
          have key:∀ d j,j < i → i - j = d → L.getD j false = true:=by
            intro d
            induction d using Nat.strongRecOn with
            | _ d ihd =>
              intro j hj hd
              obtain ⟨j',h1,h2,h3⟩:=hsucc j hj
              by_cases hj':j' = i
              · subst hj';exact hideps j h3
              · exact hI.closed.2 j' j (ihd (i - j') (by omega) j' (by omega) rfl) h3
          exact key _ j hj rfl
        · have:=hideps _ ((hrest (by omega)).2 i hilt (by omega))
          have:=hI.pre _ this
          omega
      have hoi:ops[i]? = some ops[i]:=Array.getElem?_eq_getElem hilt
      by_cases hiq:i = q
      · subst hiq
        exact hq fuel L a w s B hI hLq hi hf
      obtain ⟨v,u,hresi,hfit,hud,hB⟩:=hat i ops[i] (by rw [hget i him];exact hoi) hiq
      have hA:ActOK w s n0 ⟨e.n,((ops[i]).looksAt ops).map fun t => (t,(envOf ((ops.toList.take m).take i) (res.take i) e).get t)⟩ a:=by
        refine ⟨hI.n,fun t => ?_,hI.marks⟩
        show Rep w s (getM _ t) _
        rw [getM_map (fun t => (envOf ((ops.toList.take m).take i) (res.take i) e).get t)]
        split
        · rename_i hlk
          obtain ⟨g1,g2⟩:=henv i t (by omega)
          by_cases hex:∃ j,j < m ∧ dstAt ops j = some t
          · obtain ⟨j,hj,hd⟩:=hex
            have hdep:=hlook i j _ t him hj hoi hlk hd
            obtain ⟨vj,uj,hrj⟩:=hres j hj
            rw [g2 j vj uj (hdown i j hdep) hd hrj]
            exact (hI.new j t vj uj (hideps j hdep) hd hrj).1
          · rw [g1 fun j hj hd => hex ⟨j,hj,hd⟩]
            exact hI.old t fun j hj hd => hex ⟨j,hj,hd⟩
        · exact .undef _
      have hstep:=hB ⟨e.n,((ops[i]).looksAt ops).map fun t => (t,(envOf ((ops.toList.take m).take i) (res.take i) e).get t)⟩ (fun t ht => by show getM _ t = _;rw [getM_map (fun t => (envOf ((ops.toList.take m).take i) (res.take i) e).get t),if_pos ht]) n0 w s a
        (wpAnyIn (Fr r) 0 P .any ops Q fuel (L.setIfInBounds i true)) Q (Nat.le_trans hn0 hI.ev.size) hI.st hI.sim hA (fun x w' s' k1 k2 k3 k4 k5 => ?_)
      · unfold wpOpIn
        rw [hoi]
        exact hstep
      · have hcs:=count_set (L:=L) (i:=i) (by omega) hifalse
        have hwf:=hI.sim.wf
        obtain ⟨bn,hbn⟩:∃ bn,∀ f o,u = some (f,o) → w.heap.size ≤ bn ∧ Pend P w' s' f o x bn:=by
          cases u with
          | none => exact ⟨0,by simp⟩
          | some fo =>
            obtain ⟨f,o⟩:=fo
            obtain ⟨bn,h1,h2⟩:=k5 f o rfl
            exact ⟨bn,fun f' o' he => by simp only [Option.some.injEq,Prod.mk.injEq] at he;obtain ⟨rfl,rfl⟩:=he;exact ⟨h1,h2⟩⟩
        have hdi:∀ j t,j < m → j ≠ i → dstAt ops j = some t → (ops[i]).dst ≠ some t:=fun j t hj hne hd he => hne (hdst j i t hj him hd (by simp [dstAt,hilt,he]))
        refine ih _ (a.put (ops[i]).dst x) w' s' (fun j => if j = i then bn else B j) ⟨hI.closed.set hi,fun j hj => ?_,k3,k1,hI.ev.trans hwf0 hI.sim.len k2,by rw [put_size];exact hI.n,by rw [put_defers];exact hI.marks.evolve k2 hwf,fun t ht => ?_,fun j t vj uj hL hd hrj => ?_,fun j j' v1 v2 fo fo' hL hL' hr hr' hBe => ?_⟩ (by rw [getD_set (by omega),if_neg hiq];exact hLq) (by omega)
        · rw [getD_set (by omega)] at hj
          split at hj
          · rename_i he;subst he;exact him
          · exact hI.pre j hj
        · rw [put_other (fun he => ht i him (by simp [dstAt,hilt,he]))]
          exact (hI.old t ht).evolve k2 hwf
        · rw [getD_set (by omega)] at hL
          by_cases hji:j = i
          · subst hji
            rw [hresi] at hrj
            simp only [Option.some.injEq,Prod.mk.injEq] at hrj
            obtain ⟨rfl,rfl⟩:=hrj
            have hd':(ops[j]).dst = some t:=by simpa [dstAt,hilt] using hd
            have hlt:t < a.tmps.size:=by
              rw [hd'] at hfit
              have h1:t < (envOf ((ops.toList.take m).take j) (res.take j) e).n:=hfit
              rw [envOf_n] at h1
              exact Nat.lt_of_lt_of_le h1 hI.n
            rw [hd',put_same hlt]
            refine ⟨k4,fun f o hu => ?_⟩
            rw [if_pos rfl]
            obtain ⟨h1,h2⟩:=hbn f o hu
            exact ⟨Nat.le_trans hI.ev.size h1,h2⟩
          · rw [if_neg (fun he => hji he.symm)] at hL
            have hjm:=hI.pre j hL
            rw [put_other (hdi j t hjm hji hd)]
            obtain ⟨h1,h2⟩:=hI.new j t vj uj hL hd hrj
            refine ⟨h1.evolve k2 hwf,fun f o hu => ?_⟩
            rw [if_neg hji]
            obtain ⟨h3,h4⟩:=h2 f o hu
            exact ⟨h3,h4.evolve hI.sim k2⟩
        · rw [getD_set (by omega)] at hL hL'
          have hlt:∀ j v fo,j ≠ i → L.getD j false = true → res[j]? = some (v,some fo) → B j < w.heap.size:=fun j v fo hji hL hr => by
            have hjm:=hI.pre j hL
            obtain ⟨v',u',hr',_,hud',_⟩:=hat j (ops[j]'(by omega)) (by rw [hget j hjm];exact Array.getElem?_eq_getElem _) (fun he => by subst he;obtain ⟨vq,hvq⟩:=hrq;rw [hvq] at hr;simp at hr)
            rw [hr] at hr'
            simp only [Option.some.injEq,Prod.mk.injEq] at hr'
            obtain ⟨rfl,rfl⟩:=hr'
            obtain ⟨d,hd⟩:=Option.isSome_iff_exists.1 (hud' rfl)
            obtain ⟨_,h2⟩:=hI.new j d v (some fo) hL (by simp [dstAt,show j < ops.size by omega,hd]) hr
            obtain ⟨_,_,_,h3,_⟩:=(h2 fo.1 fo.2 rfl).2
            exact h3
          have hnew:∀ v fo,res[i]? = some (v,some fo) → w.heap.size ≤ bn:=fun v' fo hr => by
            rw [hresi] at hr
            simp only [Option.some.injEq,Prod.mk.injEq] at hr
            exact (hbn fo.1 fo.2 hr.2).1
          by_cases h1:j = i
          · by_cases h2:j' = i
            · omega
            · subst h1
              rw [if_pos rfl,if_neg h2] at hBe
              rw [if_neg (fun he => h2 he.symm)] at hL'
              have:=hlt j' v2 fo' h2 hL' hr'
              have:=hnew v1 fo hr
              omega
          · rw [if_neg (fun he => h1 he.symm)] at hL
            by_cases h2:j' = i
            · subst h2
              rw [if_neg h1,if_pos rfl] at hBe
              have:=hlt j v1 fo h1 hL hr
              have:=hnew v2 fo' hr'
              omega
            · rw [if_neg h1,if_neg h2] at hBe
              rw [if_neg (fun he => h2 he.symm)] at hL'
              exact hI.inj j j' v1 v2 fo fo' hL hL' hr hr' hBe
structure InvB (P:Program) (gl:Nat → V) (ops:Array Oper) (m:Nat) (e2:Env) (st2:List O) (n0:Nat) (w0:World) (s0:S) (L:Array Bool) (a:Act) (w:World) (s:S):Prop where
  closed:Closed ops L
  pre:∀ i,L.getD i false = true → i < m
  st:s.st = st2
  sim:Sim P gl w s
  ev:Evolve w0 s0 w s
  n:e2.n ≤ a.tmps.size
  marks:Marks w s n0 a.defers
  vals:∀ t,(∃ j,j < m ∧ dstAt ops j = some t ∧ L.getD j false = false) ∨ Rep w s (e2.get t) (a.tmps.getD t undef)
theorem phaseB {e2:Env} {st2:List O} {n0:Nat} {w0:World} {s0:S} (hok:anyOK ops m = true) (ls:List Nat) (hls:awS P gl ops e2 st2 ls) (hfit:∀ i o,i ∈ ls → ops[i]? = some o → e2.fits o.dst) (hn0:n0 ≤ w0.heap.size) (hwf0:s0.g.length = s0.st.length) {Q:Exit → Act → World → Prop}
    (hfin:∀ a w s,Sim P gl w s → Evolve w0 s0 w s → ActOK w s n0 e2 a → s.st = st2 → wpOpsIn (Fr r) 0 P ops Q (List.range' m (ops.size - m)) a w) :
    ∀ (fuel:Nat) (L:Array Bool) (a:Act) (w:World) (s:S),InvB P gl ops m e2 st2 n0 w0 s0 L a w s → (∀ i,i < m → L.getD i false = false → i ∈ ls) → L.count false ≤ fuel → wpAnyIn (Fr r) 0 P .any ops Q fuel L a w:=by
  obtain ⟨hm,hdown,hlook,hdst,hrest⟩:=anyOK_spec hok
  have hdone:∀ (fuel:Nat) (L:Array Bool) (a:Act) (w:World) (s:S),InvB P gl ops m e2 st2 n0 w0 s0 L a w s → L.count false ≤ fuel → (∀ j,j < m → L.getD j false = true) → wpAnyIn (Fr r) 0 P .any ops Q fuel L a w:=fun fuel L a w s hI hf hall => by
    have hA:ActOK w s n0 e2 a:=⟨hI.n,fun t => by
      rcases hI.vals t with ⟨j,hj,_,hx⟩ | h
      · rw [hall j hj] at hx;cases hx
      · exact h,hI.marks⟩
    exact chain (m:=m) (fun i hi hmi => (hrest (by omega)).2 i hi hmi) hdown (ops.size - m) m (by omega) (Nat.le_refl _) fuel L a w hI.closed.1 (fun i hi => ⟨fun h => hI.pre i h,fun h => hall i h⟩) hf (hfin a w s hI.sim hI.ev hA hI.st)
  intro fuel
  induction fuel with
  | zero =>
    intro L a w s hI hin hf
    refine hdone 0 L a w s hI hf fun j hj => ?_
    cases hx:L.getD j false with
    | true => rfl
    | false =>
      have:=count_set (L:=L) (i:=j) (by rw [hI.closed.1];omega) hx
      omega
  | succ fuel ih =>
    intro L a w s hI hin hf
    by_cases hall:∀ j,j < m → L.getD j false = true
    · exact hdone _ L a w s hI hf hall
    · have hsize:=hI.closed.1
      have hmin:∃ j,j < m ∧ j ∈ Region.ready .any ops L:=by
        have hex:∃ j,j < m ∧ L.getD j false = false:=by
          apply Classical.byContradiction
          intro hno
          refine hall fun j hj => ?_
          cases hx:L.getD j false with
          | true => rfl
          | false => exact absurd ⟨j,hj,hx⟩ hno
        obtain ⟨j,hj⟩:=hex
        induction j using Nat.strongRecOn with
        | _ j ihj =>
          by_cases hd:∃ i,i < j ∧ L.getD i false = false
          · obtain ⟨i,hi,hx⟩:=hd
            exact ihj i hi ⟨by omega,hx⟩
          · refine ⟨j,hj.1,(ready_spec hsize).2 ⟨by omega,hj.2,fun i hdep => ?_⟩⟩
            cases hx:L.getD i false with
            | true => rfl
            | false => exact absurd ⟨i,hdown j i hdep,hx⟩ hd
      obtain ⟨j0,_,hj0⟩:=hmin
      refine ⟨fun h0 => by rw [h0] at hj0;simp at hj0,fun i hi => ?_⟩
      obtain ⟨hilt,hifalse,hideps⟩:=(ready_spec hsize).1 hi
      have him:i < m:=by
        apply Classical.byContradiction
        intro hge
        by_cases heq:i = m
        · subst heq
          refine hall fun j hj => ?_
          obtain ⟨hsucc,_⟩:=hrest hilt
          have key:∀ d j,j < i → i - j = d → L.getD j false = true:=by
            intro d
            induction d using Nat.strongRecOn with
            | _ d ihd =>
              intro j hj hd
              obtain ⟨j',h1,h2,h3⟩:=hsucc j hj
              by_cases hj':j' = i
              · subst hj';exact hideps j h3
              · exact hI.closed.2 j' j (ihd (i - j') (by omega) j' (by omega) rfl) h3
          exact key _ j hj rfl
        · have:=hideps _ ((hrest (by omega)).2 i hilt (by omega))
          have:=hI.pre _ this
          omega
      have hil:=hin i him hifalse
      obtain ⟨o,d,ho,hg,hd,hA⟩:=awS_mem hls i hil
      obtain ⟨v,u,⟨rfl,rfl⟩,hB⟩:=stepA_full (r:=r) hA
      have hdi:dstAt ops i = some d:=by simp [dstAt,ho,hd]
      have hAct:ActOK w s n0 ⟨e2.n,(o.looksAt ops).map fun t => (t,e2.get t)⟩ a:=by
        refine ⟨hI.n,fun t => ?_,hI.marks⟩
        show Rep w s (getM _ t) _
        rw [getM_map (fun t => e2.get t)]
        split
        · rename_i hlk
          rcases hI.vals t with ⟨j,hj,hdj,hx⟩ | h
          · have:=hideps j (hlook i j o t him hj ho hlk hdj)
            rw [hx] at this;cases this
          · exact h
        · exact .undef _
      have hev:∀ x ∈ o.op.operands,e2.ev gl x = (⟨e2.n,(o.looksAt ops).map fun t => (t,e2.get t)⟩:Env).ev gl x:=fun x hx => by
        cases x with
        | tmp t =>
          have ht:t ∈ o.looksAt ops:=List.mem_append_left _ (List.mem_filterMap.2 ⟨.tmp t,by simpa using hx,rfl⟩)
          show e2.get t = getM _ t
          rw [getM_map (fun t => e2.get t),if_pos ht]
        | _ => rfl
      unfold wpOpIn
      rw [ho]
      simp only
      rw [if_pos (by simp [Region.wanted,hg])]
      refine hB _ hev n0 w s a _ Q (Nat.le_trans hn0 hI.ev.size) hI.st hI.sim hAct fun x w' s' k1 k2 k3 k4 _ => ?_
      have hcs:=count_set (L:=L) (i:=i) (by omega) hifalse
      have hwf:=hI.sim.wf
      have hlt:d < a.tmps.size:=by
        have:=hfit i o hil ho
        rw [hd] at this
        exact Nat.lt_of_lt_of_le this hI.n
      refine ih _ (a.put o.dst x) w' s' ⟨hI.closed.set hi,fun j hj => ?_,k3,k1,hI.ev.trans hwf0 hI.sim.len k2,by rw [put_size];exact hI.n,by rw [put_defers];exact hI.marks.evolve k2 hwf,fun t => ?_⟩ (fun j hj hL => ?_) (by omega)
      · rw [getD_set (by omega)] at hj
        split at hj
        · rename_i he;subst he;exact him
        · exact hI.pre j hj
      · by_cases htd:t = d
        · subst htd
          right
          rw [hd,put_same hlt]
          exact k4
        · rcases hI.vals t with ⟨j,hj,hdj,hx⟩ | h
          · left
            refine ⟨j,hj,hdj, ?_⟩
            rw [getD_set (by omega),if_neg (fun he => htd (by subst he;rw [hdi] at hdj;simpa using hdj.symm))]
            exact hx
          · right
            rw [put_other (fun he => htd (by rw [hd] at he;simpa using he.symm))]
            exact h.evolve k2 hwf
      · rw [getD_set (by omega)] at hL
        split at hL
        · cases hL
        · exact hin j hj hL
def dsOK (ops:Array Oper):List Nat → List Nat → Bool
  | _,[] => true
  | prev,i :: r => prev.any (fun j => dep ops j i) && dsOK ops (i :: prev) r
def lateOK2 (ops:Array Oper) (m q:Nat) (ds ls:List Nat):Bool:=dsOK ops [q] ds && (List.range m).all fun i => i == q || ds.contains i || ls.contains i
theorem dsOK_done {L:Array Bool} (hc:Closed ops L):∀ (ds prev:List Nat),(∀ j ∈ prev,∀ i,dep ops j i = true → L.getD i false = true) → dsOK ops prev ds = true → ∀ i ∈ ds,L.getD i false = true:=by
  intro ds
  induction ds with
  | nil => intro prev _ _ i hi;cases hi
  | cons d ds ih =>
    intro prev hp h i hi
    simp only [dsOK,Bool.and_eq_true,List.any_eq_true] at h
    obtain ⟨⟨j,hj,hdep⟩,h2⟩:=h
    have hd:L.getD d false = true:=hp j hj d hdep
    rcases List.mem_cons.1 hi with rfl | hi
    · exact hd
    · refine ih (d :: prev) (fun k hk i hki => ?_) h2 i hi
      rcases List.mem_cons.1 hk with rfl | hk
      · exact hc.2 _ _ hd hki
      · exact hp k hk i hki
theorem applyUps_get:∀ (ups:List Up) (e e':Env) (st:List O) (t:Nat),e.get t = e'.get t → (applyUps ups e st).1.get t = (applyUps ups e' st).1.get t:=by
  intro ups
  induction ups with
  | nil => intro e e' st t h;exact h
  | cons u ups ih =>
    intro e e' st t h
    obtain ⟨d,f,o⟩:=u
    refine ih _ _ _ _ ?_
    simp only [Env.put,Env.get,getM] at h ⊢
    split
    · rfl
    · exact h
theorem applyUps_n:∀ (ups:List Up) (e:Env) (st:List O),(applyUps ups e st).1.n = e.n:=by
  intro ups
  induction ups with
  | nil => intro e st;rfl
  | cons u ups ih => intro e st;obtain ⟨d,f,o⟩:=u;rw [applyUps,ih];rfl
theorem applyUps_st:∀ (ups:List Up) (e e':Env) (st:List O),(applyUps ups e st).2 = (applyUps ups e' st).2:=by
  intro ups
  induction ups with
  | nil => intro e e' st;rfl
  | cons u ups ih => intro e e' st;obtain ⟨d,f,o⟩:=u;exact ih _ _ _
theorem getM_undef:∀ (u m:List (Nat × V)) (t:Nat),(∀ p ∈ u,p.2 = V.undef) → ((∃ p ∈ u,p.1 = t) ∧ getM (u ++ m) t = .undef) ∨ ((¬ ∃ p ∈ u,p.1 = t) ∧ getM (u ++ m) t = getM m t):=by
  intro u
  induction u with
  | nil => intro m t _;exact .inr ⟨by simp,rfl⟩
  | cons p u ih =>
    intro m t h
    obtain ⟨a,v⟩:=p
    have hv:v = V.undef:=h (a,v) (List.mem_cons_self ..)
    subst hv
    simp only [List.cons_append,getM]
    by_cases ha:a = t
    · exact .inl ⟨⟨_,List.mem_cons_self ..,ha⟩,by rw [if_pos ha]⟩
    · rw [if_neg ha]
      rcases ih m t fun p hp => h p (List.mem_cons_of_mem _ hp) with ⟨⟨p,hp,hpt⟩,h2⟩ | ⟨h1,h2⟩
      · exact .inl ⟨⟨p,List.mem_cons_of_mem _ hp,hpt⟩,h2⟩
      · refine .inr ⟨fun ⟨p,hp,hpt⟩ => ?_,h2⟩
        rcases List.mem_cons.1 hp with rfl | hp
        · exact ha hpt
        · exact h1 ⟨p,hp,hpt⟩
theorem stepA_fwd_call {ρ:Operand → V} {c:Go.Call} {K:V → Option ((Nat → V) × O) → Prop} (hc:calm (.call c) = true) (h:stepA P gl ρ st (.call c) K):step1 P gl ρ st (.call c) (fun v _ => K v none):=by
  simp only [stepA] at h
  cases hcal:c.callee with
  | value f => simp only [calm,hcal,Bool.false_eq_true] at hc
  | invoke a b => simp only [calm,hcal,Bool.false_eq_true] at hc
  | builtin b =>
    rw [hcal] at h
    have hc2:=hc
    simp only [calm,hcal] at hc2
    cases b <;> first
      | (simp only [Bool.false_eq_true] at hc2;done)
      | (simp only at h;rw [if_pos hc] at h;exact h)
theorem stepA_fwd {ρ:Operand → V} {op:Op} {K:V → Option ((Nat → V) × O) → Prop} (hc:calm op = true) (h:stepA P gl ρ st op K):step1 P gl ρ st op (fun v _ => K v none):=by
  unfold stepA at h
  cases op
  case call => exact stepA_fwd_call hc h
  all_goals first
    | (simp only [calm,Bool.false_eq_true] at hc;done)
    | (simp only at h;rw [if_pos hc] at h;exact h)
    | (rw [if_pos hc] at h;exact h)
theorem stepA_full2 {o:Oper} {K:V → Option ((Nat → V) × O) → Prop} (h:stepA P gl (e.ev gl) st o.op K):∃ v u,K v u ∧ (calm o.op = true → u = none) ∧ ∀ e':Env,(∀ x ∈ o.op.operands,e.ev gl x = e'.ev gl x) → OpA P gl r o e' st v u:=by
  by_cases hc:calm o.op = true
  · obtain ⟨v,h1,h2⟩:=step1_det hc (stepA_fwd hc h)
    have h3:=stepA_calm (K:=fun v' u' => v' = v ∧ u' = none) hc (h1 (fun v' _ => v' = v ∧ (none:Option ((Nat → V) × O)) = none) ⟨rfl,rfl⟩)
    obtain ⟨v',u',⟨rfl,rfl⟩,hA⟩:=stepA_full (r:=r) h3
    exact ⟨_,none,h2,fun _ => rfl,hA⟩
  · obtain ⟨v,u,hK,hA⟩:=stepA_full (r:=r) h
    exact ⟨v,u,hK,fun h => absurd h hc,hA⟩
def CalmRes (l:List Oper) (res:List (V × Option ((Nat → V) × O))):Prop:=∀ (i:Nat) (o:Oper) (v:V) (u:Option ((Nat → V) × O)),l[i]? = some o → res[i]? = some (v,u) → calm o.op = true → u = none
theorem CalmRes.cons {o:Oper} {l:List Oper} {v:V} {u:Option ((Nat → V) × O)} {res:List (V × Option ((Nat → V) × O))} (h:CalmRes l res) (hu:calm o.op = true → u = none):CalmRes (o :: l) ((v,u) :: res):=fun i o' v' u' ho hr hc => by
  cases i with
  | zero =>
    simp only [List.getElem?_cons_zero,Option.some.injEq,Prod.mk.injEq] at ho hr
    subst ho
    obtain ⟨_,rfl⟩:=hr
    exact hu hc
  | succ i => exact h i o' v' u' (by simpa using ho) (by simpa using hr) hc
theorem awA_run2 {ops:Array Oper} {K:Env → List O → Prop}:∀ (l:List Oper) (e:Env) (ups:List Up),awA P gl ops l e st ups K →
    ∃ res,RunA P gl r ops st l res e ∧ K (applyUps (ups ++ upsOf l res) (envOf l res e) st).1 (applyUps (ups ++ upsOf l res) (envOf l res e) st).2 ∧ CalmRes l res:=by
  intro l
  induction l with
  | nil => intro e ups h;exact ⟨[],trivial,by simpa [upsOf,upOf,envOf,awA] using h,fun i o v u ho => by simp at ho⟩
  | cons o l ih =>
    intro e ups h
    unfold awA at h
    obtain ⟨hfit,h⟩:=h
    have yes:∀ (hw:∀ (e':Env) (w:World) (s:S) (n0:Nat) (a:Act),(∀ t ∈ o.looksAt ops,e'.get t = e.get t) → ActOK w s n0 e' a → Region.wanted o (yielded ops a.tmps) = true),(stepA P gl (e.ev gl) st o.op fun v u => match u,o.dst with
      | none,_ => awA P gl ops l (e.put o.dst v) st ups K
      | some (f,ob),some d => awA P gl ops l (e.put o.dst v) st (ups ++ [(d,f,ob)]) K
      | some _,none => False) → ∃ res,RunA P gl r ops st (o :: l) res e ∧ K (applyUps (ups ++ upsOf (o :: l) res) (envOf (o :: l) res e) st).1 (applyUps (ups ++ upsOf (o :: l) res) (envOf (o :: l) res e) st).2 ∧ CalmRes (o :: l) res:=fun hw h => by
      obtain ⟨v,u,hK,hcu,hA⟩:=stepA_full2 (r:=r) h
      have hB:OpB P gl r ops o e st v u:=fun e' he n0 w s a next Q hn hst hs ha hk => by
        rw [if_pos (hw e' w s n0 a he ha)]
        exact hA e' (ev_of_get he) n0 w s a next Q hn hst hs ha hk
      cases u with
      | none =>
        obtain ⟨res,h1,h2,h3⟩:=ih _ _ hK
        exact ⟨(v,none) :: res,⟨hfit,by simp,hB,h1⟩,by simpa [upsOf,upOf,envOf] using h2,h3.cons fun _ => rfl⟩
      | some fo =>
        obtain ⟨f,ob⟩:=fo
        cases hd:o.dst with
        | none => rw [hd] at hK;exact hK.elim
        | some d =>
          rw [hd] at hK
          obtain ⟨res,h1,h2,h3⟩:=ih _ _ hK
          rw [← hd] at h1
          exact ⟨(v,some (f,ob)) :: res,⟨hfit,by simp [hd],hB,h1⟩,by simpa [upsOf,upOf,envOf,hd] using h2,h3.cons hcu⟩
    cases hg:o.guard with
    | none =>
      rw [hg] at h
      exact yes (fun _ _ _ _ _ _ _ => by simp [Region.wanted,hg]) h
    | some jw =>
      obtain ⟨j,want⟩:=jw
      rw [hg] at h
      simp only at h
      cases hd:(ops[j]?).bind (·.dst) with
      | none => rw [hd] at h;exact h.elim
      | some d =>
        rw [hd] at h
        simp only at h
        have hlk:d ∈ o.looksAt ops:=List.mem_append_right _ (by simp [hg,hd])
        cases hv:e.get d <;> rw [hv] at h <;> try exact h.elim
        case tuple cs =>
          cases cs with
          | cons c cs => exact h.elim
          | nil =>
            obtain ⟨res,h1,h2,h3⟩:=ih _ _ h
            refine ⟨(.tuple [],none) :: res,⟨hfit,by simp,fun e' he n0 w s a next Q hn hst hs ha hk => ?_,h1⟩,by simpa [upsOf,upOf,envOf] using h2,h3.cons fun _ => rfl⟩
            rw [if_neg (by simp [Region.wanted,hg,yielded_hole ha hd ((he d hlk).trans hv)])]
            exact ⟨fun _ _ => trivial,hk undef w s hs (Evolve.refl hs.wf) hst (rep_hole _ _) (by simp)⟩
        rename_i b
        have hw:∀ (e':Env) (w:World) (s:S) (n0:Nat) (a:Act),(∀ t ∈ o.looksAt ops,e'.get t = e.get t) → ActOK w s n0 e' a → Region.wanted o (yielded ops a.tmps) = (b == want):=fun e' w s n0 a he ha => by
          have hy:=yielded_of (ops:=ops) (j:=j) ha hd ((he d hlk).trans hv)
          simp only [Region.wanted,hg,hy]
          cases b <;> cases want <;> rfl
        simp only at h
        split at h
        · rename_i hbw
          exact yes (fun e' w s n0 a he ha => by rw [hw e' w s n0 a he ha];simpa using hbw) h
        · rename_i hbw
          obtain ⟨res,h1,h2,h3⟩:=ih _ _ h
          refine ⟨(.tuple [],none) :: res,⟨hfit,by simp,fun e' he n0 w s a next Q hn hst hs ha hk => ?_,h1⟩,by simpa [upsOf,upOf,envOf] using h2,h3.cons fun _ => rfl⟩
          rw [if_neg (by rw [hw e' w s n0 a he ha];simpa using hbw)]
          exact ⟨fun _ _ => trivial,hk undef w s hs (Evolve.refl hs.wf) hst (rep_hole _ _) (by simp)⟩
theorem AW.anyL {id:Nat} {Q:Exit → Env → List O → Prop} (hfol:P.follows .mixedOrders = true) (m q:Nat) (ds ls:List Nat) (oq:Oper) (hok:anyOK ops m = true) (hqm:q < m) (hoq0:ops.toList[q]? = some oq) (hg:oq.guard = none) (hd:oq.dst = none) (hls:lateOK2 ops m q ds ls = true)
    (hca:(ls.all fun i => match ops[i]? with | some o => calm o.op | none => false) = true) (hlm:(ls.all fun i => Nat.blt i m) = true)
    (h:awA P gl ops ((ops.toList.take m).set q (nopO oq)) e st [] fun e1 s1 => ∃ st',step1 P gl (e1.ev gl) s1 oq.op (fun v s2 => v = .undef ∧ s2 = st') ∧ awS P gl ops e1 st' ls ∧ awL P gl ops (ops.toList.drop m) e1 st' (Q .normal)):AW P gl r (.region id ops true) Q e st:=fun n0 w s a hn hst hs ha => by
  have hoq:ops[q]? = some oq:=by simpa using hoq0
  refine wpIn_region_any hfol ?_
  have hE0:=Evolve.drawn (w:=w) hs.wf (w.drawn + 1)
  have hS0:=hs.drawn (w.drawn + 1)
  have hA0:=ha.evolve hE0 hs.wf
  obtain ⟨res0,hrun,hK,hCal⟩:=awA_run2 (r:=r) _ _ _ h
  rw [List.nil_append] at hK
  obtain ⟨hm,hdown,hlook,hdstu,hrest0⟩:=anyOK_spec hok
  obtain ⟨l,hl⟩:∃ l,ops.toList.take m = l:=⟨_,rfl⟩
  have hll:l.length = m:=by rw [← hl];simp;omega
  have hget:∀ i,i < m → l[i]? = ops[i]?:=fun i hi => by rw [← hl,List.getElem?_take_of_lt hi];simp
  rw [hl] at hrun hK hCal
  have hmap:∀ (k:Nat),((l.set q (nopO oq)).take k).map (·.dst) = (l.take k).map (·.dst):=fun k => by
    apply List.ext_getElem?
    intro j
    simp only [List.getElem?_map,List.getElem?_take]
    split
    · by_cases hj:q = j
      · subst hj
        rw [List.getElem?_set_self (by omega),hget q hqm,hoq]
        simp [nopO,hd]
      · rw [List.getElem?_set_ne hj]
    · rfl
  have hmapA:(l.set q (nopO oq)).map (·.dst) = l.map (·.dst):=by
    have:=hmap m
    rwa [List.take_of_length_le (by simp [hll]),List.take_of_length_le (by omega)] at this
  obtain ⟨hlen0,hat0⟩:=runA_at _ _ _ hrun
  rw [List.length_set,hll] at hlen0
  obtain ⟨hd1,hd2⟩:=envOf_dst _ _ res0 e hmapA
  have hqdst:∀ o,l[q]? = some o → o.dst = none:=fun o ho => by rw [hget q hqm,hoq] at ho;cases ho;exact hd
  obtain ⟨res,hres⟩:∃ res,res0.set q (.undef,none) = res:=⟨_,rfl⟩
  have hrl:res.length = m:=by rw [← hres,List.length_set];omega
  obtain ⟨hd3,hd4⟩:=envOf_set l res0 e q (.undef,none) hqdst
  rw [hres] at hd3 hd4
  rw [hd1,hd2,← hd3,← hd4] at hK
  obtain ⟨st',hst',hS,hrest⟩:=hK
  have hpre:∀ i,envOf ((l.set q (nopO oq)).take i) (res0.take i) e = envOf (l.take i) (res.take i) e:=fun i => by
    rw [(envOf_dst _ _ (res0.take i) e (hmap i)).1,← hres,List.take_set]
    refine ((envOf_set (l.take i) (res0.take i) e q (.undef,none) fun o ho => ?_).1).symm
    rw [List.getElem?_take] at ho
    split at ho
    · exact hqdst o ho
    · cases ho
  have hlq:l[q]? = some oq:=(hget q hqm).trans hoq
  have hdq:dstAt ops q = none:=by simp [dstAt,hoq,hd]
  simp only [lateOK2,Bool.and_eq_true] at hls
  obtain ⟨hds,hcov⟩:=hls
  obtain ⟨e1,he1⟩:∃ e1,(applyUps (upsOf l res) (envOf l res e) st).1 = e1:=⟨_,rfl⟩
  obtain ⟨s1,hs1⟩:∃ s1,(applyUps (upsOf l res) (envOf l res e) st).2 = s1:=⟨_,rfl⟩
  try simp only [List.nil_append] at hst' hS hrest
  rw [he1] at hst' hS hrest
  rw [hs1] at hst'
  have he1n:e1.n = e.n:=by rw [← he1,applyUps_n,envOf_n]
  have hL0:(Array.replicate ops.size false).getD q false = false:=by
    simp only [Array.getD_eq_getD_getElem?,Array.getElem?_replicate]
    split <;> rfl
  have hat:∀ (i:Nat) (o:Oper),l[i]? = some o → i ≠ q → ∃ v u,res[i]? = some (v,u) ∧ (envOf (l.take i) (res.take i) e).fits o.dst ∧ (u.isSome = true → o.dst.isSome = true) ∧ OpB P gl r ops o (envOf (l.take i) (res.take i) e) st v u:=fun i o hio hiq => by
    obtain ⟨v,u,hr0,hfit,hus,hB⟩:=hat0 i o (by rw [List.getElem?_set_ne (fun he => hiq he.symm)];exact hio)
    have hri:res[i]? = some (v,u):=by rw [← hres,List.getElem?_set_ne (fun he => hiq he.symm)];exact hr0
    rw [hpre i] at hfit hB
    exact ⟨v,u,hri,hfit,hus,hB⟩
  have hrq:∃ v,res[q]? = some (v,none):=⟨.undef,by rw [← hres,List.getElem?_set_self (by omega)]⟩
  refine phaseA (q:=q) (res:=res) (st:=st) (e:=e) (Q:=fun x a' w' => ∃ e' s',Sim P gl w' s' ∧ Evolve w s w' s' ∧ ActOK w' s' n0 e' a' ∧ Q x e' s'.st) hok hqm hrl hdq hrq (by rw [hl];exact hat) (w0:={ w with drawn:=w.drawn + 1 }) (s0:=s) hn hs.len (fun fuel L a w2 s2 B hI hLq hready hf => ?_) ops.size _ a _ s (fun _ => 0)
    ⟨⟨by simp,fun i j hi => ?_⟩,fun i hi => ?_,hst,hS0,Evolve.refl hS0.wf,hA0.n,hA0.marks,fun t _ => hA0.get t,fun j t v u hL => ?_,fun j j' v v' fo fo' hL => ?_⟩ hL0 (by simp [Array.count_replicate])
  · obtain ⟨hqlt,hqf,hqd⟩:=(ready_spec hI.closed.1).1 hready
    have hdsd:∀ i ∈ ds,L.getD i false = true:=dsOK_done hI.closed ds [q] (fun j hj i hji => by rw [List.mem_singleton.1 hj] at hji;exact hqd i hji) hds
    have hcase:∀ i,i < m → i = q ∨ L.getD i false = true ∨ i ∈ ls:=fun i hi => by
      have h1:=List.all_eq_true.1 hcov i (List.mem_range.2 hi)
      simp only [Bool.or_eq_true,beq_iff_eq,List.contains_iff_mem] at h1
      rcases h1 with (h1 | h1) | h1
      · exact .inl h1
      · exact .inr (.inl (hdsd i h1))
      · exact .inr (.inr h1)
    have hpend:∀ j v fo,j < m → res[j]? = some (v,some fo) → L.getD j false = true:=fun j v fo hj hr => by
      rcases hcase j hj with rfl | h1 | h1
      · obtain ⟨vq,hvq⟩:=hrq;rw [hvq] at hr;simp at hr
      · exact h1
      · exfalso
        have hjq:j ≠ q:=fun he => by subst he;obtain ⟨vq,hvq⟩:=hrq;rw [hvq] at hr;simp at hr
        have h2:=List.all_eq_true.1 hca j h1
        have hoj:ops[j]? = some (ops[j]'(by omega)):=Array.getElem?_eq_getElem _
        rw [hoj] at h2
        have h3:=hCal j (ops[j]'(by omega)) v (some fo) (by rw [List.getElem?_set_ne (fun he => hjq he.symm),hget j hj];exact hoj) (by rw [← hres,List.getElem?_set_ne (fun he => hjq he.symm)] at hr;exact hr) h2
        cases h3
    obtain ⟨bs,q1,q2,_,q4⟩:=ups_blocks (P:=P) (w:=w2) (s:=s2) (w0:={ w with drawn:=w.drawn + 1 }) (a:=a) (B:=B) l res 0 (fun j o v f ob d ho hr hdd => by
      have hj:j < m:=by have:=(List.getElem?_eq_some_iff.1 ho).1;omega
      rw [hget j hj] at ho
      have:=(hI.new j d v (some (f,ob)) (hpend j _ _ hj hr) (by simp [dstAt,ho,hdd]) hr).2 f ob rfl
      simpa using this) (fun j j' v v' fo fo' hr hr' he => by
      have hj:j < m:=by have:=(List.getElem?_eq_some_iff.1 hr).1;omega
      have hj':j' < m:=by have:=(List.getElem?_eq_some_iff.1 hr').1;omega
      exact hI.inj j j' v v' fo fo' (hpend j _ _ hj hr) (hpend j' _ _ hj' hr') hr hr' (by simpa using he))
    obtain ⟨un,hun⟩:∃ un,((List.range m).filterMap fun j => if L.getD j false = true then none else (dstAt ops j).map fun t => (t,V.undef)) = un:=⟨_,rfl⟩
    have hunu:∀ p ∈ un,p.2 = V.undef:=fun p hp => by
      rw [← hun] at hp
      obtain ⟨j,_,hj⟩:=List.mem_filterMap.1 hp
      split at hj
      · cases hj
      · obtain ⟨t,_,rfl⟩:=Option.map_eq_some_iff.1 hj;rfl
    have hunt:∀ t,(∃ p ∈ un,p.1 = t) ↔ ∃ j,j < m ∧ dstAt ops j = some t ∧ L.getD j false = false:=fun t => by
      rw [← hun]
      constructor
      · rintro ⟨p,hp,rfl⟩
        obtain ⟨j,hj,hjj⟩:=List.mem_filterMap.1 hp
        split at hjj
        · cases hjj
        · rename_i hLj
          obtain ⟨t,ht,rfl⟩:=Option.map_eq_some_iff.1 hjj
          exact ⟨j,List.mem_range.1 hj,ht,by simpa using hLj⟩
      · rintro ⟨j,hj,hdj,hLj⟩
        exact ⟨(t,V.undef),List.mem_filterMap.2 ⟨j,List.mem_range.2 hj,by rw [if_neg (by rw [hLj];simp),hdj];rfl⟩,rfl⟩
    have hfin:∀ j t v u,j < m → dstAt ops j = some t → res[j]? = some (v,u) → (envOf l res e).get t = v:=fun j t v u hj hdj hrj => by
      refine envOf_at l res e t j (ops[j]'(by omega)) v u (by rw [hget j hj];exact Array.getElem?_eq_getElem _) hrj (by simpa [dstAt,show j < ops.size by omega] using hdj) fun k o' hk ho' he => ?_
      have hkm:k < m:=by have:=(List.getElem?_eq_some_iff.1 ho').1;omega
      rw [hget k hkm] at ho'
      have:=hdstu j k t hj hkm hdj (by simp [dstAt,ho',he])
      omega
    have hA:ActOK w2 s2 n0 ⟨e.n,un ++ (envOf l res e).m⟩ a:=by
      refine ⟨hI.n,fun t => ?_,hI.marks⟩
      show Rep w2 s2 (getM _ t) _
      rcases getM_undef un (envOf l res e).m t hunu with ⟨_,h2⟩ | ⟨h1,h2⟩
      · rw [h2];exact .undef _
      · rw [h2]
        show Rep w2 s2 ((envOf l res e).get t) _
        by_cases hex:∃ j,j < m ∧ dstAt ops j = some t
        · obtain ⟨j,hj,hdj⟩:=hex
          have hLj:L.getD j false = true:=by
            cases hx:L.getD j false with
            | true => rfl
            | false => exact absurd ((hunt t).2 ⟨j,hj,hdj,hx⟩) h1
          obtain ⟨v,u,hrj⟩:∃ v u,res[j]? = some (v,u):=⟨(res[j]'(by omega)).1,(res[j]'(by omega)).2,List.getElem?_eq_getElem _⟩
          rw [hfin j t v u hj hdj hrj]
          exact (hI.new j t v u hLj hdj hrj).1
        · rw [envOf_other l res e t fun k o' ho' he => hex ⟨k,by have:=(List.getElem?_eq_some_iff.1 ho').1;omega,by rw [hget k (by have:=(List.getElem?_eq_some_iff.1 ho').1;omega)] at ho';simp [dstAt,ho',he]⟩]
          exact hI.old t fun j hj hdj => hex ⟨j,hj,hdj⟩
    obtain ⟨s3,k1,k2,k3,k4⟩:=register (upsOf l res) bs s2 _ hI.sim hI.ev (by rw [hI.st,← hst];exact Nat.le_refl _) hA q1 q2 q4
    rw [hI.st] at k3 k4
    rw [applyUps_st _ _ (envOf l res e),hs1] at k4
    have hknow:∀ t,(¬ ∃ j,j < m ∧ dstAt ops j = some t ∧ L.getD j false = false) → (applyUps (upsOf l res) (⟨e.n,un ++ (envOf l res e).m⟩:Env) st).1.get t = e1.get t:=fun t ht => by
      rw [← he1]
      refine applyUps_get _ _ _ _ _ ?_
      show getM _ t = getM _ t
      rcases getM_undef un (envOf l res e).m t hunu with ⟨h1,_⟩ | ⟨_,h2⟩
      · exact absurd ((hunt t).1 h1) ht
      · exact h2
    unfold wpOpIn
    rw [hoq]
    simp only
    rw [if_pos (by simp [Region.wanted,hg])]
    have hstep:step1 P gl ((applyUps (upsOf l res) (⟨e.n,un ++ (envOf l res e).m⟩:Env) st).1.ev gl) s1 oq.op (fun v s2 => v = .undef ∧ s2 = st'):=step1_congr (fun x hx => by
      cases x with
      | tmp t =>
        have ht:t ∈ oq.looksAt ops:=List.mem_append_left _ (List.mem_filterMap.2 ⟨.tmp t,by simpa using hx,rfl⟩)
        refine (hknow t fun ⟨j,hj,hdj,hLj⟩ => ?_).symm
        have:=hqd j (hlook q j oq t hqm hj hoq ht hdj)
        rw [hLj] at this;cases this
      | _ => rfl) hst'
    refine step1_sound hstep n0 w2 s3 a _ _ (Nat.le_trans hn hI.ev.size) k4 k1 k3 fun v x w4 s4 j1 j2 j3 ⟨_,j5⟩ => ?_
    rw [hd]
    have hE:=hE0.trans hs.len hs.len k2
    refine phaseB (e2:=e1) (st2:=st') (n0:=n0) (w0:=w) (s0:=s) hok ls hS (fun i o hi ho => ?_) hn hs.len (fun a5 w5 s5 p1 p2 p3 p4 => ?_) fuel _ a w4 s4 ⟨hI.closed.set hready,fun i hi => ?_,j5,j1,hE.trans hs.len k1.len j2,by rw [he1n];exact hI.n,k3.marks.evolve j2 k1.wf,fun t => ?_⟩ (fun i hi hLi => ?_) (by have:=count_set (L:=L) (i:=q) (by rw [hI.closed.1];omega) hLq;omega)
    · obtain ⟨o',d',ho',_,hd',_⟩:=awS_mem hS i hi
      rw [ho] at ho'
      cases ho'
      have him:i < m ∨ m ≤ i:=Nat.lt_or_ge i m
      have hiq:i ≠ q:=fun he => by subst he;rw [hoq] at ho;cases ho;rw [hd] at hd';cases hd'
      rcases him with him | him
      · obtain ⟨_,_,_,hfit,_⟩:=hat i o (by rw [hget i him];exact ho) hiq
        rw [hd'] at hfit ⊢
        have h1:d' < (envOf (l.take i) (res.take i) e).n:=hfit
        rw [envOf_n] at h1
        show d' < e1.n
        rw [he1n];exact h1
      · have:=List.all_eq_true.1 hlm i hi
        simp only [Nat.blt_eq] at this
        omega
    · have hl':(ops.toList.drop m).length = ops.size - m:=by simp
      rw [← hl']
      rw [← p4] at hrest
      refine awL_sound (r:=r) (ops.toList.drop m) m _ _ rfl hrest n0 w5 s5 a5 _ (Nat.le_trans hn p2.size) rfl p1 p3 fun e'' s'' a'' w'' j1 j2 j3 j4 => ⟨e'',s'',j1,p2.trans hs.len p1.len j2,j3,j4⟩
    · rw [getD_set (by rw [hI.closed.1];omega)] at hi
      split at hi
      · rename_i he;subst he;exact hqm
      · exact hI.pre i hi
    · by_cases hex:∃ j,j < m ∧ dstAt ops j = some t ∧ L.getD j false = false
      · obtain ⟨j,hj,hdj,hLj⟩:=hex
        refine .inl ⟨j,hj,hdj, ?_⟩
        rw [getD_set (by rw [hI.closed.1];omega),if_neg (fun he => by subst he;rw [hdq] at hdj;cases hdj)]
        exact hLj
      · right
        have:=(k3.get t).evolve j2 k1.wf
        rw [hknow t hex] at this
        exact this
    · rw [getD_set (by rw [hI.closed.1];omega)] at hLi
      split at hLi
      · cases hLi
      · rename_i hne
        rcases hcase i hi with h1 | h1 | h1
        · exact absurd h1.symm hne
        · rw [hLi] at h1;cases h1
        · exact h1
  all_goals (exfalso;simp only [Array.getD_eq_getD_getElem?,Array.getElem?_replicate] at *)
  · split at hi <;> simp at hi
  · split at hi <;> simp at hi
  · split at hL <;> simp at hL
  · split at hL <;> simp at hL
end
end Go.Duo
