/-
  A part of the proof.
-/
import Derived.Test.YtdlcnihacaboiaaGreatDoorGI
import Derived.Test.YtdlcnihacaboiaaGreatDoorGL
set_option linter.all false
namespace Go.Duo
open Go
section
variable {P:Program} {gl:Nat → V} {r:Option Nat} {e:Env} {st:List O} {Q:Exit → Env → List O → Prop}
def lateE (P:Program) (k:Nat) (ρ:Operand → V) (st:List O) (op:Op):Option (V × List O):=match op with
  | .call c => match c.args.toList,c.argTypes.toList with
    | [x,y],[t,u] => if t = u ∧ isTok (nilTok k (ρ x)) = true then appE P t st (nilTok k (ρ x)) (ρ y) else none
    | _,_ => none
  | _ => none
theorem lateE_sound {k:Nat} {ρ:Operand → V} {op:Op} {v:V} {st':List O} {K:V → List O → Prop} (h:lateE P k ρ st op = some (v,st')) (hk:K v st'):stepL P k ρ st op K:=by
  unfold lateE at h;unfold stepL
  cases op <;> simp only at h ⊢ <;> try (cases h;done)
  split at h <;> try (cases h;done)
  rename_i h1 h2
  simp only [h1,h2]
  split at h <;> try (cases h;done)
  rename_i hc
  exact ⟨hc.1,hc.2,appE_sound h hk⟩
theorem stepN_of_A {ρ:Operand → V} {op:Op} {K:V → Option ((Nat → V) × O) → Prop} (h1:stopOp op = false) (h2:lateOp op = false) (h3:rdRef ρ op = false) (h:stepA P gl ρ st op K):stepN P gl ρ st op K:=by
  have key:∀ {op':Op},op' = op → (if calm op' = true then step1 P gl ρ st op' (fun v _ => K v none) else False) → (if calm op' = true ∧ rdRef ρ op' = false then step1 P gl ρ st op' (fun v _ => K v none) else False):=fun he hh => by
    rw [he] at hh ⊢
    by_cases hc:calm op = true
    · rw [if_pos hc] at hh
      rw [if_pos ⟨hc,h3⟩];exact hh
    · rw [if_neg hc] at hh;exact hh.elim
  unfold stepA at h;unfold stepN
  cases op <;> try first | exact h | exact key rfl h
  rename_i c
  simp only at h ⊢
  cases hc:c.callee with
  | value f => simp [stopOp,hc] at h1
  | invoke a b => rw [hc] at h;exact key rfl h
  | builtin b =>
    rw [hc] at h
    cases b <;> first
      | exact key rfl h
      | (simp [lateOp,hc] at h2;done)
def tS (P:Program) (gl:Nat → V) (k:Nat):List Oper → Env → List O → List Up → Option (Env × List O × List Up × List Oper)
  | [],e,st,ups => some (e,st,ups,[])
  | o :: rest,e,st,ups => match o.guard with
    | some _ => none
    | none => match stopOp o.op with
      | true => some (e,st,ups,o :: rest)
      | false => match lateOp o.op with
        | true => match lateE P k (e.ev gl) st o.op with
          | some (v,st') => tS P gl k rest (e.put o.dst v) st' ups
          | none => none
        | false => match rdRef (e.ev gl) o.op,stepAE P nocall (e.ev gl) st o.op,o.dst with
          | false,some (v,none),d => tS P gl k rest (e.put d v) st ups
          | false,some (v,some (f,ob)),some d => tS P gl k rest (e.put (some d) v) st (ups ++ [(d,f,ob)])
          | _,_,_ => none
def tB (P:Program) (gl:Nat → V) (k:Nat) (b c:Bool) (o:Oper) (rest:List Oper) (e:Env) (st:List O) (ups:List Up):Option (Env × List O × List Up × List Oper) :=
  match b with
  | true => some (e,st,ups,o :: rest)
  | false => match c with
    | true => match lateE P k (e.ev gl) st o.op with
      | some (v,st') => tS P gl k rest (e.put o.dst v) st' ups
      | none => none
    | false => match rdRef (e.ev gl) o.op,stepAE P nocall (e.ev gl) st o.op,o.dst with
      | false,some (v,none),d => tS P gl k rest (e.put d v) st ups
      | false,some (v,some (f,ob)),some d => tS P gl k rest (e.put (some d) v) st (ups ++ [(d,f,ob)])
      | _,_,_ => none
def tR (b:Bool) (u:Option (V × Option ((Nat → V) × O))):Option (V × Option ((Nat → V) × O)):=match b with
  | true => none
  | false => u
def tL (P:Program) (gl:Nat → V) (k:Nat) (d:Option Tmp) (rest:List Oper) (e:Env) (ups:List Up):Option (V × List O) → Option (Env × List O × List Up × List Oper)
  | some (v,st') => tS P gl k rest (e.put d v) st' ups
  | none => none
def tC (P:Program) (gl:Nat → V) (k:Nat) (d:Option Tmp) (rest:List Oper) (e:Env) (st:List O) (ups:List Up):Option (V × Option ((Nat → V) × O)) → Option (Env × List O × List Up × List Oper)
  | some (v,none) => tS P gl k rest (e.put d v) st ups
  | some (v,some (f,ob)) => match d with
    | some d => tS P gl k rest (e.put (some d) v) st (ups ++ [(d,f,ob)])
    | none => none
  | none => none
theorem TS:(∀ (P:Program) (gl:Nat → V) (k:Nat) (e:Env) (st:List O) (ups:List Up),tS P gl k [] e st ups = some (e,st,ups,[])) ∧
    (∀ (P:Program) (gl:Nat → V) (k:Nat) (d:Option Tmp) (op:Op) (t:TypeId) (p:String) (a:Array Edge) (rest:List Oper) (e:Env) (st:List O) (ups:List Up),tS P gl k (⟨d,op,t,p,a,none⟩ :: rest) e st ups = tB P gl k (stopOp op) (lateOp op) ⟨d,op,t,p,a,none⟩ rest e st ups) ∧
    (∀ (P:Program) (gl:Nat → V) (k:Nat) (c:Bool) (o:Oper) (rest:List Oper) (e:Env) (st:List O) (ups:List Up),tB P gl k true c o rest e st ups = some (e,st,ups,o :: rest)) ∧
    (∀ (P:Program) (gl:Nat → V) (k:Nat) (d:Option Tmp) (op:Op) (t:TypeId) (p:String) (a:Array Edge) (rest:List Oper) (e:Env) (st:List O) (ups:List Up),tB P gl k false true ⟨d,op,t,p,a,none⟩ rest e st ups = tL P gl k d rest e ups (lateE P k (e.ev gl) st op)) ∧
    (∀ (P:Program) (gl:Nat → V) (k:Nat) (d:Option Tmp) (op:Op) (t:TypeId) (p:String) (a:Array Edge) (rest:List Oper) (e:Env) (st:List O) (ups:List Up),tB P gl k false false ⟨d,op,t,p,a,none⟩ rest e st ups = tC P gl k d rest e st ups (tR (rdRef (e.ev gl) op) (stepAE P nocall (e.ev gl) st op))) ∧ (∀ u,tR false u = u) ∧
    (∀ (P:Program) (gl:Nat → V) (k:Nat) (d:Option Tmp) (rest:List Oper) (e:Env) (ups:List Up) (v:V) (st':List O),tL P gl k d rest e ups (some (v,st')) = tS P gl k rest (e.put d v) st' ups) ∧
    (∀ (P:Program) (gl:Nat → V) (k:Nat) (d:Option Tmp) (rest:List Oper) (e:Env) (st:List O) (ups:List Up) (v:V),tC P gl k d rest e st ups (some (v,none)) = tS P gl k rest (e.put d v) st ups) ∧
    (∀ (P:Program) (gl:Nat → V) (k:Nat) (d:Tmp) (rest:List Oper) (e:Env) (st:List O) (ups:List Up) (v:V) (f:Nat → V) (ob:O),tC P gl k (some d) rest e st ups (some (v,some (f,ob))) = tS P gl k rest (e.put (some d) v) st (ups ++ [(d,f,ob)])):=by
  refine ⟨fun _ _ _ _ _ _ => rfl,fun P gl k d op t p a rest e st ups => ?_,fun _ _ _ _ _ _ _ _ _ => rfl,fun P gl k d op t p a rest e st ups => ?_,fun P gl k d op t p a rest e st ups => ?_,fun _ => rfl,fun _ _ _ _ _ _ _ _ _ => rfl,fun _ _ _ _ _ _ _ _ _ => rfl,fun _ _ _ _ _ _ _ _ _ _ _ => rfl⟩
  · simp only [tS,tB]
  · simp only [tB]
    cases lateE P k (e.ev gl) st op <;> rfl
  · simp only [tB]
    cases rdRef (e.ev gl) op <;> cases stepAE P nocall (e.ev gl) st op with
    | none => rfl
    | some u => obtain ⟨v,_ | ⟨f,ob⟩⟩:=u <;> cases d <;> rfl
theorem LT:(∀ (k:Nat),nilTok k .nil = .sl [] (some k)) ∧ (∀ (k:Nat) (es:List V) (t:Option Nat),nilTok k (.sl es t) = .sl es t) ∧ (∀ (es:List V) (t:Nat),isTok (.sl es (some t)) = true) ∧ (∀ es:List V,isTok (.sl es none) = false) ∧ (∀ k i v:Nat,nilTok k (.ref i v) = .ref i v) ∧ (∀ i v:Nat,isTok (.ref i v) = true) ∧
    (∀ (a:Array Operand) (b:Array TypeId),lateOp (.call ⟨.builtin .append,a,b⟩) = true) ∧ (∀ (a:Array Operand) (b:Array TypeId),lateOp (.call ⟨.builtin .len,a,b⟩) = false) ∧ (∀ (a:Array Operand) (b:Array TypeId),lateOp (.call ⟨.builtin .max,a,b⟩) = false) ∧ (∀ (a:Array Operand) (b:Array TypeId),lateOp (.call ⟨.builtin .min,a,b⟩) = false) ∧
    (∀ (x:Operand),lateOp (.move x) = false) ∧ (∀ (x:Operand),lateOp (.assign x) = false) ∧ (∀ (c a b:Operand),lateOp (.pick c a b) = false) ∧ (∀ (t:TypeId),lateOp (.alloc t) = false) ∧ (∀ (t:TypeId) (ps:Array (Nat × Operand)),lateOp (.build t ps) = false) ∧ (∀ (t:TypeId) (n:Nat) (ps:Array (Nat × Operand)),lateOp (.buildSlice t n ps) = false) ∧
    (∀ (t:TypeId) (x:Operand),lateOp (.load t x) = false) ∧ (∀ (x:Operand),lateOp (.nilCheck x) = false) ∧ (∀ (op:BinOp) (t:TypeId) (x y:Operand) (u:TypeId),lateOp (.binOp op t x y u) = false) ∧ (∀ (op:UnOp) (t:TypeId) (x:Operand),lateOp (.unOp op t x) = false) ∧ (∀ (t u:TypeId) (x:Operand),lateOp (.convert t u x) = false) ∧
    (∀ (fn:Fn) (a b:Array Operand),lateOp (.makeFunc fn a b) = false) ∧ (∀ (t:TypeId) (x:Operand) (a b c:Option Operand),lateOp (.slice t x a b c) = false) ∧ (∀ (t:TypeId) (x:Operand) (f:Nat),lateOp (.fieldAddr t x f) = false) ∧ (∀ (t:TypeId) (x:Operand) (f:Nat),lateOp (.field t x f) = false) ∧
    (∀ (t:TypeId) (x i:Operand),lateOp (.indexAddr t x i) = false) ∧ (∀ (t:TypeId) (x i:Operand),lateOp (.index t x i) = false) ∧ (∀ (x:Operand) (i:Nat),lateOp (.extract x i) = false) ∧ ((#[]:Array (Nat × Operand)).size = 0) :=
  ⟨fun _ => rfl,fun _ _ _ => rfl,fun _ _ => rfl,fun _ => rfl,fun _ _ _ => rfl,fun _ _ => rfl,fun _ _ => rfl,fun _ _ => rfl,fun _ _ => rfl,fun _ _ => rfl,fun _ => rfl,fun _ => rfl,fun _ _ _ => rfl,fun _ => rfl,fun _ _ => rfl,fun _ _ _ => rfl,fun _ _ => rfl,fun _ => rfl,fun _ _ _ _ _ => rfl,fun _ _ _ => rfl,fun _ _ _ => rfl,fun _ _ _ => rfl,fun _ _ _ _ _ => rfl,fun _ _ _ => rfl,fun _ _ _ => rfl,fun _ _ _ => rfl,fun _ _ _ => rfl,fun _ _ => rfl,rfl⟩
theorem awT_S {k:Nat} {K:Env → List O → Prop}:∀ {l:List Oper} {e:Env} {st:List O} {ups:List Up} {e':Env} {st':List O} {ups':List Up} {rest:List Oper},fitsL e.n l = true → tS P gl k l e st ups = some (e',st',ups',rest) → awT P gl k rest e' st' ups' K → awT P gl k l e st ups K:=by
  intro l
  induction l with
  | nil =>
    intro e st ups e' st' ups' rest _ h hk
    simp only [tS,Option.some.injEq,Prod.mk.injEq] at h
    obtain ⟨rfl,rfl,rfl,rfl⟩:=h
    exact hk
  | cons o l ih =>
    intro e st ups e' st' ups' rest hf h hk
    unfold tS at h
    split at h
    · cases h
    · rename_i hg
      split at h
      · simp only [Option.some.injEq,Prod.mk.injEq] at h
        obtain ⟨rfl,rfl,rfl,rfl⟩:=h
        exact hk
      · rename_i hso
        simp only [fitsL,Bool.and_eq_true] at hf
        have hfit:e.fits o.dst:=by
          cases hd:o.dst with
          | none => trivial
          | some d => have:=hf.1;rw [hd] at this;simpa [Env.fits] using this
        unfold awT
        refine ⟨hg,hfit, ?_⟩
        split at h
        · rename_i hla
          rw [hla]
          split at h <;> try (cases h;done)
          rename_i hs
          exact lateE_sound hs (ih (by rw [put_n];exact hf.2) h hk)
        · rename_i hla
          rw [hla]
          split at h <;> try (cases h;done)
          · rename_i hrd hs
            refine stepN_of_A hso hla hrd ?_
            refine stepAE_sound nocall_ok hs ?_
            exact ih (by rw [put_n];exact hf.2) h hk
          · rename_i hrd hs hd
            refine stepN_of_A hso hla hrd ?_
            refine stepAE_sound nocall_ok hs ?_
            rw [hd]
            exact ih (by rw [put_n];exact hf.2) h hk
theorem awT_S1 {k:Nat} {K:Env → List O → Prop} {d:Option Tmp} {op:Op} {t:TypeId} {p:String} {a:Array Edge} {l:List Oper} {ups:List Up} {e':Env} {st':List O} {ups':List Up} {rest:List Oper} (_:stopOp op = false) (hf:fitsL e.n (⟨d,op,t,p,a,none⟩ :: l) = true)
    (h:tS P gl k (⟨d,op,t,p,a,none⟩ :: l) e st ups = some (e',st',ups',rest)) (hk:awT P gl k rest e' st' ups' K):awT P gl k (⟨d,op,t,p,a,none⟩ :: l) e st ups K:=awT_S hf h hk
theorem awT_nil {k:Nat} {ups:List Up} {K:Env → List O → Prop} {e':Env} {st':List O} (ha:applyUps ups e st = (e',st')) (h:K e' st'):awT P gl k [] e st ups K:=by
  unfold awT;rw [ha];exact h
theorem awT_call {k0:Nat} {K:Env → List O → Prop} {d:Option Tmp} {f:Operand} {args:Array Operand} {ats:Array TypeId} {t:TypeId} {p:String} {a:Array Edge} {rest:List Oper} {ups:List Up} {k:FuncId} {fs cs:List V} {vs:List V} {v0:V}
    (hf:e.ev gl f = .func (.func k) fs cs) (he:ent P k = true) (ha:fs ++ args.toList.map (e.ev gl) ++ cs = vs) (hc:∀ st',TkEq st st' → Call P gl k vs st' fun v s2 => v = v0 ∧ s2 = st') (hfit:fitB e d = true) (hk:awT P gl k0 rest (e.put d v0) st ups K) :
    awT P gl k0 (⟨d,.call ⟨.value f,args,ats⟩,t,p,a,none⟩ :: rest) e st ups K:=by
  unfold awT
  refine ⟨rfl,fits_of hfit, ?_⟩
  simp only [lateOp,stepN,hf,ha]
  exact ⟨he,v0,hc,hk⟩
theorem AW.anyT1 {id:Nat} {ops:Array Oper} (hfol:P.follows .mixedOrders = true) (m:Nat) (el:TypeId) (sz:Nat) (hok:(anyOK ops m && chainT ops m) = true)
    (h:awT P gl st.length (ops.toList.take m) e (st ++ [.tok el sz 0]) [] fun e1 s1 => awL P gl ops (ops.toList.drop m) e1 s1 (Q .normal)):AW P gl r (.region id ops true) Q e st :=
  AW.tok el sz (AW.anyT hfol m st.length hok h)
theorem awL_appR {ops:Array Oper} {K:Env → List O → Prop} {d:Option Tmp} {x y:Operand} {ty t:TypeId} {p:String} {a:Array Edge} {rest:List Oper} (k ver:Nat) {el sz by_:Nat} {es2:List V}
    (hx:e.ev gl x = .nil) (ho:st[k]? = some (.arr el sz ver [])) (he:elt P ty = some (el,sz,by_)) (hr:rowOf (e.ev gl y) = some es2) (h:(es2.all fun e => e.cells.length == sz) = true ∧ es2.length * by_ ≤ 140737488355328 ∧ es2.length ≤ maxLen) (hfit:fitB e d = true)
    (hk:awL P gl ops rest (e.put d (.ref k (ver + 1))) (st.set k (.arr el sz (ver + 1) es2)) K):awL P gl ops (⟨d,.call ⟨.builtin .append,#[x,y],#[ty,ty]⟩,t,p,a,none⟩ :: rest) e st K:=by
  unfold awL
  refine ⟨fits_of hfit, ?_⟩
  show ty = ty ∧ appendP P ty st (e.ev gl x) (e.ev gl y) _
  refine ⟨rfl, ?_⟩
  unfold appendP
  rw [hx,he,hr]
  exact ⟨fun e he => by simpa using List.all_eq_true.1 h.1 e he,h.2.1,h.2.2,.inr ⟨k,ver,ho,hk⟩⟩
theorem awL_split {ops:Array Oper}:∀ (n:Nat) {l:List Oper} {e:Env} {st:List O} {K:Env → List O → Prop},awL P gl ops (l.take n) e st (fun e1 s1 => awL P gl ops (l.drop n) e1 s1 K) → awL P gl ops l e st K:=by
  have key:∀ (l1 l2:List Oper) (e:Env) (st:List O) (K:Env → List O → Prop),awL P gl ops l1 e st (fun e1 s1 => awL P gl ops l2 e1 s1 K) → awL P gl ops (l1 ++ l2) e st K:=by
    intro l1
    induction l1 with
    | nil => intro l2 e st K h;exact h
    | cons o l1 ih =>
      intro l2 e st K h
      rw [List.cons_append]
      unfold awL at h ⊢
      refine ⟨h.1, ?_⟩
      have h:=h.2
      cases hg:o.guard with
      | none =>
        rw [hg] at h
        exact step1_mono (fun v st' hk => ih _ _ _ _ hk) h
      | some jw =>
        obtain ⟨j,want⟩:=jw
        rw [hg] at h
        simp only at h ⊢
        cases hd:(ops[j]?).bind (·.dst) with
        | none => rw [hd] at h;exact h.elim
        | some d =>
          rw [hd] at h
          simp only at h ⊢
          cases hv:e.get d <;> rw [hv] at h <;> try exact h.elim
          case tuple cs =>
            cases cs with
            | cons c cs => exact h.elim
            | nil => exact ih _ _ _ _ h
          case bool b =>
            refine ⟨fun hb => ?_,fun hb => ?_⟩
            · have h1:=h.1 hb
              split at h1
              · rw [if_pos (by assumption)];exact step1_mono (fun v st' hk => ih _ _ _ _ hk) h1
              · rw [if_neg (by assumption)];exact ih _ _ _ _ h1
            · have h1:=h.2 hb
              split at h1
              · rw [if_pos (by assumption)];exact ih _ _ _ _ h1
              · rw [if_neg (by assumption)];exact step1_mono (fun v st' hk => ih _ _ _ _ hk) h1
  intro n l e st K h
  rw [← List.take_append_drop n l]
  exact key _ _ _ _ _ h
theorem AW.regionR {id:Nat} {ops:Array Oper} (n:Nat) (h:awL P gl ops (ops.toList.take n) e st fun e1 s1 => awL P gl ops (ops.toList.drop n) e1 s1 (Q .normal)):AW P gl r (.region id ops false) Q e st:=AW.region (awL_split n h)
theorem AW.loopC {α:Type} {c:Code} (n:Nat) (m:α → List (Nat × V)) (μ:α → Nat) (a0:α) (hn:Nat.ble n e.n = true) (h0:e.has st (m a0))
    (round:∀ a,Clo st → AW P gl r c (thenQ (fun e' st' => ∃ a',μ a' < μ a ∧ ∃ k,st.length ≤ k ∧ n ≤ e'.n ∧ (e'.trim k).has (trimS k st') (m a') ∧ StLe (trimS k st') st) Q) ⟨n,m a⟩ st):AW P gl r (.loop c) Q e st :=
  AW.loopS n m (fun _ => st) μ a0 hn h0 (StLe.refl _) round
attribute [go_sem] TS LT lateE rdRef isRf
end
end Go.Duo
