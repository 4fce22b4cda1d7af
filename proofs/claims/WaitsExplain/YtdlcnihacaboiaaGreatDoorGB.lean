/-
  A part of the proof.
-/
import Derived.ChangeKeysEq
import Derived.Test.YtdlcnihacaboiaaGreatDoorGA
import Derived.Laws.StructEq
set_option linter.all false
namespace Go.Duo
open Go
def lay (P:Program) (t:TypeId):Option (Nat × Bool) :=
  match P.info? t,P.underlying t with
  | some i,some d => match d with
    | .struct _ | .array _ _ => some (i.size,true)
    | _ => if i.size = 1 then some (1,false) else none
  | _,_ => none
def pack (g:Bool) (n:Nat) (cs:List V):V:=if g then .agg (cs.take n) else cs.headD .undef
def loadP (P:Program) (t:TypeId) (st:List O) (x:V) (K:V → Prop):Prop :=
  match lay P t with
  | none => False
  | some (n,g) => match x with
    | .ptr id off => match st[id]? with
      | some (.box _ cs) => off + n ≤ cs.length ∧ K (pack g n (cs.drop off))
      | _ => False
    | .dptr cs => n ≤ cs.length ∧ K (pack g n cs)
    | .rptr id ver off => match st[id]? with
      | some (.arr _ _ v es) => ver = v ∧ off + n ≤ (flat es).length ∧ K (pack g n ((flat es).drop off))
      | _ => False
    | _ => False
def splice (cs:List V) (off:Nat) (ys:List V):List V:=cs.take off ++ ys ++ cs.drop (off + ys.length)
def storeP (P:Program) (t:TypeId) (st:List O) (x y:V) (K:List O → Prop):Prop :=
  match lay P t with
  | none => False
  | some (n,_) => match x with
    | .ptr id off => match st[id]? with
      | some (.box t' cs) => y.cells.length = n ∧ y.cells.all V.one = true ∧ off + n ≤ cs.length ∧ K (st.set id (.box t' (splice cs off y.cells)))
      | _ => False
    | .rptr id ver off => match st[id]? with
      | some (.arr e sz v es) => ver = v ∧ n = sz ∧ off % sz = 0 ∧ off / sz < es.length ∧ y.cells.length = n ∧ y.cells.all V.one = true ∧ (∀ c ∈ y.cells,PureV c) ∧ K (st.set id (.arr e sz v (es.set (off / sz) y.bare)))
      | _ => False
    | _ => False
def fld (P:Program) (s:TypeId) (f:Nat):Option (Nat × Nat × Bool) :=
  match P.underlying s with
  | some (.struct fs) => (fs[f]?).bind fun f => (lay P f.type).map fun n => (f.offset,n)
  | _ => none
def elt (P:Program) (t:TypeId):Option (TypeId × Nat × Nat) :=
  match P.underlying t with
  | some (.slice e) => (P.info? e).bind fun i => i.zero.bind fun z => if z.cells.size = i.size ∧ 0 < i.size then some (e,i.size,i.bytes) else none
  | _ => none
def arr (P:Program) (t:TypeId):Option (Nat × Nat × Bool) :=
  match P.underlying t with
  | some (.array n e) => (lay P e).map fun m => (n,m)
  | _ => none
def zro (P:Program) (t:TypeId):Option (List V):=((P.info? t).bind (·.zero)).map fun z => z.cells.toList.map V.ofConst
def intP (op:BinOp) (k:IntKind) (a:Int) (k':IntKind) (b:Int) (K:V → Prop):Prop :=
  match op with
  | .add => k = k' ∧ K (.int k (k.wrap (a + b)))
  | .sub => k = k' ∧ K (.int k (k.wrap (a - b)))
  | .mul => k = k' ∧ K (.int k (k.wrap (a * b)))
  | .quo => k = k' ∧ b ≠ 0 ∧ K (.int k (k.wrap (a.tdiv b)))
  | .rem => k = k' ∧ b ≠ 0 ∧ K (.int k (a.tmod b))
  | .eql => k = k' ∧ K (.bool (decide (a = b)))
  | .neq => k = k' ∧ K (.bool (decide (a ≠ b)))
  | .lss => k = k' ∧ K (.bool (decide (a < b)))
  | .leq => k = k' ∧ K (.bool (decide (a ≤ b)))
  | .gtr => k = k' ∧ K (.bool (decide (b < a)))
  | .geq => k = k' ∧ K (.bool (decide (b ≤ a)))
  | .shl => 0 ≤ b ∧ K (.int k (k.wrap (a * 2 ^ (min b.toNat k.bits))))
  | .shr => 0 ≤ b ∧ K (.int k (a.fdiv (2 ^ (min b.toNat k.bits))))
  | .and => k = k' ∧ K (.int k (k.wrap ((BitVec.ofInt k.bits a &&& BitVec.ofInt k.bits b).toNat)))
  | .or => k = k' ∧ K (.int k (k.wrap ((BitVec.ofInt k.bits a ||| BitVec.ofInt k.bits b).toNat)))
  | _ => False
def strP (op:BinOp) (a b:List UInt8) (K:V → Prop):Prop :=
  match op with
  | .add => a.length + b.length ≤ 9223372036854775807 ∧ K (.str (a ++ b))
  | .eql => K (.bool (decide (a = b)))
  | .neq => K (.bool (decide (a ≠ b)))
  | .lss => K (.bool (Op.bytesLess a b))
  | _ => False
def sKinds (P:Program):Nat → List Field → Option (List Nat)
  | _,[] => some []
  | i,f :: fs => if (f.name == "_") = false ∧ f.offset = i ∧ lay P f.type = some (1,false) then
      match P.underlying f.type with
      | some (.int _) => (sKinds P (i + 1) fs).map (0 :: ·)
      | some .string => (sKinds P (i + 1) fs).map (1 :: ·)
      | some .bool => (sKinds P (i + 1) fs).map (2 :: ·)
      | _ => none
    else none
def sEq (P:Program) (t:TypeId):Option (List Nat) :=
  match P.underlying t with
  | some (.struct fs) => if P.eqGuardType P.depth t = false ∧ P.stoodInHeld t = false then sKinds P 0 fs.toList else none
  | some (.array n e) => if P.eqGuardType P.depth t = false ∧ lay P e = some (1,false) then match P.underlying e with
      | some (.int _) => some (List.replicate n 0)
      | some .string => some (List.replicate n 1)
      | some .bool => some (List.replicate n 2)
      | _ => none
    else none
  | _ => none
def cmpV:Nat → V → V → Option Bool
  | 0,.int k a,.int k' b => if k = k' then some (decide (a = b)) else none
  | 1,.str a,.str b => some (decide (a = b))
  | 2,.bool a,.bool b => some (decide (a = b))
  | _,_,_ => none
def cmpL:List Nat → List V → List V → Option Bool
  | [],[],[] => some true
  | k :: ks,x :: xs,y :: ys => match cmpV k x y,cmpL ks xs ys with
    | some a,some b => some (a && b)
    | _,_ => none
  | _,_,_ => none
def eqP (P:Program) (xt:TypeId) (op:BinOp) (a b:List V) (K:V → Prop):Prop :=
  match sEq P xt with
  | some ks => match cmpL ks a b with
    | some r => match op with
      | .eql => K (.bool r)
      | .neq => K (.bool (!r))
      | _ => False
    | none => False
  | none => False
def binP (P:Program) (xt:TypeId) (op:BinOp) (x y:V) (K:V → Prop):Prop :=
  match x,y with
  | .int k a,.int k' b => intP op k a k' b K
  | .bool a,.bool b => match op with
    | .eql => P.underlying xt = some .bool ∧ K (.bool (decide (a = b)))
    | .neq => P.underlying xt = some .bool ∧ K (.bool (decide (a ≠ b)))
    | _ => False
  | .str a,.str b => strP op a b K
  | .agg a,.agg b => eqP P xt op a b K
  | _,_ => False
def unP (op:UnOp) (x:V) (K:V → Prop):Prop :=
  match op,x with
  | .not,.bool b => K (.bool (!b))
  | .neg,.int k n => K (.int k (k.wrap (0 - n)))
  | _,_ => False
section
variable {P:Program} {w:World} {s:S} {x y:Value} {a b:V} {K:V → Prop}
theorem toList_mk (l:List UInt8):(⟨l.toArray⟩:ByteArray).toList = l:=by
  rw [ByteArray.toList_eq]
theorem int_sound {op:BinOp} {k k':IntKind} {m n:Int} {xt:TypeId} (h:intP op k m k' n K):∃ v z,(binOp op xt (.int k m) (.int k' n)).run P w = .ok z w ∧ Rep w s v z ∧ K v:=by
  cases op <;> simp only [intP] at h
  case shl =>
    obtain ⟨h0,h⟩:=h
    refine ⟨_,_, ?_,.pure _ _ (.int _ _),h⟩
    simp only [binOp,Op.shift]
    rw [if_neg (by omega)]
    rfl
  case shr =>
    obtain ⟨h0,h⟩:=h
    refine ⟨_,_, ?_,.pure _ _ (.int _ _),h⟩
    simp only [binOp,Op.shift]
    rw [if_neg (by omega)]
    rfl
  case quo =>
    obtain ⟨rfl,h0,h⟩:=h
    refine ⟨_,_, ?_,.pure _ _ (.int _ _),h⟩
    simp [binOp,Op.intDiv,h0]
  case rem =>
    obtain ⟨rfl,h0,h⟩:=h
    refine ⟨_,_, ?_,.pure _ _ (.int _ _),h⟩
    simp [binOp,Op.intDiv,h0]
  case and =>
    obtain ⟨rfl,h⟩:=h
    refine ⟨_,_, ?_,.pure _ _ (.int _ _),h⟩
    simp [binOp,Op.intBits]
  case or =>
    obtain ⟨rfl,h⟩:=h
    refine ⟨_,_, ?_,.pure _ _ (.int _ _),h⟩
    simp [binOp,Op.intBits]
  all_goals (first
    | (obtain ⟨rfl,h⟩:=h;refine ⟨_,_, ?_,.pure _ _ (.int _ _),h⟩;simp [binOp,Op.intArith];done)
    | (obtain ⟨rfl,h⟩:=h;refine ⟨_,_, ?_,.pure _ _ (.bool _),h⟩;simp [binOp,Op.intCmp];done)
    | (obtain ⟨rfl,h⟩:=h;refine ⟨_,_, ?_,.pure _ _ (.bool _),h⟩;simp [binOp,Op.intCmp];by_cases e:m = n <;> simp [e];done))
theorem str_sound {op:BinOp} {m n:List UInt8} {xt:TypeId} (h:strP op m n K):∃ v z,(binOp op xt (.string ⟨m.toArray⟩) (.string ⟨n.toArray⟩)).run P w = .ok z w ∧ Rep w s v z ∧ K v:=by
  cases op <;> simp only [strP] at h
  case add =>
    obtain ⟨h0,h⟩:=h
    refine ⟨_,_, ?_,.pure _ _ (.str _),h⟩
    have hs:((ByteArray.mk m.toArray).size:Nat) = m.length:=by simp [ByteArray.size]
    have hs':((ByteArray.mk n.toArray).size:Nat) = n.length:=by simp [ByteArray.size]
    simp only [binOp,Op.stringOp,hs,hs']
    rw [if_neg (by simp [IntKind.max,IntKind.signed,IntKind.bits];omega)]
    show Result.ok _ _ = _
    congr 2
  all_goals (refine ⟨_,_, ?_,.pure _ _ (.bool _),h⟩;simp only [binOp,Op.stringOp,toList_mk,Sem.run_pure];try (by_cases e:m = n <;> simp [e]))
theorem eqGuard_calm (op:BinOp) (t:TypeId) (ox oy:Operand) (hx:(∀ cs,x ≠ .agg cs) ∧ x ≠ .nilIface):(eqGuard op t ox oy x y).run P w = .ok () w:=by
  unfold eqGuard
  cases op <;> first | rfl | (cases x <;> first | rfl | exact absurd rfl (hx.1 _) | exact absurd rfl hx.2)
theorem run_equal_bool {xt:TypeId} (p q:Bool) (h:P.underlying xt = some .bool):(Op.equal xt (.bool p) (.bool q)).run P w = .ok (p == q) w:=by
  unfold Op.equal
  rw [show Op.maxDepth = 9999 + 1 from rfl]
  unfold Op.equalIn
  rw [Sem.run_bind,run_underlying h]
  rfl
theorem lay_runs {t:TypeId} {n:Nat} {g:Bool} (h:lay P t = some (n,g)) (w:World):(sizeOf t).run P w = .ok n w ∧ (isAgg t).run P w = .ok g w ∧ (g = false → n = 1):=by
  unfold lay at h
  cases hi:P.info? t with
  | none => simp [hi] at h
  | some i =>
    cases hd:P.underlying t with
    | none => simp [hi,hd] at h
    | some d =>
      rw [hi,hd] at h
      have hs:∀ m,i.size = m → (sizeOf t).run P w = .ok m w:=fun m hm => by simp [sizeOf,typeInfo,hi,hm]
      have ha:∀ b,(match d with | .struct _ | .array _ _ => true | _ => false) = b → (isAgg t).run P w = .ok b w:=fun b hb => by
        unfold isAgg
        rw [Sem.run_bind,run_underlying hd]
        subst hb
        cases d <;> rfl
      cases d <;> simp only [Option.some.injEq,Prod.mk.injEq] at h
      case struct => obtain ⟨rfl,rfl⟩:=h;exact ⟨hs _ rfl,ha _ rfl,fun e => by cases e⟩
      case array => obtain ⟨rfl,rfl⟩:=h;exact ⟨hs _ rfl,ha _ rfl,fun e => by cases e⟩
      all_goals
        split at h
        · simp only [Option.some.injEq,Prod.mk.injEq] at h
          obtain ⟨rfl,rfl⟩:=h
          exact ⟨hs _ (by assumption),ha _ rfl,fun _ => rfl⟩
        · cases h
theorem run_part {t:TypeId} {n:Nat} {g:Bool} (hl:lay P t = some (n,g)) {xs:List Value} {off:Nat} (hoff:off + n ≤ xs.length):(part t xs.toArray off).run P w = .ok (if g then .agg ((xs.drop off).take n).toArray else ((xs.drop off).take n).headD undef) w:=by
  obtain ⟨h1,h2,h3⟩:=lay_runs hl w
  unfold part
  rw [Sem.run_bind,h2,Result.andThen_ok]
  cases g with
  | true =>
    simp only [if_true]
    rw [Sem.run_bind,h1,Result.andThen_ok]
    simp only [Sem.run_pure,Result.ok.injEq,Value.agg.injEq,and_true]
    apply Array.ext'
    simp
  | false =>
    obtain rfl:=h3 rfl
    have hlt:off < xs.length:=by omega
    simp only [Bool.false_eq_true,if_false,List.getElem?_toArray,List.getElem?_eq_getElem hlt,Sem.run_pure]
    rw [List.drop_eq_getElem_cons hlt]
    rfl
theorem cmpV_sound {d k:Nat} {f:Field} {c e:V} {x y:Value} {r:Bool} (hk:match P.underlying f.type with | some (.int _) => k = 0 | some .string => k = 1 | some .bool => k = 2 | _ => False) (hx:Rep w s c x) (hy:Rep w s e y) (h:cmpV k c e = some r):(Op.equalIn (d + 1) f.type x y).run P w = .ok r w:=by
  cases hu:P.underlying f.type with
  | none => simp [hu] at hk
  | some u =>
    rw [hu] at hk
    cases u <;> simp only at hk <;> subst hk
    case bool =>
      cases c <;> cases e <;> simp only [cmpV,Option.some.injEq,reduceCtorEq] at h
      cases hx.bool_inv
      cases hy.bool_inv
      rw [run_equalIn_bool' w d _ _ _ hu,← h]
      rename_i p q
      cases p <;> cases q <;> rfl
    case int =>
      cases c <;> cases e <;> simp only [cmpV,reduceCtorEq] at h
      cases hx.int_inv
      cases hy.int_inv
      split at h
      · subst_vars
        simp only [Option.some.injEq] at h
        rw [run_equalIn_int w d _ _ _ _ _ hu,← h]
        rfl
      · cases h
    case string =>
      cases c <;> cases e <;> simp only [cmpV,Option.some.injEq,reduceCtorEq] at h
      cases hx.str_inv
      cases hy.str_inv
      rw [run_equalIn_string w d _ _ _ hu,← h]
      rename_i p q
      congr 1
      rw [ByteArray.toList_eq,ByteArray.toList_eq]
      show (p.toArray.toList == q.toArray.toList) = decide (p = q)
      simp only [List.toList_toArray]
      by_cases e:p = q
      · subst e;simp
      · rw [decide_eq_false e];exact beq_false_of_ne e
theorem eqFields_sound {d:Nat} {X Y:List Value}:∀ (fs:List Field) (i:Nat) (ks:List Nat) (a b:List V) (r:Bool),sKinds P i fs = some ks → cmpL ks a b = some r → i + a.length ≤ X.length → i + b.length ≤ Y.length →
    (∀ (j:Nat) (c:V) (x:Value),a[j]? = some c → X[i + j]? = some x → Rep w s c x) → (∀ (j:Nat) (c:V) (x:Value),b[j]? = some c → Y[i + j]? = some x → Rep w s c x) → (Op.eqFields (d + 1) X.toArray Y.toArray fs).run P w = .ok r w:=by
  intro fs
  induction fs with
  | nil =>
    intro i ks a b r hk hc _ _ _ _
    simp only [sKinds,Option.some.injEq] at hk
    subst hk
    cases a <;> cases b <;> simp only [cmpL,Option.some.injEq,reduceCtorEq] at hc
    subst hc
    simp [Op.eqFields]
  | cons f fs ih =>
    intro i ks a b r hk hc hla hlb ha hb
    unfold sKinds at hk
    split at hk
    · rename_i hcond
      obtain ⟨hn,ho,hl⟩:=hcond
      have hk':∃ k ks',ks = k :: ks' ∧ sKinds P (i + 1) fs = some ks' ∧ (match P.underlying f.type with | some (.int _) => k = 0 | some .string => k = 1 | some .bool => k = 2 | _ => False):=by
        cases hu:P.underlying f.type with
        | none => simp [hu] at hk
        | some u =>
          rw [hu] at hk
          cases u <;> simp only [reduceCtorEq,Option.map_eq_some_iff] at hk <;> (obtain ⟨ks',h1,rfl⟩:=hk;exact ⟨_,ks',rfl,h1,rfl⟩)
      obtain ⟨k,ks',rfl,hks,hkk⟩:=hk'
      cases a with
      | nil => cases b <;> simp [cmpL] at hc
      | cons c a =>
        cases b with
        | nil => simp [cmpL] at hc
        | cons e b =>
          simp only [cmpL] at hc
          cases hv:cmpV k c e with
          | none => simp [hv] at hc
          | some p =>
            cases hq:cmpL ks' a b with
            | none => simp [hv,hq] at hc
            | some q =>
              rw [hv,hq] at hc
              simp only [Option.some.injEq] at hc
              subst hc
              simp only [List.length_cons] at hla hlb
              have hx:(part f.type X.toArray f.offset).run P w = .ok (((X.drop i).take 1).headD undef) w:=by rw [ho];exact run_part hl (by omega)
              have hy:(part f.type Y.toArray f.offset).run P w = .ok (((Y.drop i).take 1).headD undef) w:=by rw [ho];exact run_part hl (by omega)
              have hX:((X.drop i).take 1).headD undef = X[i]'(by omega):=by rw [List.drop_eq_getElem_cons (by omega)];rfl
              have hY:((Y.drop i).take 1).headD undef = Y[i]'(by omega):=by rw [List.drop_eq_getElem_cons (by omega)];rfl
              rw [hX] at hx
              rw [hY] at hy
              have he:=cmpV_sound (d:=d) (f:=f) hkk (ha 0 c _ rfl (List.getElem?_eq_getElem (by omega))) (hb 0 e _ rfl (List.getElem?_eq_getElem (by omega))) hv
              have hr:=ih (i + 1) ks' a b q hks hq (by omega) (by omega) (fun j c x hc hx => ha (j + 1) c x (by simpa using hc) (by rw [show i + (j + 1) = i + 1 + j by omega];exact hx)) (fun j c x hc hx => hb (j + 1) c x (by simpa using hc) (by rw [show i + (j + 1) = i + 1 + j by omega];exact hx))
              have hn':f.name ≠ "_":=by simpa using hn
              rw [Op.eqFields]
              simp only [if_pos hn',Sem.run_bind,hx,hy,Result.andThen_ok]
              simp only [Nat.add_zero] at he
              rw [he]
              simp only [Result.andThen_ok]
              cases p
              · simp
              · simpa using hr
    · cases hk
theorem eqItems_sound {d k:Nat} {e:TypeId} {X Y:List Value} (hl:lay P e = some (1,false)) (hk:match P.underlying e with | some (.int _) => k = 0 | some .string => k = 1 | some .bool => k = 2 | _ => False) :
    ∀ (m i:Nat) (a b:List V) (r:Bool),cmpL (List.replicate m k) a b = some r → i + a.length ≤ X.length → i + b.length ≤ Y.length →
    (∀ (j:Nat) (c:V) (x:Value),a[j]? = some c → X[i + j]? = some x → Rep w s c x) → (∀ (j:Nat) (c:V) (x:Value),b[j]? = some c → Y[i + j]? = some x → Rep w s c x) → (Op.eqItems (d + 1) e 1 X.toArray Y.toArray (List.range' i m)).run P w = .ok r w:=by
  intro m
  induction m with
  | zero =>
    intro i a b r hc _ _ _ _
    cases a <;> cases b <;> simp only [List.replicate_zero,cmpL,Option.some.injEq,reduceCtorEq] at hc
    subst hc
    simp [Op.eqItems]
  | succ m ih =>
    intro i a b r hc hla hlb ha hb
    rw [List.replicate_succ] at hc
    cases a with
    | nil => cases b <;> simp [cmpL] at hc
    | cons c a =>
      cases b with
      | nil => simp [cmpL] at hc
      | cons e' b =>
        simp only [cmpL] at hc
        cases hv:cmpV k c e' with
        | none => simp [hv] at hc
        | some p =>
          cases hq:cmpL (List.replicate m k) a b with
          | none => simp [hv,hq] at hc
          | some q =>
            rw [hv,hq] at hc
            simp only [Option.some.injEq] at hc
            subst hc
            simp only [List.length_cons] at hla hlb
            have hx:(part e X.toArray (i * 1)).run P w = .ok (((X.drop i).take 1).headD undef) w:=by rw [Nat.mul_one];exact run_part hl (by omega)
            have hy:(part e Y.toArray (i * 1)).run P w = .ok (((Y.drop i).take 1).headD undef) w:=by rw [Nat.mul_one];exact run_part hl (by omega)
            have hX:((X.drop i).take 1).headD undef = X[i]'(by omega):=by rw [List.drop_eq_getElem_cons (by omega)];rfl
            have hY:((Y.drop i).take 1).headD undef = Y[i]'(by omega):=by rw [List.drop_eq_getElem_cons (by omega)];rfl
            rw [hX] at hx
            rw [hY] at hy
            have he:=cmpV_sound (d:=d) (f:={ (default:Field) with type:=e }) hk (ha 0 c _ rfl (List.getElem?_eq_getElem (by omega))) (hb 0 e' _ rfl (List.getElem?_eq_getElem (by omega))) hv
            have hr:=ih (i + 1) a b q hq (by omega) (by omega) (fun j c x hc hx => ha (j + 1) c x (by simpa using hc) (by rw [show i + (j + 1) = i + 1 + j by omega];exact hx)) (fun j c x hc hx => hb (j + 1) c x (by simpa using hc) (by rw [show i + (j + 1) = i + 1 + j by omega];exact hx))
            rw [List.range'_succ,Op.eqItems]
            simp only [Sem.run_bind,hx,hy,Result.andThen_ok]
            simp only [Nat.add_zero] at he
            rw [he]
            simp only [Result.andThen_ok]
            cases p
            · simp
            · simpa using hr
theorem bin_sound {op:BinOp} {xt:TypeId} {ox oy:Operand} (hx:Rep w s a x) (hy:Rep w s b y) (h:binP P xt op a b K) :
    ∃ v z,(do eqGuard op xt ox oy x y;binOp op xt x y:Sem Value).run P w = .ok z w ∧ Rep w s v z ∧ K v:=by
  cases a with
  | int k m =>
    cases b with
    | int k' n =>
      cases hx.int_inv
      cases hy.int_inv
      obtain ⟨v,z,h1,h2,h3⟩:=int_sound (P:=P) (w:=w) (s:=s) (xt:=xt) h
      refine ⟨v,z, ?_,h2,h3⟩
      rw [Sem.run_bind,eqGuard_calm _ _ _ _ ⟨fun _ => by simp,by simp⟩]
      exact h1
    | _ => exact h.elim
  | str m =>
    cases b with
    | str n =>
      cases hx.str_inv
      cases hy.str_inv
      obtain ⟨v,z,h1,h2,h3⟩:=str_sound (P:=P) (w:=w) (s:=s) (xt:=xt) h
      refine ⟨v,z, ?_,h2,h3⟩
      rw [Sem.run_bind,eqGuard_calm _ _ _ _ ⟨fun _ => by simp,by simp⟩]
      exact h1
    | _ => exact h.elim
  | bool p =>
    cases b with
    | bool q =>
      cases hx.bool_inv
      cases hy.bool_inv
      cases op with
      | eql =>
        refine ⟨_,.bool (p == q), ?_, ?_,h.2⟩
        · rw [Sem.run_bind,eqGuard_calm _ _ _ _ ⟨fun _ => by simp,by simp⟩]
          show (Sem.run P (do pure (.bool (← Op.equal xt (.bool p) (.bool q))):Sem Value) w) = _
          rw [Sem.run_bind,run_equal_bool p q h.1]
          rfl
        · cases p <;> cases q <;> exact .pure _ _ (.bool _)
      | neq =>
        refine ⟨_,.bool (!(p == q)), ?_, ?_,h.2⟩
        · rw [Sem.run_bind,eqGuard_calm _ _ _ _ ⟨fun _ => by simp,by simp⟩]
          show (Sem.run P (do pure (.bool (!(← Op.equal xt (.bool p) (.bool q)))):Sem Value) w) = _
          rw [Sem.run_bind,run_equal_bool p q h.1]
          rfl
        · cases p <;> cases q <;> exact .pure _ _ (.bool _)
      | _ => exact h.elim
    | _ => exact h.elim
  | agg p =>
    cases b with
    | agg q =>
      obtain ⟨xs,rfl,hl1,hr1⟩:=hx.agg_inv
      obtain ⟨ys,rfl,hl2,hr2⟩:=hy.agg_inv
      unfold binP eqP at h
      cases hse:sEq P xt with
      | none => simp [hse] at h
      | some ks =>
        cases hcm:cmpL ks p q with
        | none => simp [hse,hcm] at h
        | some r =>
          simp only [hse,hcm] at h
          unfold sEq at hse
          split at hse
          · rename_i fs hu
            split at hse
            · rename_i hcond
              have hf:P.fieldsOf xt = fs:=by simp [Program.fieldsOf,hu]
              have hrun:(Op.equalIn 10000 xt (.agg xs.toArray) (.agg ys.toArray)).run P w = .ok r w:=by
                rw [run_equalIn_struct (P:=P) w 9999 xt _ _ (by rw [hf];exact hu) hcond.2,hf]
                exact eqFields_sound (d:=9998) fs.toList 0 ks p q r hse hcm (by omega) (by omega) (fun j c x hc hx => hr1 j c x hc (by simpa using hx)) (fun j c x hc hx => hr2 j c x hc (by simpa using hx))
              cases op with
              | eql => exact ⟨_,.bool r,by rw [Sem.run_bind,run_eqGuard_agg w _ _ _ _ _ _ hcond.1,Result.andThen_ok,run_eql_struct,hrun];rfl,.pure _ _ (.bool _),h⟩
              | neq => exact ⟨_,.bool (!r),by rw [Sem.run_bind,run_eqGuard_agg w _ _ _ _ _ _ hcond.1,Result.andThen_ok,run_neq_struct,hrun];rfl,.pure _ _ (.bool _),h⟩
              | _ => exact h.elim
            · cases hse
          · rename_i n e hu
            split at hse
            · rename_i hcond
              obtain ⟨k,rfl,hk⟩:∃ k,ks = List.replicate n k ∧ (match P.underlying e with | some (.int _) => k = 0 | some .string => k = 1 | some .bool => k = 2 | _ => False):=by
                cases hue:P.underlying e with
                | none => rw [hue] at hse;cases hse
                | some u => rw [hue] at hse;cases u <;> simp only [Option.some.injEq,reduceCtorEq] at hse <;> exact ⟨_,hse.symm,rfl⟩
              obtain ⟨i,hi,hsz⟩:∃ i,P.info? e = some i ∧ P.cellsOf e = 1:=by
                have hlay:=hcond.2
                unfold lay at hlay
                split at hlay
                · rename_i i d hi hd
                  have hc:P.cellsOf e = i.size:=by simp [Program.cellsOf,hi]
                  split at hlay
                  · simp at hlay
                  · simp at hlay
                  · split at hlay
                    · rename_i h1;exact ⟨i,hi,hc.trans h1⟩
                    · cases hlay
                · cases hlay
              have hrun:(Op.equalIn 10000 xt (.agg xs.toArray) (.agg ys.toArray)).run P w = .ok r w:=by
                rw [run_equalIn_array w 9999 _ _ hu hi,hsz,List.range_eq_range']
                exact eqItems_sound (d:=9998) hcond.2 hk n 0 p q r hcm (by omega) (by omega) (fun j c x hc hx => hr1 j c x hc (by simpa using hx)) (fun j c x hc hx => hr2 j c x hc (by simpa using hx))
              cases op with
              | eql => exact ⟨_,.bool r,by rw [Sem.run_bind,run_eqGuard_agg w _ _ _ _ _ _ hcond.1,Result.andThen_ok,run_eql_struct,hrun];rfl,.pure _ _ (.bool _),h⟩
              | neq => exact ⟨_,.bool (!r),by rw [Sem.run_bind,run_eqGuard_agg w _ _ _ _ _ _ hcond.1,Result.andThen_ok,run_neq_struct,hrun];rfl,.pure _ _ (.bool _),h⟩
              | _ => exact h.elim
            · cases hse
          · cases hse
    | _ => exact h.elim
  | _ => exact h.elim
theorem un_sound {op:UnOp} (hx:Rep w s a x) (h:unP op a K):∃ v z,(Op.unary op x).run P w = .ok z w ∧ Rep w s v z ∧ K v:=by
  unfold unP at h
  split at h
  · cases hx.bool_inv
    exact ⟨_,_,rfl,.pure _ _ (.bool _),h⟩
  · cases hx.int_inv
    exact ⟨_,_,rfl,.pure _ _ (.int _ _),h⟩
  · exact h.elim
theorem run_loadVar {t:TypeId} {n:Nat} {g:Bool} (hl:lay P t = some (n,g)) {ad:Addr} {xs:List Value} (hn:xs.length = n) (hc:∀ j v,xs[j]? = some v → w.cell? (ad.add j) = some v) :
    (loadVar t ad).run P w = .ok (if g then .agg xs.toArray else xs.headD undef) w:=by
  obtain ⟨h1,h2,h3⟩:=lay_runs hl w
  unfold loadVar
  rw [Sem.run_bind,h2,Result.andThen_ok]
  cases g with
  | true =>
    simp only [if_true]
    rw [Sem.run_bind,h1,Result.andThen_ok,Sem.run_bind,← hn,run_loadCells_list w ad xs hc]
    rfl
  | false =>
    obtain rfl:=h3 rfl
    match xs,hn with
    | [v],_ =>
      have:=hc 0 v rfl
      simp only [Addr.add,if_true] at this
      simp [this]
theorem addr_add (b o j:Nat):(⟨b,o,none⟩:Addr).add j = ⟨b,o + j,none⟩:=by
  unfold Addr.add
  split <;> simp_all
theorem rep_pack {n:Nat} {g:Bool} {cs:List V} {xs:List Value} (hg:g = false → n = 1) (hn:n ≤ cs.length) (hx:xs.length = n) (h:∀ (j:Nat) (c:V) (z:Value),j < n → cs[j]? = some c → xs[j]? = some z → Rep w s c z) :
    Rep w s (pack g n cs) (if g then .agg xs.toArray else xs.headD undef):=by
  cases g with
  | true =>
    simp only [pack,if_true]
    refine .agg _ _ (by simp;omega) fun i c z hc hz => ?_
    have hi:i < n:=hx ▸ (List.getElem?_eq_some_iff.1 hz).1
    rw [List.getElem?_take_of_lt hi] at hc
    exact h i c z hi hc hz
  | false =>
    obtain rfl:=hg rfl
    match xs,hx,cs,hn with
    | [z],_,c :: cs,_ => exact h 0 c z (by omega) rfl rfl
theorem load_sound {gl:Nat → V} (hs:Sim P gl w s) {t:TypeId} (hx:Rep w s a x) (h:loadP P t s.st a K):∃ v z,(Instr.loadAt t x).run P w = .ok z w ∧ Rep w s v z ∧ K v:=by
  unfold loadP at h
  cases hl:lay P t with
  | none => simp [hl] at h
  | some ng =>
    obtain ⟨n,g⟩:=ng
    rw [hl] at h
    simp only at h
    have h3:=(lay_runs hl w).2.2
    cases a with
    | ptr id off =>
      simp only at h
      obtain ⟨b,rfl,hg⟩:=hx.ptr_inv
      cases ho:s.st[id]? with
      | none => simp [ho] at h
      | some o =>
        rw [ho] at h
        cases o with
        | box t' cs =>
          simp only at h
          obtain ⟨hn,hK⟩:=h
          obtain ⟨arr,harr,hsz,hrep⟩:=hs.obj id _ _ ho hg
          have hsz':arr.toList.length = cs.length:=by simpa using hsz
          refine ⟨_,_, ?_,rep_pack (xs:=(arr.toList.drop off).take n) h3 (by simp;omega) (by simp;omega) (fun j c z hj hc hz => ?_),hK⟩
          · show (loadVar t ⟨b,off,none⟩).run P w = _
            refine run_loadVar hl (by simp;omega) fun j v hj => ?_
            have hjn:j < n:=by have:=(List.getElem?_eq_some_iff.1 hj).1;simp at this;omega
            rw [List.getElem?_take_of_lt hjn,List.getElem?_drop] at hj
            rw [addr_add,cell_of_row w b (off + j) arr t' (0,0) harr]
            simpa using hj
          · rw [List.getElem?_take_of_lt hj,List.getElem?_drop] at hz
            rw [List.getElem?_drop] at hc
            exact hrep _ c z hc (by simpa using hz)
        | _ => exact h.elim
    | dptr cs =>
      simp only at h
      obtain ⟨hn,hK⟩:=h
      obtain ⟨b,o,rfl,y,hy⟩:=hx.dptr_inv
      have hcs:∀ j,j < n → ∃ c,cs[j]? = some c:=fun j hj => ⟨cs[j]'(by omega),by rw [List.getElem?_eq_getElem]⟩
      refine ⟨_,_, ?_,rep_pack (xs:=(List.range n).map y) h3 hn (by simp) (fun j c z hj hc hz => ?_),hK⟩
      · show (loadVar t ⟨b,o,none⟩).run P w = _
        refine run_loadVar hl (by simp) fun j v hj => ?_
        have hjn:j < n:=by have:=(List.getElem?_eq_some_iff.1 hj).1;simpa using this
        obtain ⟨c,hc⟩:=hcs j hjn
        rw [List.getElem?_map,List.getElem?_range hjn] at hj
        simp only [Option.map_some,Option.some.injEq] at hj
        subst hj
        rw [addr_add]
        exact (hy j c hc).1.1
      · rw [List.getElem?_map,List.getElem?_range hj] at hz
        simp only [Option.map_some,Option.some.injEq] at hz
        subst hz
        exact .pure _ _ (hy j c hc).2
    | rptr id ver off =>
      simp only at h
      have hr:RptrOK s id ver off x:=by cases hx with | pure _ _ h => cases h | rptr _ _ _ _ _ h => exact h
      obtain ⟨o',ho,hm⟩:=hr
      rw [ho] at h
      cases o' with
      | arr e' sz' v es =>
        obtain ⟨rfl,hn,hK⟩:=h
        obtain ⟨y,b,hg,hb,rfl⟩:=hm.2 rfl
        obtain ⟨xs,hown,hsz,h1,hxl,hpr⟩:=hs.obj id _ _ ho hg
        refine ⟨_,_, ?_,rep_pack (xs:=(xs.drop off).take n) h3 (by simp;omega) (by simp;omega) (fun j c z hj hc hz => ?_),hK⟩
        · show (loadVar t ⟨b,off,none⟩).run P w = _
          refine run_loadVar hl (by simp;omega) fun j v hj => ?_
          have hjn:j < n:=by have:=(List.getElem?_eq_some_iff.1 hj).1;simp at this;omega
          rw [List.getElem?_take_of_lt hjn,List.getElem?_drop] at hj
          have:=hown.cells hb (off + j) v hj
          rw [addr_add] at this ⊢
          rwa [Nat.zero_add] at this
        · rw [List.getElem?_take_of_lt hj,List.getElem?_drop] at hz
          rw [List.getElem?_drop] at hc
          exact .pure _ _ (hpr _ c z hc hz)
      | _ => exact h.elim
    | _ => exact h.elim
theorem cells_rep (h:Rep w s a x) (h1:a.cells.all V.one = true):∃ xs:List Value,x.cells.toList = xs ∧ a.cells.length = xs.length ∧ (∀ (j:Nat) (c:V) (z:Value),a.cells[j]? = some c → xs[j]? = some z → Rep w s c z) ∧ ∀ z ∈ xs,z.oneCell' = true:=by
  cases a with
  | agg cs =>
    obtain ⟨xs,rfl,hl,hr⟩:=h.agg_inv
    refine ⟨xs,by simp [Value.cells],hl,hr,fun z hz => ?_⟩
    obtain ⟨i,hi,rfl⟩:=List.mem_iff_getElem.1 hz
    refine (hr i (cs[i]'(by omega)) xs[i] (by rw [List.getElem?_eq_getElem]) (by rw [List.getElem?_eq_getElem])).oneCell ?_
    simp only [V.cells,List.all_eq_true] at h1
    exact h1 _ (List.getElem_mem _)
  | _ =>
    have ho:=h.oneCell (by simpa [V.cells] using h1)
    refine ⟨[x], ?_,by simp [V.cells],fun j c z hc hz => ?_,by simpa using ho⟩
    · cases x <;> first | rfl | simp [Value.oneCell'] at ho
    · cases j with
      | zero => simp [V.cells] at hc hz;subst hc hz;exact h
      | succ j => simp at hz
theorem splice_get {α:Type} (A ys:List α) (a j:Nat) (h:a + ys.length ≤ A.length):(A.take a ++ ys ++ A.drop (a + ys.length))[j]? = if j < a then A[j]? else if j < a + ys.length then ys[j - a]? else A[j]?:=by
  have hl:(A.take a).length = a:=by rw [List.length_take];omega
  by_cases h1:j < a
  · rw [if_pos h1,List.append_assoc,List.getElem?_append_left (by omega),List.getElem?_take_of_lt h1]
  · rw [if_neg h1]
    by_cases h2:j < a + ys.length
    · rw [if_pos h2,List.append_assoc,List.getElem?_append_right (by omega),List.getElem?_append_left (by omega),hl]
    · rw [if_neg h2,List.getElem?_append_right (by rw [List.length_append];omega),List.getElem?_drop,List.length_append,hl]
      congr 1
      omega
theorem take_splice {α:Type} (A ys:List α) (a N:Nat) (h1:a + ys.length ≤ N) (h2:N ≤ A.length):(A.take a ++ ys ++ A.drop (a + ys.length)).take N = (A.take N).take a ++ ys ++ (A.take N).drop (a + ys.length):=by
  apply List.ext_getElem?
  intro j
  rw [splice_get (A.take N) ys a j (by rw [List.length_take];omega)]
  by_cases hj:j < N
  · rw [List.getElem?_take_of_lt hj,splice_get A ys a j (by omega),List.getElem?_take_of_lt hj]
  · rw [List.getElem?_eq_none (by rw [List.length_take];omega),if_neg (by omega),if_neg (by omega),List.getElem?_eq_none (by rw [List.length_take];omega)]
theorem store_row {gl:Nat → V} (h:Sim P gl w s) {i b k sz v:Nat} {e:TypeId} {es:List V} {x:Value} {el:V} {ys:List Value} (ho:s.st[i]? = some (.arr e sz v es)) (hg:s.g[i]? = some (.row x)) (hb:x.ownBlock = some b) (hk:k < es.length)
    (hel:el.cells.length = sz) (hone:∀ c ∈ el.cells,c.one = true) (hl:el.cells.length = ys.length) (hr:∀ (j:Nat) (c:V) (y:Value),el.cells[j]? = some c → ys[j]? = some y → PR w s.K c y) :
    ∃ arr,w.heap[b]? = some (.cells arr e (0,0)) ∧ k * sz + sz ≤ arr.size ∧
      Evolve w s (w.setRow b (arr.toList.take (k * sz) ++ ys ++ arr.toList.drop (k * sz + ys.length)).toArray) (s.turn s.K i (.arr e sz v (es.set k el)) (.row x)) ∧
      Sim P gl (w.setRow b (arr.toList.take (k * sz) ++ ys ++ arr.toList.drop (k * sz + ys.length)).toArray) (s.turn s.K i (.arr e sz v (es.set k el)) (.row x)):=by
  have hob:=h.obj i _ _ ho hg
  obtain ⟨xs,hown,hsz,h1,hxl,hpr⟩:=hob
  rcases hown.2 with ⟨rfl,_⟩ | ⟨g,cap,arr,rfl,_,harr,hnc,hcm,hcs,htake⟩
  · simp [Value.ownBlock] at hb
  simp only [Value.ownBlock,Option.some.injEq] at hb
  subst hb
  have hlt:g < w.heap.size:=(Array.getElem?_eq_some_iff.1 harr).1
  have hnk:∀ o,¬ s.K g o:=fun o => h.kout i g o _ ⟨_,_,ho,rfl,hg,rfl⟩ ho trivial
  have hks:k * sz + sz ≤ es.length * sz:=by rw [← Nat.succ_mul];exact Nat.mul_le_mul_right _ hk
  have hes:es.length * sz ≤ arr.size:=by rw [hcs];exact Nat.mul_le_mul_right _ hnc
  refine ⟨arr,harr,by omega, ?_⟩
  generalize hw':w.setRow g (arr.toList.take (k * sz) ++ ys ++ arr.toList.drop (k * sz + ys.length)).toArray = w'
  have hheap:∀ k',k' ≠ g → w'.heap[k']? = w.heap[k']?:=fun k' hk' => by rw [← hw'];exact setRow_other w g k' _ hk'
  have hself:w'.heap[g]? = some (.cells (arr.toList.take (k * sz) ++ ys ++ arr.toList.drop (k * sz + ys.length)).toArray e (0,0)):=by rw [← hw'];exact setRow_heap w g arr _ e (0,0) harr
  have hsize:w'.heap.size = w.heap.size:=by rw [← hw'];simp [World.setRow]
  have hfs:=flat_set hsz hk el
  have hsz':∀ e' ∈ es.set k el,e'.cells.length = sz:=fun e' he' => by
    rcases List.mem_or_eq_of_mem_set he' with h | h
    · exact hsz e' h
    · rw [h];exact hel
  have hxs:(xs.take (k * sz) ++ ys ++ xs.drop (k * sz + sz)).length = es.length * sz:=by
    have:=hown.1
    simp only [List.length_append,List.length_take,List.length_drop];omega
  refine turn h ho hg rfl (by rw [← hw'];rfl) (by rw [← hw'];rfl) (by rw [← hw'];rfl) (by omega) (fun k' _ hne => hheap k' (fun e => hne (by subst e;rfl))) ⟨fun _ _ hk => hk,fun k' o x hk' hx => ?_,fun k' es' c hk' hx => ?_,fun k' o n hk' hx => ?_⟩ (fun _ _ hk => .inl hk)
    (fun k' o hk' => by have:=h.kin k' o hk';omega) (.inr ⟨v,_,rfl,Nat.le_refl _,fun _ => ⟨rfl,by simp⟩,fun b hb => .inl hb⟩) rfl (fun k' o hk' _ => ?_) (fun hE => ?_)
  · have hkb:k' ≠ g:=fun e => hnk o (e ▸ hk')
    rw [World.cell?_of_block (w:=w) (hheap k' hkb)]
    exact hx
  · have hkb:k' ≠ g:=fun e => hnk 0 (e ▸ hk')
    rw [hheap k' hkb]
    exact hx
  · have hkb:k' ≠ g:=fun e => hnk o (e ▸ hk')
    exact hx.same (hheap k' hkb)
  · simp only [Gh.at,Value.ownBlock,Option.some.injEq] at hk'
    subst hk'
    exact hnk o
  · refine ⟨xs.take (k * sz) ++ ys ++ xs.drop (k * sz + sz),⟨by simpa using hxs,.inr ⟨g,cap,_,by simp,Nat.zero_le _,hself,by simpa using hnc,hcm, ?_, ?_⟩⟩,hsz', ?_,by rw [hxs,flat_length hsz',List.length_set],fun j c y hc hy => ?_⟩
    · simp only [List.size_toArray,List.length_append,List.length_take,List.length_drop,Array.length_toList];omega
    · have hta:arr.toList.take (es.length * sz) = xs:=htake
      simp only [List.length_set]
      have e1:ys.length = sz:=by omega
      rw [e1,← hta]
      have:=take_splice arr.toList ys (k * sz) (es.length * sz) (by omega) (by simpa using hes)
      rw [e1] at this
      exact this
    · intro c hc
      rw [hfs] at hc
      rcases List.mem_append.1 hc with hc | hc
      · rcases List.mem_append.1 hc with hc | hc
        · exact h1 c (List.mem_of_mem_take hc)
        · exact hone c hc
      · exact h1 c (List.mem_of_mem_drop hc)
    · rw [hfs] at hc
      have hfl:=flat_length hsz
      have hxl':=hown.1
      by_cases hj1:j < k * sz
      · rw [List.append_assoc,List.getElem?_append_left (by simp;omega),List.getElem?_take_of_lt hj1] at hc hy
        exact (hpr j c y hc hy).keeps hE.keeps
      · by_cases hj2:j < k * sz + sz
        · rw [List.append_assoc,List.getElem?_append_right (by simp;omega),List.getElem?_append_left (by simp;omega)] at hc hy
          simp only [List.length_take] at hc hy
          rw [show min (k * sz) (flat es).length = k * sz by omega] at hc
          rw [show min (k * sz) xs.length = k * sz by omega] at hy
          exact (hr _ c y hc hy).keeps hE.keeps
        · rw [List.getElem?_append_right (by simp;omega),List.getElem?_drop] at hc hy
          simp only [List.length_append,List.length_take] at hc hy
          rw [show k * sz + sz + (j - (min (k * sz) (flat es).length + el.cells.length)) = j by omega] at hc
          rw [show k * sz + sz + (j - (min (k * sz) xs.length + ys.length)) = j by omega] at hy
          exact (hpr j c y hc hy).keeps hE.keeps
theorem store_sound {gl:Nat → V} (hs:Sim P gl w s) {t:TypeId} {K:List O → Prop} (hx:Rep w s a x) (hy:Rep w s b y) (h:storeP P t s.st a b K) :
    ∃ w' s',(Instr.storeAt t x y).run P w = .ok () w' ∧ Sim P gl w' s' ∧ Evolve w s w' s' ∧ K s'.st:=by
  unfold storeP at h
  cases hl:lay P t with
  | none => simp [hl] at h
  | some ng =>
    obtain ⟨n,g⟩:=ng
    rw [hl] at h
    simp only at h
    cases a with
    | ptr id off =>
      simp only at h
      obtain ⟨bk,rfl,hg⟩:=hx.ptr_inv
      cases ho:s.st[id]? with
      | none => simp [ho] at h
      | some o =>
        rw [ho] at h
        cases o with
        | box t' cs =>
          simp only at h
          obtain ⟨hn,h1,hoff,hK⟩:=h
          obtain ⟨arr,harr,hsz,hrep⟩:=hs.obj id _ _ ho hg
          have hsz':arr.toList.length = cs.length:=by simpa using hsz
          obtain ⟨xs,hxs,hlen,hr,hone⟩:=cells_rep hy h1
          obtain ⟨hE,hS⟩:=store_box hs (off:=off) (ys:=b.cells) (xs:=xs) ho hg harr hlen (by omega) hr
          refine ⟨_,_, ?_,hS,hE,hK⟩
          show (storeVar t ⟨bk,off,none⟩ y).run P w = _
          unfold storeVar
          have hcs:y.cells.size = xs.length:=by rw [← hxs];simp
          rw [Sem.run_bind,(lay_runs hl w).1,Result.andThen_ok]
          rw [if_neg (by rw [hcs];omega),hxs]
          have hst:=run_storeCells_at (P:=P) bk off t' xs 0 arr w harr (by have:arr.size = cs.length:=hsz;omega) hone
          simp only [Nat.add_zero] at hst
          exact hst
        | _ => exact h.elim
    | rptr id ver off =>
      simp only at h
      have hr:RptrOK s id ver off x:=by cases hx with | pure _ _ h => cases h | rptr _ _ _ _ _ h => exact h
      obtain ⟨o',ho,hm⟩:=hr
      rw [ho] at h
      cases o' with
      | arr e' sz' v es =>
        obtain ⟨rfl,rfl,hmod,hlt,hn,h1,hpure,hK⟩:=h
        obtain ⟨y0,bk,hg,hb,rfl⟩:=hm.2 rfl
        obtain ⟨xs,hxs,hlen,hrep,hone⟩:=cells_rep hy h1
        have hoff:off = off / n * n:=by have:=Nat.div_add_mod off n;rw [hmod] at this;rw [Nat.mul_comm];omega
        obtain ⟨arr,harr,hfit,hE,hS⟩:=store_row hs (k:=off / n) (el:=b.bare) (ys:=xs) ho hg hb hlt (by rw [V.bare_cells,List.length_map];exact hn) (fun c hc => List.all_eq_true.1 (V.bare_all h1) c hc) (by rw [V.bare_cells,List.length_map];exact hlen) (fun j c y hc hy => by
          rw [V.bare_cells,List.getElem?_map] at hc
          cases hv:b.cells[j]? with
          | none => simp [hv] at hc
          | some c0 =>
            simp only [hv,Option.map_some,Option.some.injEq] at hc
            subst hc
            exact hpure c0 (List.mem_iff_getElem?.2 ⟨j,hv⟩) w s y (hrep j c0 y hv hy))
        refine ⟨_,_, ?_,hS,hE,hK⟩
        show (storeVar t ⟨bk,off,none⟩ y).run P w = _
        unfold storeVar
        have hcs:y.cells.size = xs.length:=by rw [← hxs];simp
        rw [Sem.run_bind,(lay_runs hl w).1,Result.andThen_ok]
        rw [if_neg (by rw [hcs];omega),hxs]
        have hst:=run_storeCells_at (P:=P) bk off e' xs 0 arr w harr (by omega) hone
        simp only [Nat.add_zero] at hst
        rw [← hoff]
        exact hst
      | _ => exact h.elim
    | _ => exact h.elim
theorem new_box {gl:Nat → V} (hs:Sim P gl w s) (t:TypeId) {cs:List V} {xs:List Value} (hl:cs.length = xs.length) (hr:∀ (j:Nat) (c:V) (z:Value),cs[j]? = some c → xs[j]? = some z → Rep w s c z) :
    let w':=w.alloc (.cells xs.toArray t)
    let s':=s.push (.box t cs) (.blk w.heap.size)
    Sim P gl w' s' ∧ Evolve w s w' s' ∧ Rep w' s' (.ptr s.st.length 0) (.pointer (some ⟨w.heap.size,0,none⟩)):=by
  intro w' s'
  have hE0:=Evolve.alloc hs.wf (w:=w) (.cells xs.toArray t) (fun _ => False)
  have hS0:=hs.alloc (.cells xs.toArray t) (fun _ => False)
  have hK:(fun b o => s.K b o ∨ (b = w.heap.size ∧ False)) = s.K:=by funext b o;simp
  rw [hK] at hE0 hS0
  have hE:Evolve w s w' s':=Evolve.push hs.wf hE0 (.box t cs) (.blk w.heap.size) (fun _ b hb => by simp only [Gh.at,Option.some.injEq] at hb;omega) (fun _ _ _ => by simp)
  have hlt:∀ i,¬ s.own i w.heap.size:=fun i hi => by have:=hs.mine_lt ⟨i,hi⟩;omega
  have hok:ObjOK P w' s' (.box t cs) (.blk w.heap.size):=⟨xs.toArray,heap_alloc_new w _,by simp [hl],fun j c z hc hz => ((hr j c z hc (by simpa using hz)).evolve hE0 hs.wf).push⟩
  refine ⟨hS0.push (fun i b _ hb hi => ?_) (fun b x _ hb _ hk => ?_) (fun b _ hb hf => ?_) (fun _ _ _ => by simp) hok (fun b _ hb => by simp only [Gh.at,Option.some.injEq] at hb;subst hb;exact (show s.late _ from hs.late (Nat.le_refl _))),hE,.ptr _ _ _ (by simp [s',S.push,hs.len])⟩
  · simp only [Gh.at,Option.some.injEq] at hb
    subst hb
    exact hlt i hi
  · simp only [Gh.at,Option.some.injEq] at hb
    subst hb
    have:=hs.kin _ _ hk
    omega
  · simp only [Gh.at,Option.some.injEq] at hb
    subst hb
    have:=(hs.fgn _ hf).1
    omega
end
end Go.Duo

namespace Go.Duo
open Go
section
variable {P:Program} {gl:Nat → V} {w:World} {s:S} {x y:Value} {a b:V}
theorem elt_runs {t e:TypeId} {sz by_:Nat} (h:elt P t = some (e,sz,by_)):P.underlying t = some (.slice e) ∧ ∃ i z,P.info? e = some i ∧ i.zero = some z ∧ i.size = sz ∧ i.bytes = by_ ∧ z.cells.size = sz ∧ 0 < sz:=by
  unfold elt at h
  split at h
  · rename_i e' hu
    cases hi:P.info? e' with
    | none => simp [hi] at h
    | some i =>
      cases hz:i.zero with
      | none => simp [hi,hz] at h
      | some z =>
        simp only [hi,hz,Option.bind_some] at h
        split at h
        · rename_i hc
          simp only [Option.some.injEq,Prod.mk.injEq] at h
          obtain ⟨rfl,rfl,rfl⟩:=h
          exact ⟨hu,i,z,hi,hz,rfl,rfl,hc.1,hc.2⟩
        · cases h
  · cases h
theorem run_app {t ty e:TypeId} {sz by_:Nat} (he:elt P t = some (e,sz,by_)) {v:Value} {n:Nat} {xs:List Value} (hown:w.ownsRow 0 e sz v n xs ∨ (∃ ad,v = .slice ad 0 0 ∧ n = 0 ∧ xs = []))
    {ad:Option Addr} {m c:Nat} {news:List Value} (hl:news.length = m * sz) (hnews:∀ j u,news[j]? = some u → ∃ b o,ad = some ⟨b,o,none⟩ ∧ w.cell? ⟨b,o + j,none⟩ = some u) (h1:∀ u ∈ news,u.oneCell' = true)
    (h63:n + m ≤ maxLen) (hbytes:(n + m) * by_ ≤ 140737488355328) :
    (m = 0 ∧ (Builtin.append_ #[t,t] ty #[v,.slice ad m c]).run P w = .ok v w) ∨
    (0 < m ∧ ∃ v' w',(Builtin.append_ #[t,t] ty #[v,.slice ad m c]).run P w = .ok v' w' ∧ w'.ownsRow 0 e sz v' (n + m) (xs ++ news) ∧ w'.os = w.os ∧ w'.tape = w.tape ∧ w'.output = w.output ∧ w.heap.size ≤ w'.heap.size ∧
      ((v'.ownBlock = v.ownBlock ∧ (∃ ad' cap,v = .slice (some ad') n cap ∧ n + m ≤ cap ∧ v' = .slice (some ad') (n + m) cap) ∧ w.ownsRow 0 e sz v n xs ∧ ∀ k,some k ≠ v.ownBlock → k < w.heap.size → w'.heap[k]? = w.heap[k]?) ∨ (v'.ownBlock = some w.heap.size ∧ ∀ k,k < w.heap.size → w'.heap[k]? = w.heap[k]?))):=by
  obtain ⟨ht,i,z,hi,hz,rfl,rfl,hzs,hsz⟩:=elt_runs he
  rcases Nat.eq_zero_or_pos m with rfl | hm
  · left
    refine ⟨rfl, ?_⟩
    have hf:(Builtin.firstCells i.size 0 (.slice ad 0 c)).run P w = .ok #[] w:=by
      cases ad <;> simp [Builtin.firstCells,loadCells,loadCellsFrom]
    have hv:∃ base cap,v = .slice base n cap ∧ n ≤ cap:=by
      rcases hown with ⟨_,⟨rfl,rfl⟩ | ⟨g,cap,cur,rfl,_,_,h,_⟩⟩ | ⟨ad',rfl,rfl,_⟩
      · exact ⟨none,0,rfl,Nat.le_refl _⟩
      · exact ⟨_,cap,rfl,h⟩
      · exact ⟨ad',0,rfl,Nat.le_refl _⟩
    obtain ⟨base,cap,rfl,hnc⟩:=hv
    cases base <;> simp [Builtin.append_,run_underlying ht,sizeOf,typeInfo,hi,Builtin.lenOf,hf,hnc,storeCells]
  · right
    refine ⟨hm, ?_⟩
    have hn0:0 < news.length:=by rw [hl];exact Nat.mul_pos hm hsz
    obtain ⟨b,o,rfl,_⟩:=hnews 0 news[0] (by rw [List.getElem?_eq_getElem])
    have hnews':∀ j u,news[j]? = some u → w.cell? ((⟨b,o,none⟩:Addr).add j) = some u:=fun j u hu => by
      obtain ⟨b',o',hb,hc⟩:=hnews j u hu
      simp only [Option.some.injEq,Addr.mk.injEq,and_true] at hb
      obtain ⟨rfl,rfl⟩:=hb
      rw [addr_add]
      exact hc
    have hlen:xs.length = n * i.size → (xs ++ news).length = (n + m) * i.size:=fun h => by rw [List.length_append,h,hl,Nat.add_mul]
    have h63':n + m ≤ 9223372036854775807:=by simp only [maxLen] at h63;omega
    have grown:∀ (old:Nat),old < n + m → xs.length = n * i.size →
        (w.drew.alloc (.cells (xs.toArray ++ news.toArray ++ Builtin.zeroCells z.cells (grownCap w (n + m) old e - (n + m))) e)).ownsRow 0 e i.size
          (.slice (some ⟨w.heap.size,0,none⟩) (n + m) (grownCap w (n + m) old e)) (n + m) (xs ++ news):=by
      intro old ho hx
      have hge:=grownCap_ge w (n + m) old e
      have hcm:grownCap w (n + m) old e ≤ maxLen:=grownCap_le_maxLen w (n + m) old e h63
      refine ⟨hlen hx,.inr ⟨w.heap.size,_,_,rfl,Nat.zero_le _,heap_alloc_new w.drew _,hge,hcm, ?_, ?_⟩⟩
      · simp only [Array.size_append,List.size_toArray,size_zeroCells,hzs,hx,hl,← Nat.add_mul]
        congr 1
        omega
      · simp only [Array.toList_append,List.append_assoc]
        rw [← List.append_assoc,← hlen hx]
        exact List.take_left
    have fresh:∀ ob:Obj,(w.drew.alloc ob).os = w.os ∧ (w.drew.alloc ob).tape = w.tape ∧ (w.drew.alloc ob).output = w.output ∧ w.heap.size ≤ (w.drew.alloc ob).heap.size ∧ ∀ k,k < w.heap.size → (w.drew.alloc ob).heap[k]? = w.heap[k]?:=fun ob =>
      ⟨rfl,rfl,rfl,by simp,fun k hk => heap_alloc_old w.drew ob k hk⟩
    have hcase:(∃ ad',v = .slice ad' 0 0 ∧ n = 0 ∧ xs = []) ∨ (w.ownsRow 0 e i.size v n xs ∧ ∃ g cap cur,v = .slice (some ⟨g,0,none⟩) n cap ∧ w.heap[g]? = some (.cells cur e (0,0)) ∧ n ≤ cap ∧ cap ≤ maxLen ∧ cur.size = cap * i.size ∧ cur.toList.take (n * i.size) = xs):=by
      rcases hown with hown | h
      · rcases hown.2 with ⟨hv,hn⟩ | ⟨g,cap,cur,hv,_,hrest⟩
        · exact .inl ⟨none,hv,hn,List.eq_nil_of_length_eq_zero (by simpa [hn] using hown.1)⟩
        · exact .inr ⟨hown,g,cap,cur,hv,hrest⟩
      · exact .inl h
    rcases hcase with ⟨ad',rfl,rfl,rfl⟩ | ⟨hown,g,cap,cur,rfl,hg,hnc,hcm,hcs,htake⟩
    · have hgr:=grown 0 (by omega) (by simp)
      have hb':m * i.bytes ≤ 140737488355328:=by simpa using hbytes
      cases ad' with
      | none =>
        have hr:=run_append_nil (P:=P) w t ty e i z ht hi hz ⟨b,o,none⟩ m c news hl hnews' (by omega) (by omega) (by omega)
        obtain ⟨f1,f2,f3,f4,f5⟩:=fresh (.cells (news.toArray ++ Builtin.zeroCells z.cells (grownCap w m 0 e - m)) e)
        refine ⟨_,_,hr,by simpa using hgr,f1,f2,f3,f4,.inr ⟨rfl,f5⟩⟩
      | some bd =>
        have hr:=run_append_grow (P:=P) w t ty e i z ht hi hz bd 0 0 [] (by simp) (by simp) ⟨b,o,none⟩ m c news hl hnews' (by omega) (by omega) (by simpa using growslice_fits (need:=m) (old:=0) (by omega) hb')
        obtain ⟨f1,f2,f3,f4,f5⟩:=fresh (.cells ([].toArray ++ news.toArray ++ Builtin.zeroCells z.cells (grownCap w (0 + m) 0 e - (0 + m))) e)
        exact ⟨_,_,hr,hgr,f1,f2,f3,f4,.inr ⟨rfl,f5⟩⟩
    · by_cases hroom:n + m ≤ cap
      · have hfit:n * i.size + news.length ≤ cur.size:=by rw [hl,hcs,← Nat.add_mul];exact Nat.mul_le_mul_right _ hroom
        have hr:=run_append_room (P:=P) w t ty e i ht hi g n cap cur hg ⟨b,o,none⟩ m c news hl hnews' h1 hroom hfit
        refine ⟨_,_,hr,⟨hlen hown.1,.inr ⟨g,cap,_,rfl,Nat.zero_le _,setRow_heap w g cur _ e _ hg,hroom,hcm, ?_, ?_⟩⟩,rfl,rfl,rfl,by simp,.inl ⟨rfl,⟨_,_,rfl,hroom,rfl⟩,hown,fun k hk _ => setRow_other w g k _ (fun e => hk (by simp [Value.ownBlock,e]))⟩⟩
        · simp only [List.size_toArray,List.length_append,List.length_take,List.length_drop,Array.length_toList]
          omega
        · rw [htake,← hlen hown.1]
          exact List.take_left
      · have holds:∀ j u,xs[j]? = some u → w.cell? ((⟨g,0,none⟩:Addr).add j) = some u:=hown.cells (g:=g) rfl
        have hr:=run_append_grow (P:=P) w t ty e i z ht hi hz ⟨g,0,none⟩ n cap xs hown.1 holds ⟨b,o,none⟩ m c news hl hnews' (by omega) (by omega) (growslice_fits (by omega) hbytes)
        obtain ⟨f1,f2,f3,f4,f5⟩:=fresh (.cells (xs.toArray ++ news.toArray ++ Builtin.zeroCells z.cells (grownCap w (n + m) cap e - (n + m))) e)
        exact ⟨_,_,hr,grown cap (by omega) hown.1,f1,f2,f3,f4,.inr ⟨rfl,f5⟩⟩
def rowOf:V → Option (List V)
  | .sl es _ => some es
  | .nil => some []
  | _ => none
theorem row_cells {es:List V} (hr:rowOf a = some es) (h:Rep w s a x):∃ (ad:Option Addr) (cap:Nat) (news:List Value),x = .slice ad es.length cap ∧ news.length = (flat es).length ∧ (∀ u ∈ news,u.oneCell' = true) ∧
    (∀ j u,news[j]? = some u → ∃ b o,ad = some ⟨b,o,none⟩ ∧ w.cell? ⟨b,o + j,none⟩ = some u ∧ s.K b (o + j)) ∧ (∀ (j:Nat) (c:V) (u:Value),(flat es)[j]? = some c → news[j]? = some u → PR w s.K c u) ∧ es.length ≤ cap ∧ cap ≤ maxLen:=by
  have key:∀ es,PR w s.K (.sl es none) x → _:=fun es h => h.sl_inv
  cases a with
  | sl es' t =>
    simp only [rowOf,Option.some.injEq] at hr
    subst hr
    obtain ⟨ad,cap,sz,y,rfl,hc1,hc2,hsz,h1,hcell⟩:=h.sl_inv.sl_inv
    have hget:∀ (j:Nat) (u:Value),((List.range (flat es').length).map y)[j]? = some u → ∃ c,(flat es')[j]? = some c ∧ u = y j:=fun j u hu => by
      have hj:j < (flat es').length:=by have:=(List.getElem?_eq_some_iff.1 hu).1;simpa using this
      rw [List.getElem?_map,List.getElem?_range hj] at hu
      simp only [Option.map_some,Option.some.injEq] at hu
      exact ⟨_,List.getElem?_eq_getElem hj,hu.symm⟩
    refine ⟨ad,cap,(List.range (flat es').length).map y,rfl,by simp,fun u hu => ?_,fun j u hu => ?_,fun j c u hc hu => ?_,hc1,hc2⟩
    · obtain ⟨j,hj,rfl⟩:=List.mem_iff_getElem.1 hu
      obtain ⟨c,hc,he⟩:=hget j _ (List.getElem?_eq_getElem hj)
      rw [he]
      exact (hcell j c hc).2.oneCell (h1 c (List.mem_iff_getElem?.2 ⟨j,hc⟩))
    · obtain ⟨c,hc,rfl⟩:=hget j u hu
      obtain ⟨b,o,hb,hcl,hk⟩:=(hcell j c hc).1
      exact ⟨b,o,hb,hcl,hk⟩
    · obtain ⟨c',hc',rfl⟩:=hget j u hu
      rw [hc] at hc'
      simp only [Option.some.injEq] at hc'
      exact (hcell j c hc).2
  | nil =>
    simp only [rowOf,Option.some.injEq] at hr
    subst hr
    obtain ⟨ad,rfl⟩:=h.nil_inv
    exact ⟨ad,0,[],rfl,by simp,by simp,by simp,by simp,Nat.le_refl _,Nat.zero_le _⟩
  | _ => simp [rowOf] at hr
def appendP (P:Program) (t:TypeId) (st:List O) (x y:V) (K:V → List O → Prop):Prop :=
  match elt P t,rowOf y with
  | some (e,sz,by_),some es2 => (∀ el ∈ es2,el.cells.length = sz) ∧ match x with
    | .nil => es2.length * by_ ≤ 140737488355328 ∧ es2.length ≤ maxLen ∧ (K (.sl es2 (some st.length)) (st ++ [.tok e sz es2.length]) ∨ ∃ k v,st[k]? = some (.arr e sz v []) ∧ K (.ref k (v + 1)) (st.set k (.arr e sz (v + 1) es2)))
    | .sl es (some id) => match st[id]? with
      | some (.tok e' sz' n) => e' = e ∧ sz' = sz ∧ n = es.length ∧ (es.length + es2.length) * by_ ≤ 140737488355328 ∧ es.length + es2.length ≤ maxLen ∧ K (.sl (es ++ es2) (some id)) (st.set id (.tok e sz (es.length + es2.length)))
      | _ => False
    | .ref id ver => match st[id]? with
      | some (.arr e' sz' v es) => e' = e ∧ sz' = sz ∧ v = ver ∧ (es.length + es2.length) * by_ ≤ 140737488355328 ∧ es.length + es2.length ≤ maxLen ∧ K (.ref id (ver + 1)) (st.set id (.arr e sz (ver + 1) (es ++ es2)))
      | _ => False
    | _ => False
  | _,_ => False
theorem pr_of_own {K:Nat → Nat → Prop} {e:TypeId} {sz n:Nat} {v:Value} {es:List V} {xs:List Value} (hown:w.ownsRow 0 e sz v n xs) (hn:n = es.length) (hpos:0 < n) (hsz:∀ el ∈ es,el.cells.length = sz) (h1:∀ c ∈ flat es,c.one = true)
    (hK:∀ b j,v.ownBlock = some b → j < n * sz → K b j) (h:∀ (j:Nat) (c:V) (u:Value),(flat es)[j]? = some c → xs[j]? = some u → PR w K c u):PR w K (.sl es none) v:=by
  subst hn
  rcases hown.2 with ⟨_,h0⟩ | ⟨g,cap,cur,rfl,_,hg,hnc,hcm,hcs,htake⟩
  · omega
  · have hfl:=flat_length hsz
    have hx:∀ j,j < (flat es).length → ∃ u,xs[j]? = some u ∧ w.cell? ⟨g,0 + j,none⟩ = some u:=fun j hj => by
      have hj':j < xs.length:=by rw [hown.1,← hfl];exact hj
      refine ⟨_,List.getElem?_eq_getElem hj', ?_⟩
      have:=hown.cells (g:=g) rfl j _ (List.getElem?_eq_getElem hj')
      rwa [addr_add] at this
    refine .sl es _ cap sz (fun j => xs.getD j undef) hnc hcm hsz h1 (fun j c hc => ?_) (fun j c hc => ?_)
    · have hj:=(List.getElem?_eq_some_iff.1 hc).1
      obtain ⟨u,hu,hcell⟩:=hx j hj
      refine ⟨g,0,rfl, ?_,hK g (0 + j) rfl (by rw [Nat.zero_add,← hfl];exact hj)⟩
      rw [List.getD_eq_getElem?_getD,hu]
      exact hcell
    · have hj:=(List.getElem?_eq_some_iff.1 hc).1
      obtain ⟨u,hu,_⟩:=hx j hj
      show PR w K c (xs.getD j undef)
      rw [List.getD_eq_getElem?_getD,hu]
      exact h j c u hc hu
theorem append_ref (hs:Sim P gl w s) {t ty e:TypeId} {sz by_ id ver:Nat} {es es2:List V} (he:elt P t = some (e,sz,by_)) (hx:Rep w s (.ref id ver) x) (hy:Rep w s b y) (hr:rowOf b = some es2)
    (hsz2:∀ el ∈ es2,el.cells.length = sz) (hone2:∀ c ∈ flat es2,c.one = true) (ho:s.st[id]? = some (.arr e sz ver es)) (hb1:(es.length + es2.length) * by_ ≤ 140737488355328) (hb2:es.length + es2.length ≤ maxLen) :
    ∃ z w' s',(Builtin.append_ #[t,t] ty #[x,y]).run P w = .ok z w' ∧ Sim P gl w' s' ∧ Evolve w s w' s' ∧ Rep w' s' (.ref id (ver + 1)) z ∧ s'.st = s.st.set id (.arr e sz (ver + 1) (es ++ es2)):=by
  obtain ⟨ad,cap,news,rfl,hnl,hn1,hncell,hnrep,_,_⟩:=row_cells hr hy
  have hfl2:=flat_length hsz2
  have hsz:0 < sz:=by obtain ⟨_,i,z,_,_,rfl,_,_,h⟩:=elt_runs he;exact h
  have hnc':∀ j u,news[j]? = some u → ∃ b o,ad = some ⟨b,o,none⟩ ∧ w.cell? ⟨b,o + j,none⟩ = some u:=fun j u hu => by
    obtain ⟨b,o,h1,h2,_⟩:=hncell j u hu
    exact ⟨b,o,h1,h2⟩
  have hx1:x.oneCell' = true ∧ RefOK s id ver x:=by
    cases hx with
    | pure _ _ h => cases h
    | ref _ _ _ h1 h => exact ⟨h1,h⟩
  obtain ⟨hxo,o',ho',hm⟩:=hx1
  rw [ho] at ho'
  simp only [Option.some.injEq] at ho'
  subst ho'
  obtain ⟨_,hm⟩:=hm
  obtain ⟨x0,hg0⟩:=hs.wf.arr id _ _ _ _ ho
  obtain ⟨xs0,hown0,hsz1,hone1,hxl0,hpr0⟩:=hs.obj id _ _ ho hg0
  have hszA:∀ el ∈ es ++ es2,el.cells.length = sz:=fun el hel => (List.mem_append.1 hel).elim (hsz1 el) (hsz2 el)
  have hone:∀ c ∈ flat (es ++ es2),c.one = true:=fun c hc => by rw [flat_append] at hc;exact (List.mem_append.1 hc).elim (hone1 c) (hone2 c)
  have hnK:∀ b j,x0.ownBlock = some b → ¬ s.K b j:=fun b j hb => hs.kout id b j _ ⟨_,_,ho,rfl,hg0,hb⟩ ho trivial
  have hown1:w.ownsRow 0 e sz x es.length xs0 ∨ (∃ ad,x = .slice ad 0 0 ∧ es.length = 0 ∧ xs0 = []):=by
    rcases hm rfl with hg | ⟨h0,ad',rfl⟩
    · rw [hg0] at hg
      simp only [Option.some.injEq,Gh.row.injEq] at hg
      subst hg
      exact .inl hown0
    · subst h0
      exact .inr ⟨ad',rfl,rfl,List.eq_nil_of_length_eq_zero (by simpa using hxl0)⟩
  have hsame:x = x0 ∨ (es = [] ∧ ∃ a,x = .slice a 0 0):=by
    rcases hm rfl with hg | h
    · rw [hg0] at hg
      simp only [Option.some.injEq,Gh.row.injEq] at hg
      exact .inl hg.symm
    · exact .inr h
  have hcell:∀ (K':Nat → Nat → Prop) (w':World),Keeps w s.K w' K' → ∀ (j:Nat) (c:V) (u:Value),(flat (es ++ es2))[j]? = some c → (xs0 ++ news)[j]? = some u → PR w' K' c u:=fun K' w' hk j c u hc hu => by
    rw [flat_append] at hc
    by_cases hj:j < (flat es).length
    · rw [List.getElem?_append_left hj] at hc
      rw [List.getElem?_append_left (by omega)] at hu
      exact (hpr0 j c u hc hu).keeps hk
    · rw [List.getElem?_append_right (by omega)] at hc
      rw [List.getElem?_append_right (by omega)] at hu
      rw [show j - xs0.length = j - (flat es).length by omega] at hu
      exact (hnrep _ c u hc hu).keeps hk
  rcases run_app (ty:=ty) he hown1 (hnl.trans hfl2) hnc' hn1 hb2 hb1 with ⟨h0,hrun⟩ | ⟨hpos,v',w',hrun,hown,f1,f2,f3,f4,hwhere⟩
  · obtain rfl:=List.eq_nil_of_length_eq_zero h0
    obtain rfl:news = []:=List.eq_nil_of_length_eq_zero (by simpa using hnl)
    rw [List.append_nil] at hcell hszA hone
    rw [List.append_nil]
    obtain ⟨hE,hS⟩:=turn hs (w':=w) (o':=.arr e sz (ver + 1) es) (g':=.row x0) (K':=s.K) ho hg0 rfl rfl rfl rfl (Nat.le_refl _) (fun _ _ _ => rfl) ⟨fun _ _ h => h,fun _ _ _ _ h => h,fun _ _ _ _ h => h,fun _ _ _ _ h => h⟩ (fun _ _ h => .inl h)
      hs.kin (.inr ⟨_,_,rfl,by omega,fun e => by omega,fun b hb => .inl hb⟩) rfl (fun b j hb _ => hnK b j hb) (fun hE => ⟨xs0,hown0,hsz1,hone1,hxl0,fun j c u hc hu => (hpr0 j c u hc hu).keeps hE.keeps⟩)
    refine ⟨x,w,_,hrun,hS,hE,.ref id (ver + 1) x hxo ⟨.arr e sz (ver + 1) es, ?_,Nat.le_refl _,fun _ => ?_⟩,rfl⟩
    · simp [S.turn,(List.getElem?_eq_some_iff.1 ho).1]
    · rcases hsame with rfl | h
      · exact .inl (by simp [S.turn,(List.getElem?_eq_some_iff.1 hg0).1])
      · exact .inr h
  · have hold:∀ k,k < w.heap.size → x0.ownBlock ≠ some k → w'.heap[k]? = w.heap[k]?:=fun k hk hne => by
      rcases hwhere with ⟨_,⟨ad',cap',hv,_,_⟩,_,hold⟩ | ⟨_,hold⟩
      · rcases hsame with rfl | ⟨_,a,rfl⟩
        · exact hold k (fun e => hne e.symm) hk
        · exfalso
          simp only [Value.slice.injEq] at hv
          omega
      · exact hold k hk
    have hat:∀ b,v'.ownBlock = some b → x0.ownBlock = some b ∨ w.heap.size ≤ b:=fun b hb => by
      rcases hwhere with ⟨h1,⟨ad',cap',hv,_,_⟩,_,_⟩ | ⟨h1,_⟩
      · rcases hsame with rfl | ⟨_,a,rfl⟩
        · exact .inl (h1.symm.trans hb)
        · exfalso
          simp only [Value.slice.injEq] at hv
          omega
      · rw [h1] at hb
        simp only [Option.some.injEq] at hb
        exact .inr (by omega)
    have hne:∀ b j,s.K b j → x0.ownBlock ≠ some b:=fun b j hk h => hnK b j h hk
    obtain ⟨hE,hS⟩:=turn hs (w':=w') (o':=.arr e sz (ver + 1) (es ++ es2)) (g':=.row v') (K':=s.K) ho hg0 rfl f1 f2 f3 f4 (fun k hk h => hold k hk h)
      ⟨fun _ _ h => h,fun b j z hk hz => by rw [World.cell?_of_block (w:=w) (hold b (World.block_lt_of_cell? w _ hz) (hne b j hk))];exact hz,fun b es0 c hk hz => by rw [hold b (Array.getElem?_eq_some_iff.1 hz).1 (hne b 0 hk)];exact hz,fun b j n hk hz => hz.same (hold b hz.lt (hne b j hk))⟩
      (fun _ _ h => .inl h) (fun b j hk => Nat.lt_of_lt_of_le (hs.kin b j hk) f4) (.inr ⟨_,_,rfl,by omega,fun e => by omega,fun b hb => hat b hb⟩) rfl
      (fun b j hb _ hk => by
        rcases hat b hb with h | h
        · exact hnK b j h hk
        · have:=hs.kin b j hk
          omega)
      (fun hE => ⟨xs0 ++ news,by rw [List.length_append];exact hown,hszA,hone,by rw [List.length_append,flat_append,List.length_append,hxl0,hnl],fun j c u hc hu => hcell _ _ hE.keeps j c u hc hu⟩)
    have hv1:v'.oneCell' = true:=by
      rcases hown.2 with ⟨rfl,_⟩ | ⟨g,cap,cur,rfl,_⟩ <;> rfl
    refine ⟨v',w',_,hrun,hS,hE,.ref id (ver + 1) v' hv1 ⟨.arr e sz (ver + 1) (es ++ es2), ?_,Nat.le_refl _,fun _ => .inl ?_⟩,rfl⟩
    · simp [S.turn,(List.getElem?_eq_some_iff.1 ho).1]
    · simp [S.turn,(List.getElem?_eq_some_iff.1 hg0).1]
theorem append_sound (hs:Sim P gl w s) {t ty:TypeId} {K:V → List O → Prop} (hx:Rep w s a x) (hy:Rep w s b y) (h:appendP P t s.st a b K) :
    ∃ v z w' s',(Builtin.append_ #[t,t] ty #[x,y]).run P w = .ok z w' ∧ Sim P gl w' s' ∧ Evolve w s w' s' ∧ Rep w' s' v z ∧ K v s'.st:=by
  unfold appendP at h
  cases he:elt P t with
  | none => simp [he] at h
  | some esb =>
    obtain ⟨e,sz,by_⟩:=esb
    cases hr:rowOf b with
    | none => simp [he,hr] at h
    | some es2 =>
      rw [he,hr] at h
      simp only at h
      obtain ⟨hsz2,h⟩:=h
      obtain ⟨ad,cap,news,rfl,hnl,hn1,hncell,hnrep,_,_⟩:=row_cells hr hy
      have hfl2:=flat_length hsz2
      have hsz:0 < sz:=by obtain ⟨_,i,z,_,_,rfl,_,_,h⟩:=elt_runs he;exact h
      have hone2:∀ c ∈ flat es2,c.one = true:=by
        cases b with
        | sl es' t' =>
          simp only [rowOf,Option.some.injEq] at hr
          subst hr
          obtain ⟨_,_,_,_,_,_,_,_,h1,_⟩:=hy.sl_inv.sl_inv
          exact h1
        | nil => simp only [rowOf,Option.some.injEq] at hr;subst hr;simp
        | _ => simp [rowOf] at hr
      have hnc':∀ j u,news[j]? = some u → ∃ b o,ad = some ⟨b,o,none⟩ ∧ w.cell? ⟨b,o + j,none⟩ = some u:=fun j u hu => by
        obtain ⟨b,o,h1,h2,_⟩:=hncell j u hu
        exact ⟨b,o,h1,h2⟩
      cases a with
      | nil =>
        simp only at h
        obtain ⟨hb1,hb2,hK1 | ⟨k,v,hok,hKr⟩⟩:=h
        rotate_left
        · obtain ⟨ax,rfl⟩:=hx.nil_inv
          have hx2:Rep w s (.ref k v) (.slice ax 0 0):=.ref k v _ rfl ⟨_,hok,Nat.le_refl _,fun _ => .inr ⟨rfl,ax,rfl⟩⟩
          obtain ⟨z,w',s',h1,h2,h3,h4,h5⟩:=append_ref (ty:=ty) hs he hx2 hy hr hsz2 hone2 hok (by simpa using hb1) (by simpa using hb2)
          exact ⟨_,z,w',s',h1,h2,h3,h4,by rw [h5];exact hKr⟩
        obtain ⟨ax,rfl⟩:=hx.nil_inv
        rcases run_app (ty:=ty) (n:=0) (xs:=[]) he (.inr ⟨ax,rfl,rfl,rfl⟩) (hnl.trans hfl2) hnc' hn1 (by omega) (by simpa using hb1) with ⟨h0,hrun⟩ | ⟨hpos,v',w',hrun,hown,f1,f2,f3,f4,hwhere⟩
        · obtain rfl:=List.eq_nil_of_length_eq_zero h0
          have hS:Sim P gl w (s.push (.tok e sz 0) (.row (.slice none 0 0))):=hs.push (fun _ _ _ h => by cases h) (fun _ _ _ h => by cases h) (fun _ _ h => by cases h) (fun _ _ _ => by simp) ⟨[],by simp,.inl ⟨rfl,rfl⟩⟩ (fun _ _ h => by cases h)
          have hE:Evolve w s w (s.push (.tok e sz 0) (.row (.slice none 0 0))):=Evolve.push hs.wf (Evolve.refl hs.wf) _ _ (fun _ _ h => by cases h) (fun _ _ _ => by simp)
          exact ⟨_,_,w,_,hrun,hS,hE,.tok [] s.st.length _ (PR.nil_sl ax) ⟨.tok e sz 0,by simp [S.push],Nat.le_refl _,fun _ => .inr ⟨rfl,ax,rfl⟩,by simp⟩,hK1⟩
        · rcases hwhere with ⟨_,⟨_,_,hno,hle,_⟩,_⟩ | ⟨hat,hold⟩
          · simp only [Value.slice.injEq] at hno
            omega
          · have hN:∀ b j,(b = w.heap.size ∧ j < es2.length * sz) → w.heap.size ≤ b ∧ b < w'.heap.size:=fun b j hb => by
              have:=(hown.lt _ hat).2
              omega
            have hE0:=Evolve.grow hs.wf f1 f2 f3 f4 hold (fun b j => b = w.heap.size ∧ j < es2.length * sz) hN
            have hS0:=hs.grow f1 f2 f3 f4 hold (fun b j => b = w.heap.size ∧ j < es2.length * sz) hN
            have hpr:=pr_of_own (K:=fun b j => s.K b j ∨ (b = w.heap.size ∧ j < es2.length * sz)) hown (by omega) (by omega) hsz2 hone2 (fun b j hb hj => by rw [hat] at hb;simp only [Option.some.injEq] at hb;exact .inr ⟨hb.symm,by simpa using hj⟩)
              (fun j c u hc hu => (hnrep j c u hc (by simpa using hu)).keeps hE0.keeps)
            refine ⟨.sl es2 (some s.st.length),v',w',_,hrun, ?_,Evolve.push hs.wf hE0 (.tok e sz es2.length) (.row v') (fun _ b hb => by simp only [Gh.at] at hb;rw [hat] at hb;simp only [Option.some.injEq] at hb;omega) (fun _ _ _ => by simp), ?_,hK1⟩
            · refine hS0.push (fun i b _ hb hi => ?_) (fun b j _ hb hwr hk => ?_) (fun b _ hb hf => ?_) (fun _ _ _ => by simp) ⟨_,by simpa using hown⟩ (fun b _ hb => by simp only [Gh.at] at hb;rw [hat] at hb;simp only [Option.some.injEq] at hb;subst hb;exact (show s.late _ from hs.late (Nat.le_refl _)))
              · simp only [Gh.at] at hb
                rw [hat] at hb
                simp only [Option.some.injEq] at hb
                subst hb
                obtain ⟨o',g',ho',hlv,hg',hat'⟩:=hi
                have:=hs.mine_lt ⟨i,o',g',ho',hlv,hg',hat'⟩
                omega
              · simp only [Gh.at] at hb
                rw [hat] at hb
                simp only [Option.some.injEq] at hb
                subst hb
                simp only [O.writes] at hwr
                rcases hk with hk | ⟨_,hk⟩
                · have:=hs.kin _ _ hk
                  omega
                · omega
              · simp only [Gh.at] at hb
                rw [hat] at hb
                simp only [Option.some.injEq] at hb
                subst hb
                have:=(hs.fgn _ hf).1
                omega
            · refine .tok _ _ _ hpr ⟨.tok e sz es2.length,by simp [S.push],Nat.le_refl _,fun _ => .inl (by simp [S.push,hs.len]),hsz2⟩
      | sl es tk =>
        cases tk with
        | none => exact h.elim
        | some id =>
          simp only at h
          cases ho:s.st[id]? with
          | none => simp [ho] at h
          | some o =>
            rw [ho] at h
            cases o with
            | tok e' sz' n =>
              simp only at h
              obtain ⟨rfl,rfl,rfl,hb1,hb2,hK⟩:=h
              have hpx:PR w s.K (.sl es none) x:=hx.sl_inv
              have htk:TokOK s id es x:=by
                cases hx with
                | pure _ _ h => cases h
                | tok _ _ _ _ ht => exact ht
              obtain ⟨o',ho',hm⟩:=htk
              rw [ho] at ho'
              simp only [Option.some.injEq] at ho'
              subst ho'
              obtain ⟨_,hg,hsz1⟩:=hm
              rcases hg rfl with hg | ⟨h0,ad',rfl⟩
              case inr =>
                obtain rfl:=List.eq_nil_of_length_eq_zero h0
                obtain ⟨x0,hg⟩:=hs.wf.tok id _ _ _ ho
                rcases run_app (ty:=ty) (n:=0) (xs:=[]) he (.inr ⟨ad',rfl,rfl,rfl⟩) (hnl.trans hfl2) hnc' hn1 (by omega) (by simpa using hb1) with ⟨h0,hrun⟩ | ⟨hpos,v',w',hrun,hown,f1,f2,f3,f4,hwhere⟩
                · obtain rfl:=List.eq_nil_of_length_eq_zero h0
                  have hst:s.st.set id (.tok e' sz' (([]:List V).length + ([]:List V).length)) = s.st:=by
                    apply List.ext_getElem?
                    intro j
                    rw [List.getElem?_set]
                    split
                    · subst_vars
                      split
                      · rw [ho];simp
                      · rename_i hj;rw [List.getElem?_eq_none (by omega)]
                    · rfl
                  rw [hst,List.append_nil] at hK
                  exact ⟨_,_,w,s,hrun,hs,Evolve.refl hs.wf,hx,hK⟩
                · rcases hwhere with ⟨_,⟨_,_,hno,hle,_⟩,_⟩ | ⟨hat,hold⟩
                  · simp only [Value.slice.injEq] at hno
                    omega
                  · obtain ⟨hE,hS⟩:=turn hs (w':=w') (o':=.tok e' sz' es2.length) (g':=.row v') (K':=fun b j => s.K b j ∨ (b = w.heap.size ∧ j < es2.length * sz')) ho hg rfl f1 f2 f3 f4
                      (fun b hb _ => hold b hb)
                      ⟨fun _ _ h => .inl h,fun b j z _ hz => by rw [World.cell?_of_block (w:=w) (hold b (World.block_lt_of_cell? w _ hz))];exact hz,fun b es0 c _ hz => by rw [hold b (Array.getElem?_eq_some_iff.1 hz).1];exact hz,fun b _ n _ hz => hz.same (hold b hz.lt)⟩
                      (fun b j hk => by
                        rcases hk with hk | ⟨hk,_⟩
                        · exact .inl hk
                        · exact .inr (.inl (by omega)))
                      (fun b j hk => by
                        rcases hk with hk | ⟨rfl,_⟩
                        · have:=hs.kin b j hk;omega
                        · exact (hown.lt _ hat).2)
                      (.inr ⟨_,rfl,by simp,fun e => by rw [e] at hpos;simp at hpos,fun b hb => by simp only [Gh.at] at hb;rw [hat] at hb;simp only [Option.some.injEq] at hb;exact .inr (by omega)⟩) rfl
                      (fun b j hb hwr hk => by
                        simp only [O.writes,Gh.at] at hwr hb
                        rw [hat] at hb
                        simp only [Option.some.injEq] at hb
                        rcases hk with hk | ⟨_,hk⟩
                        · have:=hs.kin b j hk;omega
                        · omega)
                      (fun _ => ⟨_,by simpa using hown⟩)
                    have hpr:=pr_of_own (K:=fun b j => s.K b j ∨ (b = w.heap.size ∧ j < es2.length * sz')) hown (by omega) (by omega) hsz2 hone2 (fun b j hb hj => by rw [hat] at hb;simp only [Option.some.injEq] at hb;exact .inr ⟨hb.symm,by simpa using hj⟩)
                      (fun j c u hc hu => (hnrep j c u hc (by simpa using hu)).keeps hE.keeps)
                    refine ⟨.sl es2 (some id),v',w',_,hrun,hS,hE,.tok _ _ _ hpr ⟨.tok e' sz' es2.length, ?_,by simp,fun _ => .inl ?_,hsz2⟩,by simp only [List.nil_append,List.length_nil,Nat.zero_add] at hK;exact hK⟩
                    · simp [S.turn,(List.getElem?_eq_some_iff.1 ho).1]
                    · simp [S.turn,(List.getElem?_eq_some_iff.1 hg).1]
              obtain ⟨xs,hown0⟩:=hs.obj id _ _ ho hg
              have hfl1:=flat_length hsz1
              have hlv:s.own id = fun b => x.ownBlock = some b:=by
                funext b
                refine propext ⟨fun ⟨o1,g1,h1,_,h3,h4⟩ => ?_,fun h => ⟨_,_,ho,rfl,hg,h⟩⟩
                rw [hg] at h3
                simp only [Option.some.injEq] at h3
                subst h3
                exact h4
              rcases run_app (ty:=ty) he (.inl hown0) (hnl.trans hfl2) hnc' hn1 hb2 hb1 with ⟨h0,hrun⟩ | ⟨hpos,v',w',hrun,hown,f1,f2,f3,f4,hwhere⟩
              · obtain rfl:=List.eq_nil_of_length_eq_zero h0
                have hst:s.st.set id (.tok e' sz' (es.length + ([]:List V).length)) = s.st:=by
                  apply List.ext_getElem?
                  intro j
                  rw [List.getElem?_set]
                  split
                  · subst_vars
                    split
                    · rw [ho];simp
                    · rename_i hj;rw [List.getElem?_eq_none (by omega)]
                  · rfl
                rw [hst,List.append_nil] at hK
                exact ⟨_,_,w,s,hrun,hs,Evolve.refl hs.wf,hx,hK⟩
              · have hKlt:∀ b j,x.ownBlock = some b → s.K b j → j < es.length * sz':=fun b j hb hk => by
                  have:=hs.kout id b j _ ⟨_,_,ho,rfl,hg,hb⟩ ho
                  simp only [O.writes] at this
                  apply Classical.byContradiction
                  intro hc
                  exact this (by omega) hk
                have hxs:xs.length = es.length * sz':=hown0.1
                obtain ⟨hE,hS⟩:=turn hs (w':=w') (o':=.tok e' sz' (es.length + es2.length)) (g':=.row v') (K':=fun b j => s.K b j ∨ (v'.ownBlock = some b ∧ j < (es.length + es2.length) * sz')) ho hg rfl f1 f2 f3 f4
                  (fun b hb hne => by
                    rcases hwhere with ⟨_,_,_,hold⟩ | ⟨_,hold⟩
                    · exact hold b (fun e => hne e.symm) hb
                    · exact hold b hb)
                  ⟨fun _ _ h => .inl h,fun b j z hk hz => by
                    rcases hwhere with ⟨hsame,_,_,hold⟩ | ⟨_,hold⟩
                    · by_cases hb:x.ownBlock = some b
                      · have hj:=hKlt b j hb hk
                        have e1:=hown0.cells hb j (xs[j]'(by omega)) (List.getElem?_eq_getElem _)
                        have e2:=hown.cells (hsame.trans hb) j (xs[j]'(by omega)) (by rw [List.getElem?_append_left (by omega)];exact List.getElem?_eq_getElem _)
                        rw [addr_add,Nat.zero_add] at e1 e2
                        rw [hz] at e1
                        rw [e2,e1]
                      · have hbl:=World.block_lt_of_cell? w _ hz
                        rw [World.cell?_of_block (w:=w) (hold b (fun e => hb e.symm) hbl)]
                        exact hz
                    · have hbl:=World.block_lt_of_cell? w _ hz
                      rw [World.cell?_of_block (w:=w) (hold b hbl)]
                      exact hz,fun b es0 c hk hz => by
                    have hbl:=(Array.getElem?_eq_some_iff.1 hz).1
                    rcases hwhere with ⟨hsame,_,_,hold⟩ | ⟨_,hold⟩
                    · by_cases hb:x.ownBlock = some b
                      · rcases hown0.2 with ⟨rfl,_⟩ | ⟨g,cap',cur,rfl,_,hcur,_⟩
                        · simp [Value.ownBlock] at hb
                        · simp only [Value.ownBlock,Option.some.injEq] at hb
                          subst hb
                          rw [hcur] at hz
                          simp at hz
                      · rw [hold b (fun e => hb e.symm) hbl];exact hz
                    · rw [hold b hbl];exact hz,fun b j n hk hz => by
                    rcases hwhere with ⟨hsame,⟨ad',cap',hv,_,hv'⟩,_,hold⟩ | ⟨_,hold⟩
                    · by_cases hb:x.ownBlock = some b
                      · rcases hown0.2 with ⟨rfl,_⟩ | ⟨g,cap1,cur1,rfl,_,hcur1,_,_,hs1,_⟩
                        · simp [Value.ownBlock] at hb
                        · simp only [Value.ownBlock,Option.some.injEq] at hb
                          subst hb
                          simp only [Value.slice.injEq,Option.some.injEq] at hv
                          obtain ⟨rfl,_,rfl⟩:=hv
                          rcases hown.2 with ⟨h0,_⟩ | ⟨g2,cap2,cur2,h2,_,hcur2,_,_,hs2,_⟩
                          · rw [hv'] at h0;cases h0
                          · rw [hv'] at h2
                            simp only [Value.slice.injEq,Option.some.injEq,Addr.mk.injEq,and_true,true_and] at h2
                            obtain ⟨rfl,rfl⟩:=h2
                            obtain ⟨cs,t,fr,q1,q2⟩:=hz
                            rw [hcur1] at q1
                            simp only [Option.some.injEq,Obj.cells.injEq] at q1
                            obtain ⟨rfl,rfl,rfl⟩:=q1
                            exact ⟨_,_,_,hcur2,by omega⟩
                      · exact hz.same (hold b (fun e => hb e.symm) hz.lt)
                    · exact hz.same (hold b hz.lt)⟩
                  (fun b j hk => by
                    rcases hk with hk | ⟨hk,_⟩
                    · exact .inl hk
                    · rcases hwhere with ⟨hsame,_,_,_⟩ | ⟨hat,_⟩
                      · exact .inr (.inr (hsame.symm.trans hk))
                      · rw [hat] at hk;simp only [Option.some.injEq] at hk;exact .inr (.inl (by omega)))
                  (fun b j hk => by
                    rcases hk with hk | ⟨hk,_⟩
                    · have:=hs.kin b j hk;omega
                    · exact (hown.lt b hk).2)
                  (.inr ⟨_,rfl,by omega,fun e => by omega,fun b hb => by
                    rcases hwhere with ⟨hsame,_,_,_⟩ | ⟨hat,_⟩
                    · exact .inl (hsame.symm.trans hb)
                    · simp only [Gh.at] at hb;rw [hat] at hb;simp only [Option.some.injEq] at hb;exact .inr (by omega)⟩) rfl
                  (fun b j hb hwr hk => by
                    simp only [O.writes,Gh.at] at hwr hb
                    rcases hk with hk | ⟨_,hk⟩
                    · rcases hwhere with ⟨hsame,_,_,_⟩ | ⟨hat,_⟩
                      · have:=hKlt b j (hsame.symm.trans hb) hk
                        have:es.length * sz' ≤ (es.length + es2.length) * sz':=Nat.mul_le_mul_right _ (by omega)
                        omega
                      · rw [hat] at hb
                        simp only [Option.some.injEq] at hb
                        have:=hs.kin b j hk
                        omega
                    · omega)
                  (fun _ => ⟨_,hown⟩)
                have hszA:∀ el ∈ es ++ es2,el.cells.length = sz':=fun el hel => (List.mem_append.1 hel).elim (hsz1 el) (hsz2 el)
                have hone1:∀ c ∈ flat es,c.one = true:=by obtain ⟨_,_,_,_,_,_,_,_,h1,_⟩:=hpx.sl_inv;exact h1
                have hpr:=pr_of_own (K:=fun b j => s.K b j ∨ (v'.ownBlock = some b ∧ j < (es.length + es2.length) * sz')) hown (by rw [List.length_append]) (by omega) hszA
                  (fun c hc => by rw [flat_append] at hc;exact (List.mem_append.1 hc).elim (hone1 c) (hone2 c)) (fun b j hb hj => .inr ⟨hb,hj⟩)
                  (fun j c u hc hu => by
                    rw [flat_append] at hc
                    by_cases hj:j < (flat es).length
                    · rw [List.getElem?_append_left hj] at hc
                      rw [List.getElem?_append_left (by omega)] at hu
                      obtain ⟨ad0,cap0,sz0,y0,hx0,_,_,_,_,hcell⟩:=hpx.sl_inv
                      obtain ⟨⟨b0,o0,hb0,hc0,_⟩,hp0⟩:=hcell j c hc
                      have:y0 j = u:=by
                        have hob:x.ownBlock = some b0:=by rw [hx0,hb0];rfl
                        have e1:=hown0.cells hob j u hu
                        rcases hown0.2 with ⟨h1,_⟩ | ⟨g,cap',cur,h1,_⟩
                        · rw [hx0,hb0] at h1;simp at h1
                        · rw [hx0,hb0] at h1
                          simp only [Value.slice.injEq,Option.some.injEq,Addr.mk.injEq,and_true] at h1
                          obtain ⟨⟨_,rfl⟩,_⟩:=h1
                          rw [addr_add] at e1
                          rw [hc0] at e1
                          simpa using e1
                      rw [← this]
                      exact hp0.keeps hE.keeps
                    · rw [List.getElem?_append_right (by omega)] at hc
                      rw [List.getElem?_append_right (by omega)] at hu
                      rw [show j - xs.length = j - (flat es).length by omega] at hu
                      exact (hnrep _ c u hc hu).keeps hE.keeps)
                refine ⟨_,v',w',_,hrun,hS,hE,.tok _ _ _ hpr ⟨.tok e' sz' (es.length + es2.length), ?_,by simp,fun _ => .inl ?_,hszA⟩,hK⟩
                · simp [S.turn,(List.getElem?_eq_some_iff.1 ho).1]
                · simp [S.turn,(List.getElem?_eq_some_iff.1 hg).1]
            | _ => exact h.elim
      | ref id ver =>
        simp only at h
        cases ho:s.st[id]? with
        | none => simp [ho] at h
        | some o =>
          rw [ho] at h
          cases o with
          | arr e' sz' v es =>
            simp only at h
            obtain ⟨rfl,rfl,rfl,hb1,hb2,hK⟩:=h
            obtain ⟨z,w',s',h1,h2,h3,h4,h5⟩:=append_ref (ty:=ty) hs he hx hy hr hsz2 hone2 ho hb1 hb2
            exact ⟨_,z,w',s',h1,h2,h3,h4,h5 ▸ hK⟩
          | _ => exact h.elim
      | _ => exact h.elim
end
end Go.Duo
