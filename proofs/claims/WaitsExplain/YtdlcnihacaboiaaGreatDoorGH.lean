/-
  A part of the proof.
-/
import Derived.Test.YtdlcnihacaboiaaGreatDoorGF
import Derived.Test.YtdlcnihacaboiaaGreatDoorGG
import Derived.Attr
set_option linter.all false
namespace Go.Duo
open Go
section
variable {P:Program} {gl:Nat → V} {st:List O} {x y v:V}
def loadE (P:Program) (t:TypeId) (st:List O) (x:V):Option V :=
  match lay P t with
  | none => none
  | some (n,g) => match x with
    | .ptr id off => match st[id]? with
      | some (.box _ cs) => if off + n ≤ cs.length then some (pack g n (cs.drop off)) else none
      | _ => none
    | .dptr cs => if n ≤ cs.length then some (pack g n cs) else none
    | .rptr id ver off => match st[id]? with
      | some (.arr _ _ v es) => if ver = v ∧ off + n ≤ (flat es).length then some (pack g n ((flat es).drop off)) else none
      | _ => none
    | _ => none
theorem loadE_sound {K:V → Prop} {t:TypeId} (h:loadE P t st x = some v) (hk:K v):loadP P t st x K:=by
  unfold loadE at h;unfold loadP
  cases hl:lay P t with
  | none => simp [hl] at h
  | some ng =>
    obtain ⟨n,g⟩:=ng
    rw [hl] at h
    cases x <;> simp only at h ⊢ <;> try (cases h;done)
    · split at h <;> try (cases h;done)
      rename_i ho
      rw [ho]
      split at h <;> try (cases h;done)
      simp only [Option.some.injEq] at h;subst h;exact ⟨by assumption,hk⟩
    · split at h <;> try (cases h;done)
      simp only [Option.some.injEq] at h;subst h;exact ⟨by assumption,hk⟩
    · split at h <;> try (cases h;done)
      rename_i ho
      rw [ho]
      split at h <;> try (cases h;done)
      rename_i hc
      simp only [Option.some.injEq] at h;subst h;exact ⟨hc.1,hc.2,hk⟩
def pureB:V → Bool
  | .int _ _ | .bool _ | .str _ | .sl _ _ | .nil | .nilptr | .nilfunc | .niliface | .dptr _ | .pmap _ _ => true
  | _ => false
theorem pureB_pure {v:V} (h:pureB v = true):PureV v:=by
  cases v <;> try (cases h;done)
  · exact PureV.int _ _
  · exact PureV.bool _
  · exact PureV.str _
  · exact PureV.sl _ _
  · exact PureV.nil
  · exact PureV.dptr _
  · exact PureV.nilptr
  · exact PureV.pmap _ _
  · exact PureV.nilfunc
  · exact PureV.niliface
def storeE (P:Program) (t:TypeId) (st:List O) (x y:V):Option (List O) :=
  match lay P t with
  | none => none
  | some (n,_) => match x with
    | .ptr id off => match st[id]? with
      | some (.box t' cs) => if y.cells.length = n ∧ y.cells.all V.one = true ∧ off + n ≤ cs.length then some (st.set id (.box t' (splice cs off y.cells))) else none
      | _ => none
    | .rptr id ver off => match st[id]? with
      | some (.arr e sz v es) => if ver = v ∧ n = sz ∧ off % sz = 0 ∧ off / sz < es.length ∧ y.cells.length = n ∧ y.cells.all V.one = true ∧ y.cells.all pureB = true then some (st.set id (.arr e sz v (es.set (off / sz) y.bare))) else none
      | _ => none
    | _ => none
theorem storeE_sound {K:List O → Prop} {t:TypeId} {st':List O} (h:storeE P t st x y = some st') (hk:K st'):storeP P t st x y K:=by
  unfold storeE at h;unfold storeP
  cases hl:lay P t with
  | none => simp [hl] at h
  | some ng =>
    obtain ⟨n,g⟩:=ng
    rw [hl] at h
    cases x <;> simp only at h ⊢ <;> try (cases h;done)
    · split at h <;> try (cases h;done)
      rename_i ho
      rw [ho]
      split at h <;> try (cases h;done)
      rename_i hc
      simp only [Option.some.injEq] at h;subst h;exact ⟨hc.1,hc.2.1,hc.2.2,hk⟩
    · split at h <;> try (cases h;done)
      rename_i ho
      rw [ho]
      split at h <;> try (cases h;done)
      rename_i hc
      simp only [Option.some.injEq] at h;subst h;exact ⟨hc.1,hc.2.1,hc.2.2.1,hc.2.2.2.1,hc.2.2.2.2.1,hc.2.2.2.2.2.1,fun c hcc => pureB_pure (List.all_eq_true.1 hc.2.2.2.2.2.2 c hcc),hk⟩
def intE (op:BinOp) (k:IntKind) (a:Int) (k':IntKind) (b:Int):Option V :=
  match op with
  | .add => if k = k' then some (.int k (k.wrap (a + b))) else none
  | .sub => if k = k' then some (.int k (k.wrap (a - b))) else none
  | .mul => if k = k' then some (.int k (k.wrap (a * b))) else none
  | .quo => if k = k' ∧ b ≠ 0 then some (.int k (k.wrap (a.tdiv b))) else none
  | .rem => if k = k' ∧ b ≠ 0 then some (.int k (a.tmod b)) else none
  | .eql => if k = k' then some (.bool (decide (a = b))) else none
  | .neq => if k = k' then some (.bool (decide (a ≠ b))) else none
  | .lss => if k = k' then some (.bool (decide (a < b))) else none
  | .leq => if k = k' then some (.bool (decide (a ≤ b))) else none
  | .gtr => if k = k' then some (.bool (decide (b < a))) else none
  | .geq => if k = k' then some (.bool (decide (b ≤ a))) else none
  | .shl => if 0 ≤ b then some (.int k (k.wrap (a * 2 ^ (min b.toNat k.bits)))) else none
  | .shr => if 0 ≤ b then some (.int k (a.fdiv (2 ^ (min b.toNat k.bits)))) else none
  | .and => if k = k' then some (.int k (k.wrap ((BitVec.ofInt k.bits a &&& BitVec.ofInt k.bits b).toNat))) else none
  | .or => if k = k' then some (.int k (k.wrap ((BitVec.ofInt k.bits a ||| BitVec.ofInt k.bits b).toNat))) else none
  | _ => none
theorem intE_sound {K:V → Prop} {op:BinOp} {k k':IntKind} {a b:Int} (h:intE op k a k' b = some v) (hk:K v):intP op k a k' b K:=by
  unfold intE at h;unfold intP
  cases op <;> simp only at h ⊢ <;> try (cases h;done)
  all_goals
    split at h <;> try (cases h;done)
    rename_i hc
    simp only [Option.some.injEq] at h;subst h
    first | exact ⟨hc,hk⟩ | exact ⟨hc.1,hc.2,hk⟩
def strE (op:BinOp) (a b:List UInt8):Option V :=
  match op with
  | .add => if a.length + b.length ≤ 9223372036854775807 then some (.str (a ++ b)) else none
  | .eql => some (.bool (decide (a = b)))
  | .neq => some (.bool (decide (a ≠ b)))
  | .lss => some (.bool (Op.bytesLess a b))
  | _ => none
theorem strE_sound {K:V → Prop} {op:BinOp} {a b:List UInt8} (h:strE op a b = some v) (hk:K v):strP op a b K:=by
  unfold strE at h;unfold strP
  cases op <;> simp only [Option.some.injEq] at h ⊢ <;> try (cases h;done)
  · split at h <;> try (cases h;done)
    rename_i hc
    simp only [Option.some.injEq] at h;subst h;exact ⟨hc,hk⟩
  all_goals (subst h;exact hk)
def eqE (P:Program) (xt:TypeId) (op:BinOp) (a b:List V):Option V :=
  match sEq P xt with
  | some ks => match cmpL ks a b with
    | some r => match op with
      | .eql => some (.bool r)
      | .neq => some (.bool (!r))
      | _ => none
    | none => none
  | none => none
theorem eqE_sound {K:V → Prop} {t:TypeId} {op:BinOp} {a b:List V} (h:eqE P t op a b = some v) (hk:K v):eqP P t op a b K:=by
  unfold eqE at h;unfold eqP
  cases hs:sEq P t with
  | none => simp [hs] at h
  | some ks =>
    rw [hs] at h
    simp only at h ⊢
    cases hc:cmpL ks a b with
    | none => simp [hc] at h
    | some r =>
      rw [hc] at h
      cases op <;> simp only [Option.some.injEq] at h ⊢ <;> first | (cases h;done) | (subst h;exact hk)
def uB (P:Program) (t:TypeId):Bool:=match P.underlying t with | some .bool => true | _ => false
def uS (P:Program) (t:TypeId):Bool:=match P.underlying t with | some .string => true | _ => false
theorem uB_eq {t:TypeId} (h:uB P t = true):P.underlying t = some .bool:=by
  unfold uB at h;split at h <;> first | assumption | cases h
theorem uS_eq {t:TypeId} (h:uS P t = true):P.underlying t = some .string:=by
  unfold uS at h;split at h <;> first | assumption | cases h
def binE (P:Program) (xt:TypeId) (op:BinOp) (x y:V):Option V :=
  match x,y with
  | .int k a,.int k' b => intE op k a k' b
  | .bool a,.bool b => match op with
    | .eql => if uB P xt = true then some (.bool (decide (a = b))) else none
    | .neq => if uB P xt = true then some (.bool (decide (a ≠ b))) else none
    | _ => none
  | .str a,.str b => strE op a b
  | .agg a,.agg b => eqE P xt op a b
  | _,_ => none
theorem binE_sound {K:V → Prop} {t:TypeId} {op:BinOp} (h:binE P t op x y = some v) (hk:K v):binP P t op x y K:=by
  unfold binE at h;unfold binP
  cases x <;> cases y <;> simp only at h ⊢ <;> try (cases h;done)
  · exact intE_sound h hk
  · cases op <;> simp only at h ⊢ <;> try (cases h;done)
    all_goals
      split at h <;> try (cases h;done)
      simp only [Option.some.injEq] at h;subst h
      exact ⟨uB_eq (by assumption),hk⟩
  · exact strE_sound h hk
  · exact eqE_sound h hk
def unE (op:UnOp) (x:V):Option V :=
  match op,x with
  | .not,.bool b => some (.bool (!b))
  | .neg,.int k n => some (.int k (k.wrap (0 - n)))
  | _,_ => none
theorem unE_sound {K:V → Prop} {op:UnOp} (h:unE op x = some v) (hk:K v):unP op x K:=by
  unfold unE at h;unfold unP
  split at h <;> first | (cases h;done) | (simp only [Option.some.injEq] at h;subst h;exact hk)
def faE (P:Program) (t:TypeId) (st:List O) (f:Nat) (x:V):Option V :=
  match fld P t f with
  | none => none
  | some (off,n,_) => if 0 < n then match x with
    | .ptr id o => some (.ptr id (o + off))
    | .dptr cs => some (.dptr (cs.drop off))
    | .rptr id ver o => match st[id]? with
      | some (.arr _ _ v _) => if ver = v then some (.rptr id ver (o + off)) else none
      | _ => none
    | _ => none
    else none
theorem faE_sound {K:V → Prop} {t:TypeId} {f:Nat} (h:faE P t st f x = some v) (hk:K v):faP P t st f x K:=by
  unfold faE at h;unfold faP
  cases hf:fld P t f with
  | none => simp [hf] at h
  | some a =>
    obtain ⟨off,n,g⟩:=a
    rw [hf] at h
    simp only at h ⊢
    split at h <;> try (cases h;done)
    refine ⟨by assumption, ?_⟩
    cases x <;> simp only [Option.some.injEq] at h ⊢ <;> try (cases h;done)
    · subst h;exact hk
    · subst h;exact hk
    · split at h <;> try (cases h;done)
      rename_i ho
      rw [ho]
      split at h <;> try (cases h;done)
      simp only [Option.some.injEq] at h;subst h;exact ⟨by assumption,hk⟩
def fieldE (P:Program) (t:TypeId) (f:Nat) (x:V):Option V :=
  match fld P t f with
  | none => none
  | some (off,n,g) => match x with
    | .agg cs => if off + n ≤ cs.length then some (pack g n (cs.drop off)) else none
    | _ => none
theorem fieldE_sound {K:V → Prop} {t:TypeId} {f:Nat} (h:fieldE P t f x = some v) (hk:K v):fieldP P t f x K:=by
  unfold fieldE at h;unfold fieldP
  cases hf:fld P t f with
  | none => simp [hf] at h
  | some a =>
    obtain ⟨off,n,g⟩:=a
    rw [hf] at h
    cases x <;> simp only at h ⊢ <;> try (cases h;done)
    split at h <;> try (cases h;done)
    simp only [Option.some.injEq] at h;subst h;exact ⟨by assumption,hk⟩
def iaE (P:Program) (t:TypeId) (st:List O) (x i:V):Option V :=
  match i with
  | .int _ n => match elt P t with
    | some (_,sz,_) => match x with
      | .sl es _ => if 0 ≤ n ∧ n < es.length ∧ (es.getD n.toNat .undef).cells.length = sz then some (.dptr (es.getD n.toNat .undef).cells) else none
      | .ref id ver => match st[id]? with
        | some (.arr _ sz' v es) => if ver = v ∧ sz' = sz ∧ 0 ≤ n ∧ n < es.length then some (.rptr id ver (n.toNat * sz)) else none
        | _ => none
      | _ => none
    | none => match arr P t with
      | some (len,sz,_) => if 0 ≤ n ∧ n < len then match x with
        | .ptr id o => some (.ptr id (o + n.toNat * sz))
        | .dptr cs => some (.dptr (cs.drop (n.toNat * sz)))
        | _ => none
        else none
      | none => none
  | _ => none
theorem iaE_sound {K:V → Prop} {t:TypeId} (h:iaE P t st x y = some v) (hk:K v):iaP P t st x y K:=by
  unfold iaE at h;unfold iaP
  cases y <;> simp only at h ⊢ <;> try (cases h;done)
  cases he:elt P t with
  | some a =>
    obtain ⟨e,sz,b⟩:=a
    rw [he] at h
    cases x <;> simp only at h ⊢ <;> try (cases h;done)
    · split at h <;> try (cases h;done)
      rename_i hc
      simp only [Option.some.injEq] at h;subst h;exact ⟨hc.1,hc.2.1,hc.2.2,hk⟩
    · split at h <;> try (cases h;done)
      rename_i ho
      rw [ho]
      split at h <;> try (cases h;done)
      rename_i hc
      simp only [Option.some.injEq] at h;subst h;exact ⟨hc.1,hc.2.1,hc.2.2.1,hc.2.2.2,hk⟩
  | none =>
    rw [he] at h
    simp only at h ⊢
    cases ha:arr P t with
    | none => simp [ha] at h
    | some a =>
      obtain ⟨len,sz,g⟩:=a
      rw [ha] at h
      simp only at h ⊢
      split at h <;> try (cases h;done)
      rename_i hc
      refine ⟨hc.1,hc.2, ?_⟩
      cases x <;> simp only [Option.some.injEq] at h ⊢ <;> first | (cases h;done) | (subst h;exact hk)
def ixE (P:Program) (t:TypeId) (x i:V):Option V :=
  match i with
  | .int _ n => match x with
    | .str s => if uS P t = true ∧ 0 ≤ n ∧ n < s.length then some (.int .u8 (s.getD n.toNat 0).toNat) else none
    | .agg cs => match arr P t with
      | some (len,sz,g) => if 0 ≤ n ∧ n < len ∧ n.toNat * sz + sz ≤ cs.length then some (pack g sz (cs.drop (n.toNat * sz))) else none
      | none => none
    | _ => none
  | _ => none
theorem ixE_sound {K:V → Prop} {t:TypeId} (h:ixE P t x y = some v) (hk:K v):ixP P t x y K:=by
  unfold ixE at h;unfold ixP
  cases y <;> simp only at h ⊢ <;> try (cases h;done)
  cases x <;> simp only at h ⊢ <;> try (cases h;done)
  · split at h <;> try (cases h;done)
    rename_i hc
    simp only [Option.some.injEq] at h;subst h;exact ⟨uS_eq hc.1,hc.2.1,hc.2.2,hk⟩
  · cases ha:arr P t with
    | none => simp [ha] at h
    | some a =>
      obtain ⟨len,sz,g⟩:=a
      rw [ha] at h
      simp only at h ⊢
      split at h <;> try (cases h;done)
      rename_i hc
      simp only [Option.some.injEq] at h;subst h;exact ⟨hc.1,hc.2.1,hc.2.2,hk⟩
def sliceE (P:Program) (t:TypeId) (x:V) (lo hi mx:Option V):Option V :=
  match x with
  | .str s => if uS P t = true then match mx,bndOf 0 lo,bndOf s.length hi with
    | none,some l,some h => if 0 ≤ l ∧ l ≤ h ∧ h ≤ s.length then some (.str ((s.take h.toNat).drop l.toNat)) else none
    | _,_,_ => none
    else none
  | .sl es _ => match elt P t with
    | none => none
    | some (_,sz,_) => match mx,bndOf 0 lo,bndOf es.length hi with
      | none,some l,some h => if (es.all fun e => e.cells.length == sz) = true ∧ 0 ≤ l ∧ l ≤ h ∧ h ≤ es.length then some (.sl ((es.take h.toNat).drop l.toNat) none) else none
      | some (.int _ m),some l,some h => if hi.isSome = true ∧ m = 0 ∧ l = 0 ∧ h = 0 then some .nil else none
      | _,_,_ => none
  | .nil => match elt P t with
    | none => none
    | some _ => match mx,bndOf 0 lo,bndOf 0 hi with
      | none,some l,some h => if l = 0 ∧ h = 0 then some .nil else none
      | some (.int _ m),some l,some h => if hi.isSome = true ∧ m = 0 ∧ l = 0 ∧ h = 0 then some .nil else none
      | _,_,_ => none
  | .dptr cs => match arr P t,lo,hi,mx with
    | some (len,1,false),none,none,none => if len ≤ cs.length ∧ len ≤ maxLen ∧ (cs.take len).all V.one = true then some (.sl (cs.take len) none) else none
    | _,_,_,_ => none
  | _ => none
theorem sliceE_sound {K:V → Prop} {t:TypeId} {lo hi mx:Option V} (h:sliceE P t x lo hi mx = some v) (hk:K v):sliceP P t x lo hi mx K:=by
  unfold sliceE at h;unfold sliceP
  cases x <;> simp only at h ⊢ <;> try (cases h;done)
  · split at h <;> try (cases h;done)
    rename_i hu
    refine ⟨uS_eq hu, ?_⟩
    split at h <;> try (cases h;done)
    rename_i h1 h2
    split at h <;> try (cases h;done)
    rename_i hc
    simp only [Option.some.injEq] at h;subst h
    simp only [h1,h2]
    exact ⟨hc.1,hc.2.1,hc.2.2,hk⟩
  · cases he:elt P t with
    | none => simp [he] at h
    | some a =>
      obtain ⟨e,sz,b⟩:=a
      rw [he] at h
      simp only at h ⊢
      split at h <;> try (cases h;done)
      · rename_i h1 h2
        split at h <;> try (cases h;done)
        rename_i hc
        simp only [Option.some.injEq] at h;subst h
        simp only [h1,h2]
        exact ⟨fun e he => by simpa using List.all_eq_true.1 hc.1 e he,hc.2.1,hc.2.2.1,hc.2.2.2,hk⟩
      · rename_i h1 h2
        split at h <;> try (cases h;done)
        rename_i hc
        simp only [Option.some.injEq] at h;subst h
        simp only [h1,h2]
        exact ⟨hc.1,hc.2.1,hc.2.2.1,hc.2.2.2,hk⟩
  · cases he:elt P t with
    | none => simp [he] at h
    | some a =>
      rw [he] at h
      simp only at h ⊢
      split at h <;> try (cases h;done)
      · rename_i h1 h2
        split at h <;> try (cases h;done)
        rename_i hc
        simp only [Option.some.injEq] at h;subst h
        simp only [h1,h2]
        exact ⟨hc.1,hc.2,hk⟩
      · rename_i h1 h2
        split at h <;> try (cases h;done)
        rename_i hc
        simp only [Option.some.injEq] at h;subst h
        simp only [h1,h2]
        exact ⟨hc.1,hc.2.1,hc.2.2.1,hc.2.2.2,hk⟩
  · split at h <;> try (cases h;done)
    rename_i ha
    simp only [ha]
    split at h <;> try (cases h;done)
    rename_i hc
    simp only [Option.some.injEq] at h;subst h
    exact ⟨hc.1,hc.2.1,hc.2.2,hk⟩
def buildE (P:Program) (t:TypeId) (parts:List (Nat × V)):Option V :=
  match plc P t,zro P t with
  | some pl,some z => match fillV pl z parts with
    | some cs => some (.agg cs)
    | none => none
  | _,_ => none
theorem buildE_sound {K:V → Prop} {t:TypeId} {ps:List (Nat × V)} (h:buildE P t ps = some v) (hk:K v):buildP P t ps K:=by
  unfold buildE at h;unfold buildP
  split at h <;> try (cases h;done)
  rename_i h1 h2
  simp only [h1,h2]
  split at h <;> try (cases h;done)
  rename_i h3
  simp only [h3]
  simp only [Option.some.injEq] at h;subst h;exact hk
def lenE (st:List O) (P:Program) (t:TypeId) (x:V):Option V :=
  match x with
  | .str l => if uS P t = true then some (.int .i64 l.length) else none
  | .sl es _ => if (elt P t).isSome = true then some (.int .i64 es.length) else none
  | .nil => if (elt P t).isSome = true then some (.int .i64 0) else none
  | .ref id ver => if (elt P t).isSome = true then match st[id]? with
    | some (.arr _ _ v es) => if ver = v then some (.int .i64 es.length) else none
    | _ => none
    else none
  | _ => none
theorem lenE_sound {K:V → Prop} {t:TypeId} (h:lenE st P t x = some v) (hk:K v):lenP st P t x K:=by
  unfold lenE at h;unfold lenP
  cases x <;> simp only at h ⊢ <;> try (cases h;done)
  all_goals
    split at h <;> try (cases h;done)
    rename_i hc
  · simp only [Option.some.injEq] at h;subst h;exact ⟨uS_eq hc,hk⟩
  · simp only [Option.some.injEq] at h;subst h;exact ⟨hc,hk⟩
  · simp only [Option.some.injEq] at h;subst h;exact ⟨hc,hk⟩
  · refine ⟨hc, ?_⟩
    split at h <;> try (cases h;done)
    rename_i ho
    rw [ho]
    split at h <;> try (cases h;done)
    simp only [Option.some.injEq] at h;subst h;exact ⟨by assumption,hk⟩
def partsB (sz:Nat) (parts:List (Nat × V)):Bool:=parts.all fun p => p.2.cells.length == sz && p.2.cells.all V.one && p.2.cells.all pureB
theorem partsB_spec {sz:Nat} {parts:List (Nat × V)} (h:partsB sz parts = true):∀ p ∈ parts,p.2.cells.length = sz ∧ p.2.cells.all V.one = true ∧ ∀ c ∈ p.2.cells,PureV c:=fun p hp => by
  have h:=List.all_eq_true.1 h p hp
  simp only [Bool.and_eq_true,beq_iff_eq] at h
  exact ⟨h.1.1,h.1.2,fun c hc => pureB_pure (List.all_eq_true.1 h.2 c hc)⟩
def buildSliceE (P:Program) (t:TypeId) (len:Nat) (parts:List (Nat × V)):Option (List V × TypeId × Nat) :=
  match elt P t with
  | none => none
  | some (e,sz,_) => if parts.map (·.1) = List.range len ∧ len * sz ≤ 16777216 ∧ partsB sz parts = true then some (parts.map (·.2.bare),e,sz) else none
def litB:V → Bool
  | .int _ _ | .bool _ | .str _ | .nilptr => true
  | _ => false
theorem litB_spec {z:V} (h:litB z = true):z.one = true ∧ z.bare = z ∧ PureV z:=by
  cases z <;> try (cases h;done)
  · exact ⟨rfl,rfl,PureV.int _ _⟩
  · exact ⟨rfl,rfl,PureV.bool _⟩
  · exact ⟨rfl,rfl,PureV.str _⟩
  · exact ⟨rfl,rfl,PureV.nilptr⟩
def makeE (P:Program) (t:TypeId) (st:List O) (x y:V):Option (V × List O) :=
  match elt P t with
  | some (e,sz,by_) => match zro P e,x,y with
    | some [z],.int _ l,.int _ c => if sz = 1 ∧ l = c ∧ 0 ≤ l ∧ (by_:Int) * l ≤ 281474976710656 ∧ l ≤ 9223372036854775807 ∧ litB z = true then some (.ref st.length 0,st ++ [.arr e 1 0 (List.replicate l.toNat z)]) else none
    | _,_,_ => none
  | none => none
theorem makeE_sound {K:V → List O → Prop} {t:TypeId} {st':List O} (h:makeE P t st x y = some (v,st')) (hk:K v st'):makeP P t st x y K:=by
  unfold makeE at h;unfold makeP
  cases he:elt P t with
  | none => simp [he] at h
  | some a =>
    obtain ⟨e,sz,by_⟩:=a
    rw [he] at h
    simp only at h ⊢
    split at h <;> try (cases h;done)
    rename_i h1
    simp only [h1]
    split at h <;> try (cases h;done)
    rename_i hc
    simp only [Option.some.injEq,Prod.mk.injEq] at h
    obtain ⟨rfl,rfl⟩:=h
    obtain ⟨k1,k2,k3⟩:=litB_spec hc.2.2.2.2.2
    exact ⟨hc.1,hc.2.1,hc.2.2.1,hc.2.2.2.1,hc.2.2.2.2.1,k1,k2,k3,hk⟩
def appE (P:Program) (t:TypeId) (st:List O) (x y:V):Option (V × List O) :=
  match elt P t,rowOf y with
  | some (e,sz,by_),some es2 => if (es2.all fun e => e.cells.length == sz) = true then match x with
    | .nil => if es2.length * by_ ≤ 140737488355328 ∧ es2.length ≤ maxLen then some (.sl es2 (some st.length),st ++ [.tok e sz es2.length]) else none
    | .sl es (some id) => match st[id]? with
      | some (.tok e' sz' n) => if e' = e ∧ sz' = sz ∧ n = es.length ∧ (es.length + es2.length) * by_ ≤ 140737488355328 ∧ es.length + es2.length ≤ maxLen then some (.sl (es ++ es2) (some id),st.set id (.tok e sz (es.length + es2.length))) else none
      | _ => none
    | .ref id ver => match st[id]? with
      | some (.arr e' sz' v es) => if e' = e ∧ sz' = sz ∧ v = ver ∧ (es.length + es2.length) * by_ ≤ 140737488355328 ∧ es.length + es2.length ≤ maxLen then some (.ref id (ver + 1),st.set id (.arr e sz (ver + 1) (es ++ es2))) else none
      | _ => none
    | _ => none
    else none
  | _,_ => none
theorem appE_sound {K:V → List O → Prop} {t:TypeId} {st':List O} (h:appE P t st x y = some (v,st')) (hk:K v st'):appendP P t st x y K:=by
  unfold appE at h;unfold appendP
  split at h <;> try (cases h;done)
  rename_i h1 h2
  simp only [h1,h2]
  split at h <;> try (cases h;done)
  rename_i hc
  refine ⟨fun e he => by simpa using List.all_eq_true.1 hc e he, ?_⟩
  cases x <;> (try simp only at h ⊢) <;> (try (cases h;done))
  · rename_i es tk
    cases tk <;> (try simp only at h ⊢) <;> (try (cases h;done))
    split at h <;> try (cases h;done)
    rename_i ho
    rw [ho]
    split at h <;> try (cases h;done)
    rename_i hc
    simp only [Option.some.injEq,Prod.mk.injEq] at h
    obtain ⟨rfl,rfl⟩:=h
    exact ⟨hc.1,hc.2.1,hc.2.2.1,hc.2.2.2.1,hc.2.2.2.2,hk⟩
  rotate_left
  · rename_i id ver
    split at h <;> try (cases h;done)
    rename_i ho
    rw [ho]
    split at h <;> try (cases h;done)
    rename_i hc
    simp only [Option.some.injEq,Prod.mk.injEq] at h
    obtain ⟨rfl,rfl⟩:=h
    exact ⟨hc.1,hc.2.1,hc.2.2.1,hc.2.2.2.1,hc.2.2.2.2,hk⟩
  · split at h <;> try (cases h;done)
    rename_i hc
    simp only [Option.some.injEq,Prod.mk.injEq] at h
    obtain ⟨rfl,rfl⟩:=h
    exact ⟨hc.1,hc.2,.inl hk⟩
end
end Go.Duo

namespace Go.Duo
open Go
abbrev CallE:=FuncId → List V → List O → Option (V × List O)
section
variable {P:Program} {gl:Nat → V} {r:Option Nat} {e:Env} {st:List O} {Q:Exit → Env → List O → Prop}
def CallE.ok (P:Program) (gl:Nat → V) (call:CallE):Prop:=∀ k args st v st',call k args st = some (v,st') → Call P gl k args st (fun v' st'' => v' = v ∧ st'' = st')
def keep (st:List O) (o:Option V):Option (V × List O):=match o with
  | some v => some (v,st)
  | none => none
theorem keep_eq {o:Option V} {v:V} {st':List O} (h:keep st o = some (v,st')):o = some v ∧ st' = st:=by
  unfold keep at h
  split at h
  · simp only [Option.some.injEq,Prod.mk.injEq] at h;exact ⟨by rw [h.1],h.2.symm⟩
  · cases h
def ifcE (P:Program) (t:TypeId) (op:BinOp) (x:V):Option V :=
  match isIfc P t with
  | true => match x,op with
    | .niliface,.eql => some (.bool true)
    | .niliface,.neq => some (.bool false)
    | .iface _ _,.eql => some (.bool false)
    | .iface _ _,.neq => some (.bool true)
    | _,_ => none
  | false => none
theorem ifcE_sound {K:V → Prop} {t:TypeId} {op:BinOp} {x v:V} (h:ifcE P t op x = some v) (hk:K v):ifcP P t op x K:=by
  unfold ifcE at h;unfold ifcP
  split at h <;> try (cases h;done)
  rename_i hi
  refine ⟨hi, ?_⟩
  split at h <;> first | (cases h;done) | (simp only [Option.some.injEq] at h;subst h;exact hk)
def stepE (P:Program) (call:CallE) (ρ:Operand → V) (st:List O) (op:Op):Option (V × List O) :=
  match op with
  | .move x => some (ρ x,st)
  | .assign x => some (ρ x,st)
  | .pick c a b => match ρ c with
    | .bool t => some (if t then ρ a else ρ b,st)
    | _ => none
  | .binOp op t x y _ => match isNilC y with
    | true => keep st (ifcE P t op (ρ x))
    | false => keep st (binE P t op (ρ x) (ρ y))
  | .unOp op _ x => keep st (unE op (ρ x))
  | .convert src dst x => match P.underlying src,P.underlying dst,ρ x with
    | some (.int _),some (.int k),.int _ n => some (.int k (k.wrap n),st)
    | some .string,some .string,.str l => some (.str l,st)
    | _,_,_ => none
  | .extract x i => match ρ x with
    | .tuple vs => if i < vs.length then some (vs.getD i .undef,st) else none
    | _ => none
  | .makeFunc fn first captured => some (.func fn (first.toList.map ρ) (captured.toList.map ρ),st)
  | .nilCheck x => if notNil (ρ x) = true then some (ρ x,st) else none
  | .load t x => keep st (loadE P t st (ρ x))
  | .store t x y => match storeE P t st (ρ x) (ρ y) with
    | some st' => some (.undef,st')
    | none => none
  | .fieldAddr t x f => keep st (faE P t st f (ρ x))
  | .field t x f => keep st (fieldE P t f (ρ x))
  | .indexAddr t x i => keep st (iaE P t st (ρ x) (ρ i))
  | .index t x i => keep st (ixE P t (ρ x) (ρ i))
  | .slice t x lo hi mx => keep st (sliceE P t (ρ x) (lo.map ρ) (hi.map ρ) (mx.map ρ))
  | .box t x => if (ρ x).cells.all V.one = true then some (.ptr st.length 0,st ++ [.box t (ρ x).cells]) else none
  | .alloc t => match zro P t with
    | some z => some (.ptr st.length 0,st ++ [.box t z])
    | none => none
  | .makeSlice t x y => makeE P t st (ρ x) (ρ y)
  | .makeMap _ none => some (.map st.length,st ++ [.map [] []])
  | .lookup t x k ok => keep st (lookE P st t (ρ x) (ρ k) ok)
  | .mapUpdate t m k x => match setE P st t (ρ m) (ρ k) (ρ x) with
    | some st' => some (.undef,st')
    | none => none
  | .insert t m k x => match setE P st t (ρ m) (ρ k) (ρ x) with
    | some st' => some (.undef,st')
    | none => none
  | .build t parts => keep st (buildE P t (parts.toList.map fun p => (p.1,ρ p.2)))
  | .buildSlice t len parts => if len = 0 then (if parts.size = 0 ∧ (elt P t).isSome = true then some (.nil,st) else none) else match buildSliceE P t len (parts.toList.map fun p => (p.1,ρ p.2)) with
    | some (es,e,sz) => some (.sl es (some st.length),st ++ [.tok e sz len])
    | none => none
  | .call c => match c.callee with
    | .value f => match ρ f with
      | .func (.func k) fs cs => if ent P k = true then call k (fs ++ c.args.toList.map ρ ++ cs) st else none
      | _ => none
    | .builtin .len => match c.args.toList,c.argTypes.toList with
      | [x],[t] => keep st (lenE st P t (ρ x))
      | _,_ => none
    | .builtin .append => match c.args.toList,c.argTypes.toList with
      | [x,y],[t,u] => if t = u then appE P t st (ρ x) (ρ y) else none
      | _,_ => none
    | .builtin .delete => match c.args.toList,c.argTypes.toList with
      | [x,y],[t,_] => match delE P st t (ρ x) (ρ y) with
        | some st' => some (.tuple [],st')
        | none => none
      | _,_ => none
    | .builtin .max => match c.args.toList with
      | [x,y] => match ρ x,ρ y with
        | .int k a,.int _ b => some (.int k (if a < b then b else a),st)
        | _,_ => none
      | _ => none
    | .builtin .min => match c.args.toList with
      | [x,y] => match ρ x,ρ y with
        | .int k a,.int _ b => some (.int k (if b < a then b else a),st)
        | _,_ => none
      | _ => none
    | _ => none
  | _ => none
theorem stepE_sound {call:CallE} (hc:call.ok P gl) {ρ:Operand → V} {op:Op} {v:V} {st':List O} {K:V → List O → Prop} (h:stepE P call ρ st op = some (v,st')) (hk:K v st'):step1 P gl ρ st op K:=by
  have kp:∀ {o:Option V} {X:Prop},keep st o = some (v,st') → (o = some v → K v st → X) → X:=fun hh hX => by
    obtain ⟨h1,rfl⟩:=keep_eq hh
    exact hX h1 hk
  have in1:∀ {a:V} {s:List O},some (a,s) = some (v,st') → K a s:=fun hh => by
    simp only [Option.some.injEq,Prod.mk.injEq] at hh
    obtain ⟨rfl,rfl⟩:=hh
    exact hk
  unfold stepE at h;unfold step1
  cases op <;> (try simp only at h ⊢) <;> (try (cases h;done))
  case move => exact in1 h
  case assign => exact in1 h
  case pick =>
    split at h <;> try (cases h;done)
    rename_i hh;simp only [hh];exact in1 h
  case binOp op t x y yt =>
    cases hny:isNilC y with
    | true =>
      simp only [hny] at h
      simp only [if_true]
      exact kp h fun h1 h2 => ifcE_sound h1 h2
    | false =>
      simp only [hny] at h
      simp only [Bool.false_eq_true,if_false]
      exact kp h fun h1 h2 => binE_sound h1 h2
  case unOp => exact kp h fun h1 h2 => unE_sound h1 h2
  case convert =>
    split at h <;> try (cases h;done)
    · rename_i h1 h2 h3;simp only [h1,h2,h3];exact in1 h
    · rename_i h1 h2 h3;simp only [h1,h2,h3];exact in1 h
  case extract =>
    split at h <;> try (cases h;done)
    rename_i hh;simp only [hh]
    split at h <;> try (cases h;done)
    exact ⟨by assumption,in1 h⟩
  case makeFunc => exact in1 h
  case nilCheck =>
    split at h <;> try (cases h;done)
    exact ⟨by assumption,in1 h⟩
  case load => exact kp h fun h1 h2 => loadE_sound h1 h2
  case store =>
    split at h <;> try (cases h;done)
    rename_i hh
    exact storeE_sound hh (in1 h)
  case fieldAddr => exact kp h fun h1 h2 => faE_sound h1 h2
  case field => exact kp h fun h1 h2 => fieldE_sound h1 h2
  case indexAddr => exact kp h fun h1 h2 => iaE_sound h1 h2
  case index => exact kp h fun h1 h2 => ixE_sound h1 h2
  case slice => exact kp h fun h1 h2 => sliceE_sound h1 h2
  case box =>
    split at h <;> try (cases h;done)
    exact ⟨by assumption,in1 h⟩
  case alloc =>
    split at h <;> try (cases h;done)
    rename_i hh;simp only [hh];exact in1 h
  case makeSlice => exact makeE_sound h hk
  case makeMap t r =>
    cases r with
    | some r => cases h
    | none => exact in1 h
  case lookup => exact kp h fun h1 h2 => by unfold lookP;rw [h1];exact h2
  case mapUpdate =>
    split at h <;> try (cases h;done)
    rename_i hh
    unfold setP;rw [hh];exact in1 h
  case insert =>
    split at h <;> try (cases h;done)
    rename_i hh
    unfold setP;rw [hh];exact in1 h
  case build => exact kp h fun h1 h2 => buildE_sound h1 h2
  case buildSlice t len parts =>
    split at h
    · rename_i h0
      split at h <;> try (cases h;done)
      rename_i hh
      refine ⟨fun _ => hh.1, ?_⟩
      unfold buildSliceP
      cases he:elt P t with
      | none => rw [he] at hh;cases hh.2
      | some a =>
        obtain ⟨a,b,c⟩:=a
        simp only
        rw [if_pos h0]
        exact in1 h
    · rename_i h0
      refine ⟨fun hh => absurd hh h0, ?_⟩
      split at h <;> try (cases h;done)
      rename_i hh
      unfold buildSliceE at hh;unfold buildSliceP
      split at hh <;> try (cases hh;done)
      rename_i he
      simp only [he]
      rw [if_neg h0]
      split at hh <;> try (cases hh;done)
      rename_i hcc
      simp only [Option.some.injEq,Prod.mk.injEq] at hh
      obtain ⟨rfl,rfl,rfl⟩:=hh
      exact ⟨hcc.1,hcc.2.1,partsB_spec hcc.2.2,in1 h⟩
  case call c =>
    cases hcal:c.callee with
    | value f =>
      rw [hcal] at h
      simp only at h ⊢
      split at h <;> try (cases h;done)
      rename_i hf
      simp only [hf]
      split at h <;> try (cases h;done)
      refine ⟨by assumption, ?_⟩
      exact Call.mono (hc _ _ _ _ _ h) fun v' s' hv => by obtain ⟨rfl,rfl⟩:=hv;exact hk
    | invoke a m => rw [hcal] at h;cases h
    | builtin b =>
      rw [hcal] at h
      cases b <;> (try simp only at h ⊢) <;> (try (cases h;done))
      case len =>
        split at h <;> try (cases h;done)
        rename_i h1 h2;simp only [h1,h2];exact kp h fun h1 h2 => lenE_sound h1 h2
      case append =>
        split at h <;> try (cases h;done)
        rename_i h1 h2;simp only [h1,h2]
        split at h <;> try (cases h;done)
        exact ⟨by assumption,appE_sound h hk⟩
      case delete =>
        split at h <;> try (cases h;done)
        rename_i h1 h2;simp only [h1,h2]
        split at h <;> try (cases h;done)
        rename_i hh
        unfold delP;rw [hh];exact in1 h
      all_goals
        split at h <;> try (cases h;done)
        rename_i h1;simp only [h1]
        split at h <;> try (cases h;done)
        rename_i h1 h2;simp only [h1,h2];exact in1 h
noncomputable def getE (m:List (Nat × V)) (t:Nat):V :=
  @List.rec (Nat × V) (fun _ => V) V.undef (fun p _ ih => @Prod.rec Nat V (fun _ => V) (fun a v => @Bool.rec (fun _ => V) ih v (Nat.beq a t)) p) m
theorem getE_eq (m:List (Nat × V)) (t:Nat):getE m t = getM m t:=by
  induction m with
  | nil => rfl
  | cons p m ih =>
    obtain ⟨a,v⟩:=p
    show @Bool.rec (fun _ => V) (getE m t) v (Nat.beq a t) = _
    unfold getM
    cases h:Nat.beq a t with
    | true => rw [if_pos (Nat.eq_of_beq_eq_true h)]
    | false => rw [if_neg (Nat.ne_of_beq_eq_false h),← ih]
noncomputable def evE (gl:Nat → V) (e:Env):Operand → V
  | .tmp t => getE e.m t
  | .const v => V.ofConst v
  | .global g => gl g
  | .func f => .func (.func f) [] []
theorem evE_eq (gl:Nat → V) (e:Env):evE gl e = e.ev gl:=by
  funext x
  cases x <;> first | rfl | exact getE_eq _ _
theorem split_same {b want:Bool} {A B:Prop} (h:b = want) (hA:A):Split b (if want then A else B) (if want then B else A):=by
  subst h;cases b <;> simp [Split,hA]
theorem split_other {b want:Bool} {A B:Prop} (h:¬ b = want) (hB:B):Split b (if want then A else B) (if want then B else A):=by
  cases b <;> cases want <;> first | exact absurd rfl h | simp [Split,hB]
noncomputable def regE (P:Program) (gl:Nat → V) (call:CallE) (ops:Array Oper):List Oper → Env → List O → Option (Env × List O)
  | [],e,st => some (e,st)
  | o :: rest,e,st => match fitB e o.dst with
    | false => none
    | true => match o.guard with
      | none => match stepE P call (evE gl e) st o.op with
        | some (v,st') => regE P gl call ops rest (e.put o.dst v) st'
        | none => none
      | some (j,want) => match (ops[j]?).bind (·.dst) with
        | none => none
        | some d => match getE e.m d with
          | .bool b => match b == want with
            | true => match stepE P call (evE gl e) st o.op with
              | some (v,st') => regE P gl call ops rest (e.put o.dst v) st'
              | none => none
            | false => regE P gl call ops rest (e.put o.dst (.tuple [])) st
          | .tuple [] => regE P gl call ops rest (e.put o.dst (.tuple [])) st
          | _ => none
theorem regE_sound {call:CallE} (hc:call.ok P gl) {ops:Array Oper} {K:Env → List O → Prop}:∀ (l:List Oper) (e:Env) (st:List O) (e':Env) (st':List O),regE P gl call ops l e st = some (e',st') → K e' st' → awL P gl ops l e st K:=by
  intro l
  induction l with
  | nil =>
    intro e st e' st' h hk
    simp only [regE,Option.some.injEq,Prod.mk.injEq] at h
    obtain ⟨rfl,rfl⟩:=h
    exact hk
  | cons o rest ih =>
    intro e st e' st' h hk
    unfold regE at h
    rw [evE_eq] at h
    unfold awL
    split at h <;> try (cases h;done)
    rename_i hf
    refine ⟨fits_of hf, ?_⟩
    cases hg:o.guard with
    | none =>
      rw [hg] at h
      simp only at h ⊢
      split at h <;> try (cases h;done)
      rename_i hs
      exact stepE_sound (K:=fun v st' => awL P gl ops rest (e.put o.dst v) st' K) hc hs (ih _ _ _ _ h hk)
    | some jw =>
      obtain ⟨j,want⟩:=jw
      rw [hg] at h
      simp only at h ⊢
      split at h <;> try (cases h;done)
      rename_i hd
      simp only [hd]
      split at h <;> try (cases h;done)
      case h_2 hb =>
        rw [getE_eq] at hb
        simp only [show e.get _ = _ from hb]
        exact ih _ _ _ _ h hk
      rename_i hb
      rw [getE_eq] at hb
      simp only [show e.get _ = _ from hb]
      split at h
      · rename_i hbw
        split at h <;> try (cases h;done)
        rename_i hs
        exact split_same (by simpa using hbw) (stepE_sound (K:=fun v st' => awL P gl ops rest (e.put o.dst v) st' K) hc hs (ih _ _ _ _ h hk))
      · rename_i hbw
        exact split_other (by simpa using hbw) (ih _ _ _ _ h hk)
mutual
def V.eqb:V → V → Bool
  | .undef,.undef => true
  | .int k n,.int k' n' => decide (k = k') && decide (n = n')
  | .bool a,.bool b => decide (a = b)
  | .str a,.str b => decide (a = b)
  | .agg a,.agg b => V.eqbL a b
  | .tuple a,.tuple b => V.eqbL a b
  | .sl a t,.sl b t' => V.eqbL a b && decide (t = t')
  | .nil,.nil => true
  | .ptr i o,.ptr i' o' => decide (i = i') && decide (o = o')
  | .dptr a,.dptr b => V.eqbL a b
  | .nilptr,.nilptr => true
  | .nilfunc,.nilfunc => true
  | .niliface,.niliface => true
  | .map i,.map j => decide (i = j)
  | _,_ => false
def V.eqbL:List V → List V → Bool
  | [],[] => true
  | a :: as,b :: bs => V.eqb a b && V.eqbL as bs
  | _,_ => false
end
mutual
theorem V.eqb_eq:∀ {a b:V},V.eqb a b = true → a = b:=fun {a b} h => by
  cases a <;> cases b <;> simp only [V.eqb,Bool.and_eq_true,decide_eq_true_eq] at h <;> first | (cases h;done) | rfl | (subst h;rfl) | (obtain ⟨rfl,rfl⟩:=h;rfl) | (rw [V.eqbL_eq h]) | (rw [V.eqbL_eq h.1,h.2])
theorem V.eqbL_eq:∀ {a b:List V},V.eqbL a b = true → a = b:=fun {a b} h => by
  cases a <;> cases b <;> simp only [V.eqbL,Bool.and_eq_true] at h <;> first | (cases h;done) | rfl | (rw [V.eqb_eq h.1,V.eqbL_eq h.2])
end
def O.eqb:O → O → Bool
  | .box t cs,.box t' cs' => decide (t = t') && V.eqbL cs cs'
  | .map a b,.map a' b' => V.eqbL a a' && V.eqbL b b'
  | .tok e s n,.tok e' s' n' => decide (e = e') && decide (s = s') && decide (n = n')
  | .arr e s v es,.arr e' s' v' es' => decide (e = e') && decide (s = s') && decide (v = v') && V.eqbL es es'
  | .dead,.dead => true
  | _,_ => false
theorem O.eqb_eq {a b:O} (h:O.eqb a b = true):a = b:=by
  cases a <;> cases b <;> simp only [O.eqb,Bool.and_eq_true,decide_eq_true_eq] at h <;> first | (cases h;done) | rfl | (rw [h.1,V.eqbL_eq h.2]) | (rw [V.eqbL_eq h.1,V.eqbL_eq h.2]) | (rw [h.1.1,h.1.2,h.2]) | (rw [h.1.1.1,h.1.1.2,h.1.2,V.eqbL_eq h.2])
def stEqb:List O → List O → Bool
  | [],[] => true
  | a :: as,b :: bs => O.eqb a b && stEqb as bs
  | _,_ => false
theorem stEqb_eq:∀ {a b:List O},stEqb a b = true → a = b:=fun {a b} h => by
  induction a generalizing b with
  | nil => cases b with
    | nil => rfl
    | cons => cases h
  | cons x a ih => cases b with
    | nil => cases h
    | cons y b =>
      simp only [stEqb,Bool.and_eq_true] at h
      rw [O.eqb_eq h.1,ih h.2]
def stepAE (P:Program) (call:CallE) (ρ:Operand → V) (st:List O) (op:Op):Option (V × Option ((Nat → V) × O)) :=
  match op with
  | .alloc t => match zro P t with
    | some z => some (.undef,some (fun i => .ptr i 0,.box t z))
    | none => none
  | .buildSlice t len parts => if len = 0 then (if parts.size = 0 ∧ (elt P t).isSome = true then some (.nil,none) else none) else match buildSliceE P t len (parts.toList.map fun p => (p.1,ρ p.2)) with
    | some (es,e,sz) => some (.sl es none,some (fun i => .sl es (some i),.tok e sz len))
    | none => none
  | op => if calm op = true then match stepE P (fun _ _ _ => none) ρ st op with
      | some (v,_) => some (v,none)
      | none => none
    else match op with
    | .call c => match c.callee with
      | .value f => match ρ f with
        | .func (.func k) fs cs => if ent P k = true then match call k (fs ++ c.args.toList.map ρ ++ cs) st with
          | some (v,st') => if stEqb st' st = true then some (v,none) else none
          | none => none
          else none
        | _ => none
      | .builtin .append => match c.args.toList,c.argTypes.toList with
        | [x,y],[t,u] => if t = u then match elt P t,rowOf (ρ y),ρ x with
          | some (e,sz,by_),some es2,.nil => if (es2.all fun e => e.cells.length == sz) = true ∧ es2.length * by_ ≤ 140737488355328 ∧ es2.length ≤ maxLen then match es2 with
            | [] => some (.nil,none)
            | _ => some (.sl es2 none,some (fun i => .sl es2 (some i),.tok e sz es2.length))
            else none
          | _,_,_ => none
          else none
        | _,_ => none
      | _ => none
    | _ => none
theorem stepAE_sound {call:CallE} (hc:call.ok P gl) {ρ:Operand → V} {op:Op} {v:V} {u:Option ((Nat → V) × O)} {K:V → Option ((Nat → V) × O) → Prop} (h:stepAE P call ρ st op = some (v,u)) (hk:K v u):stepA P gl ρ st op K:=by
  have in1:∀ {a:V} {s:Option ((Nat → V) × O)},some (a,s) = some (v,u) → K a s:=fun hh => by
    simp only [Option.some.injEq,Prod.mk.injEq] at hh
    obtain ⟨rfl,rfl⟩:=hh
    exact hk
  have cm:calm op = true → (match stepE P (fun _ _ _ => none) ρ st op with
      | some (v,_) => some (v,(none:Option ((Nat → V) × O)))
      | none => none) = some (v,u) → step1 P gl ρ st op (fun v _ => K v none):=fun hcm h => by
    split at h <;> try (cases h;done)
    rename_i hs
    exact stepE_sound (K:=fun v _ => K v none) (fun k args st v st' hh => by cases hh) hs (in1 h)
  cases op <;> (try (simp only [stepAE,calm,Bool.false_eq_true,if_false] at h;cases h;done))
  case alloc t =>
    simp only [stepAE] at h;unfold stepA;simp only
    split at h <;> try (cases h;done)
    rename_i hh;simp only [hh];exact in1 h
  case buildSlice t len parts =>
    simp only [stepAE] at h;unfold stepA;simp only
    split at h
    · rename_i h0
      split at h <;> try (cases h;done)
      rename_i hh
      refine ⟨fun _ => hh.1, ?_⟩
      unfold buildSliceA
      cases he:elt P t with
      | none => rw [he] at hh;cases hh.2
      | some a =>
        obtain ⟨a,b,c⟩:=a
        simp only
        rw [if_pos h0]
        exact in1 h
    · rename_i h0
      refine ⟨fun hh => absurd hh h0, ?_⟩
      split at h <;> try (cases h;done)
      rename_i hh
      unfold buildSliceE at hh;unfold buildSliceA
      split at hh <;> try (cases hh;done)
      rename_i he
      simp only [he]
      rw [if_neg h0]
      split at hh <;> try (cases hh;done)
      rename_i hcc
      simp only [Option.some.injEq,Prod.mk.injEq] at hh
      obtain ⟨rfl,rfl,rfl⟩:=hh
      exact ⟨hcc.1,hcc.2.1,partsB_spec hcc.2.2,in1 h⟩
  case call c =>
    unfold stepA;simp only
    cases hcal:c.callee with
    | value f =>
      simp only [stepAE,calm,hcal,Bool.false_eq_true,if_false] at h ⊢
      split at h <;> try (cases h;done)
      rename_i hf
      simp only [hf]
      split at h <;> try (cases h;done)
      refine ⟨by assumption, ?_⟩
      split at h <;> try (cases h;done)
      rename_i hcl
      split at h <;> try (cases h;done)
      rename_i heq
      exact ⟨_,Call.mono (hc _ _ _ _ _ hcl) fun v' s' hv => ⟨hv.1,hv.2.trans (stEqb_eq heq)⟩,in1 h⟩
    | invoke a m => simp only [stepAE,calm,hcal,Bool.false_eq_true,if_false] at h;cases h
    | builtin b =>
      cases b <;> (try (simp only [stepAE,calm,hcal,Bool.false_eq_true,if_false] at h;cases h;done))
      case append =>
        simp only [stepAE,calm,hcal,Bool.false_eq_true,if_false] at h ⊢
        split at h <;> try (cases h;done)
        rename_i h1 h2;simp only [h1,h2]
        split at h <;> try (cases h;done)
        refine ⟨by assumption, ?_⟩
        split at h <;> try (cases h;done)
        rename_i he hr hx
        split at h <;> try (cases h;done)
        rename_i hcc
        unfold appendA
        simp only [he,hr,hx]
        refine ⟨fun e he => by simpa using List.all_eq_true.1 hcc.1 e he,hcc.2.1,hcc.2.2,.inr ?_⟩
        split at h
        · exact ⟨fun _ => in1 h,fun hh => absurd rfl hh⟩
        · rename_i hne
          exact ⟨fun hh => absurd hh hne,fun _ => in1 h⟩
      all_goals
        simp only [stepAE,calm,hcal,if_true] at h ⊢
        exact cm (by simp only [calm,hcal]) h
  all_goals
    simp only [stepAE,calm,if_true] at h
    unfold stepA
    simp only [calm,if_true]
    exact cm rfl h
def findM (ops:Array Oper):Nat → Option Nat
  | 0 => if anyOK ops 0 = true then some 0 else none
  | n + 1 => match findM ops n with
    | some m => some m
    | none => if anyOK ops (n + 1) = true then some (n + 1) else none
theorem findM_ok {ops:Array Oper} {m:Nat}:∀ n,findM ops n = some m → anyOK ops m = true:=by
  intro n
  induction n with
  | zero => intro h;unfold findM at h;split at h <;> first | (cases h;done) | (simp only [Option.some.injEq] at h;subst h;assumption)
  | succ n ih =>
    intro h
    unfold findM at h
    split at h
    · rename_i hh;simp only [Option.some.injEq] at h;subst h;exact ih hh
    · split at h <;> first | (cases h;done) | (simp only [Option.some.injEq] at h;subst h;assumption)
def known (t:Nat) (v:V):Option (Nat × V):=match v with | .undef => none | v => some (t,v)
theorem known_eq {t:Nat} {v:V} {b:Nat × V} (h:known t v = some b):b = (t,v):=by
  unfold known at h;split at h <;> first | (cases h;done) | (simp only [Option.some.injEq] at h;exact h.symm)
noncomputable def Env.norm (e:Env):Env:=⟨e.n,(List.range e.n).filterMap fun t => known t (getE e.m t)⟩
theorem Env.norm_le (st:List O) (e:Env):Env.le st e e.norm:=by
  refine ⟨Nat.le_refl _,fun t => ?_⟩
  have key:∀ l:List Nat,getM (l.filterMap fun t => known t (getE e.m t)) t = .undef ∨ getM (l.filterMap fun t => known t (getE e.m t)) t = e.get t:=by
    intro l
    induction l with
    | nil => exact .inl rfl
    | cons a l ih =>
      rw [List.filterMap_cons]
      split
      · exact ih
      · rename_i b hb
        rw [known_eq hb]
        simp only [getM]
        by_cases hat:a = t
        · subst hat;rw [if_pos rfl];exact .inr (getE_eq _ _)
        · rw [if_neg hat];exact ih
  rcases key (List.range e.n) with h | h
  · show V.le st _ (getM ((List.range e.n).filterMap fun t => known t (getE e.m t)) t)
    rw [h];exact V.le_undef _ _
  · show V.le st _ (getM ((List.range e.n).filterMap fun t => known t (getE e.m t)) t)
    rw [h];exact V.le_refl _ _
noncomputable def Env.normAt (m:Nat) (e:Env):Env:=@Bool.rec (fun _ => Env) e e.norm (Nat.beq (Nat.mod m 6) 0)
theorem Env.normAt_le (st:List O) (m:Nat) (e:Env):Env.le st e (e.normAt m):=by
  unfold Env.normAt
  cases Nat.beq (Nat.mod m 6) 0
  · exact Env.le_refl _ _
  · exact Env.norm_le _ _
abbrev ResE:=Option (Exit × Env × List O)
noncomputable def loopE (f:Env → List O → ResE):Nat → Env → List O → ResE
  | 0,_,_ => none
  | m + 1,e,st => match f (e.normAt m) st with
    | some (.normal,e',st') => loopE f m e' st'
    | r => r
theorem loopE_sound {c:Code} {f:Env → List O → ResE} (hf:∀ e st x e' st' Q,f e st = some (x,e',st') → Q x e' st' → AW P gl r c Q e st) :
    ∀ (m:Nat) (e:Env) (st:List O) (x:Exit) (e':Env) (st':List O) (Q:Exit → Env → List O → Prop),loopE f m e st = some (x,e',st') → x ≠ .normal ∧ (Q x e' st' → AW P gl r (.loop c) Q e st):=by
  intro m e st x e' st' Q h
  have hx:∀ m e st,loopE f m e st = some (x,e',st') → x ≠ .normal:=by
    intro m
    induction m with
    | zero => intro e st h;cases h
    | succ m ih =>
      intro e st h
      unfold loopE at h
      split at h
      · exact ih _ _ h
      · rename_i hne
        intro hh
        subst hh
        exact hne _ _ h
  refine ⟨hx m e st h,fun hq => ?_⟩
  refine AW.loopN (fun n e st => loopE f n e st = some (x,e',st')) m h ?_
  intro n e st h
  cases n with
  | zero => cases h
  | succ n =>
    unfold loopE at h
    refine .pre (Env.normAt_le _ n _) (StLe.refl _) ?_
    split at h
    · rename_i hh
      exact hf _ _ _ _ _ _ hh ⟨n,Nat.lt_succ_self _,h⟩
    · rename_i hne
      refine hf _ _ _ _ _ _ h ?_
      cases x with
      | normal => exact (hne _ _ h).elim
      | _ => exact hq
def resE (P:Program) (e:Env) (st:List O):List ResultVar → Option (List V)
  | [] => some []
  | .tmp t :: l => match resE P e st l with
    | some vs => some (e.get t :: vs)
    | none => none
  | .cell a t :: l => match loadE P t st (e.get a) with
    | some v => match resE P e st l with
      | some vs => some (v :: vs)
      | none => none
    | none => none
theorem resE_sound:∀ (l:List ResultVar) (vs:List V) (K:List V → Prop),resE P e st l = some vs → K vs → resP P e st l K:=by
  intro l
  induction l with
  | nil => intro vs K h hk;simp only [resE,Option.some.injEq] at h;subst h;exact hk
  | cons a l ih =>
    intro vs K h hk
    cases a with
    | tmp t =>
      unfold resE at h
      split at h <;> try (cases h;done)
      rename_i hh
      simp only [Option.some.injEq] at h
      subst h
      exact ih _ (fun vs => K (e.get t :: vs)) hh hk
    | cell b t =>
      unfold resE at h
      split at h <;> try (cases h;done)
      rename_i hl
      split at h <;> try (cases h;done)
      rename_i hh
      simp only [Option.some.injEq] at h
      subst h
      refine loadE_sound (K:=fun v => resP P e st l fun vs => K (v :: vs)) hl ?_
      exact ih _ (fun vs => K (_ :: vs)) hh hk
def isEnd:Exit → Bool
  | .normal | .ret => true
  | _ => false
end
end Go.Duo

namespace Go.Duo
open Go
section
variable {P:Program} {gl:Nat → V} {r:Option Nat} {e:Env} {st:List O} {Q:Exit → Env → List O → Prop}
def nocall:CallE:=fun _ _ _ => none
theorem nocall_ok:CallE.ok P gl nocall:=fun _ _ _ _ _ h => by cases h
def stopOp:Op → Bool
  | .call c => match c.callee with
    | .value _ => true
    | _ => false
  | _ => false
def fitsL (n:Nat):List Oper → Bool
  | [] => true
  | o :: l => (match o.dst with | none => true | some d => Nat.blt d n) && fitsL n l
def regS (P:Program) (gl:Nat → V):List Oper → Env → List O → Option (Env × List O × List Oper)
  | [],e,st => some (e,st,[])
  | o :: rest,e,st => match o.guard with
    | some _ => some (e,st,o :: rest)
    | none => match stopOp o.op with
      | true => some (e,st,o :: rest)
      | false => match stepE P nocall (e.ev gl) st o.op with
        | some (v,st') => regS P gl rest (e.put o.dst v) st'
        | none => none
def regB (P:Program) (gl:Nat → V) (b:Bool) (o:Oper) (rest:List Oper) (e:Env) (st:List O):Option (Env × List O × List Oper) :=
  match b with
  | true => some (e,st,o :: rest)
  | false => match stepE P nocall (e.ev gl) st o.op with
    | some (v,st') => regS P gl rest (e.put o.dst v) st'
    | none => none
def regC (P:Program) (gl:Nat → V) (d:Option Tmp) (rest:List Oper) (e:Env):Option (V × List O) → Option (Env × List O × List Oper)
  | some (v,st') => regS P gl rest (e.put d v) st'
  | none => none
theorem regS_nil (P:Program) (gl:Nat → V) (e:Env) (st:List O):regS P gl [] e st = some (e,st,[]):=rfl
theorem regS_g (P:Program) (gl:Nat → V) (d:Option Tmp) (op:Op) (t:TypeId) (p:String) (a:Array Edge) (g:Nat × Bool) (rest:List Oper) (e:Env) (st:List O) :
    regS P gl (⟨d,op,t,p,a,some g⟩ :: rest) e st = some (e,st,⟨d,op,t,p,a,some g⟩ :: rest):=rfl
theorem regS_op (P:Program) (gl:Nat → V) (d:Option Tmp) (op:Op) (t:TypeId) (p:String) (a:Array Edge) (rest:List Oper) (e:Env) (st:List O) :
    regS P gl (⟨d,op,t,p,a,none⟩ :: rest) e st = regB P gl (stopOp op) ⟨d,op,t,p,a,none⟩ rest e st:=by
  simp only [regS,regB]
theorem regB_t (P:Program) (gl:Nat → V) (o:Oper) (rest:List Oper) (e:Env) (st:List O):regB P gl true o rest e st = some (e,st,o :: rest):=rfl
theorem regB_f (P:Program) (gl:Nat → V) (d:Option Tmp) (op:Op) (t:TypeId) (p:String) (a:Array Edge) (rest:List Oper) (e:Env) (st:List O) :
    regB P gl false ⟨d,op,t,p,a,none⟩ rest e st = regC P gl d rest e (stepE P nocall (e.ev gl) st op):=by
  simp only [regB,regC]
theorem regC_s (P:Program) (gl:Nat → V) (d:Option Tmp) (rest:List Oper) (e:Env) (v:V) (st':List O):regC P gl d rest e (some (v,st')) = regS P gl rest (e.put d v) st':=rfl
theorem put_n (e:Env) (d:Option Tmp) (v:V):(e.put d v).n = e.n:=by cases d <;> rfl
theorem awL_S {ops:Array Oper} {K:Env → List O → Prop}:∀ {l:List Oper} {e:Env} {st:List O} {e':Env} {st':List O} {rest:List Oper},fitsL e.n l = true → regS P gl l e st = some (e',st',rest) → awL P gl ops rest e' st' K → awL P gl ops l e st K:=by
  intro l
  induction l with
  | nil =>
    intro e st e' st' rest _ h hk
    simp only [regS,Option.some.injEq,Prod.mk.injEq] at h
    obtain ⟨rfl,rfl,rfl⟩:=h
    exact hk
  | cons o l ih =>
    intro e st e' st' rest hf h hk
    unfold regS at h
    split at h
    · simp only [Option.some.injEq,Prod.mk.injEq] at h
      obtain ⟨rfl,rfl,rfl⟩:=h
      exact hk
    · rename_i hg
      split at h
      · simp only [Option.some.injEq,Prod.mk.injEq] at h
        obtain ⟨rfl,rfl,rfl⟩:=h
        exact hk
      · split at h <;> try (cases h;done)
        rename_i hs
        simp only [fitsL,Bool.and_eq_true] at hf
        unfold awL
        refine ⟨?_, ?_⟩
        · cases hd:o.dst with
          | none => trivial
          | some d => have:=hf.1;rw [hd] at this;simpa [Env.fits] using this
        · rw [hg]
          exact stepE_sound (K:=fun v st' => awL P gl ops l (e.put o.dst v) st' K) nocall_ok hs (ih (by rw [put_n];exact hf.2) h hk)
theorem awL_S1 {ops:Array Oper} {K:Env → List O → Prop} {d:Option Tmp} {op:Op} {t:TypeId} {p:String} {a:Array Edge} {l:List Oper} {e':Env} {st':List O} {rest:List Oper} (_:stopOp op = false) (hf:fitsL e.n (⟨d,op,t,p,a,none⟩ :: l) = true)
    (h:regS P gl (⟨d,op,t,p,a,none⟩ :: l) e st = some (e',st',rest)) (hk:awL P gl ops rest e' st' K):awL P gl ops (⟨d,op,t,p,a,none⟩ :: l) e st K:=awL_S hf h hk
theorem awL_nil {ops:Array Oper} {K:Env → List O → Prop} (h:K e st):awL P gl ops [] e st K:=h
theorem awL_call {ops:Array Oper} {K:Env → List O → Prop} {d:Option Tmp} {f:Operand} {args:Array Operand} {ats:Array TypeId} {t:TypeId} {p:String} {a:Array Edge} {rest:List Oper} {k:FuncId} {fs cs:List V} {vs:List V} {v0:V} {st0:List O}
    (hf:e.ev gl f = .func (.func k) fs cs) (he:ent P k = true) (ha:fs ++ args.toList.map (e.ev gl) ++ cs = vs) (hc:Call P gl k vs st fun v st' => v = v0 ∧ st' = st0) (hfit:fitB e d = true) (hk:awL P gl ops rest (e.put d v0) st0 K) :
    awL P gl ops (⟨d,.call ⟨.value f,args,ats⟩,t,p,a,none⟩ :: rest) e st K:=by
  unfold awL
  refine ⟨fits_of hfit, ?_⟩
  simp only [step1,hf,ha]
  exact ⟨he,Call.mono hc (by rintro v st' ⟨rfl,rfl⟩;exact hk)⟩
theorem awL_gyes {ops:Array Oper} {K:Env → List O → Prop} {d:Option Tmp} {op:Op} {t:TypeId} {p:String} {a:Array Edge} {rest:List Oper} {j c:Nat} {want:Bool}
    (hd:(ops[j]?).bind (·.dst) = some c) (hv:e.get c = .bool want) (h:awL P gl ops (⟨d,op,t,p,a,none⟩ :: rest) e st K):awL P gl ops (⟨d,op,t,p,a,some (j,want)⟩ :: rest) e st K:=by
  unfold awL at h ⊢
  refine ⟨h.1, ?_⟩
  simp only [hd]
  rw [hv]
  simp only [Split]
  have:=h.2
  cases want
  · exact ⟨fun h => (by cases h),fun _ => by rw [if_neg (by simp)];exact this⟩
  · exact ⟨fun _ => by rw [if_pos rfl];exact this,fun h => by cases h⟩
theorem awL_gno {ops:Array Oper} {K:Env → List O → Prop} {d:Option Tmp} {op:Op} {t:TypeId} {p:String} {a:Array Edge} {rest:List Oper} {j c:Nat} {want:Bool}
    (hd:(ops[j]?).bind (·.dst) = some c) (hv:e.get c = .bool (!want)) (hf:fitB e d = true) (h:awL P gl ops rest (e.put d (.tuple [])) st K):awL P gl ops (⟨d,op,t,p,a,some (j,want)⟩ :: rest) e st K:=awL_no rfl hd hv hf h
theorem awL_gcase {ops:Array Oper} {K:Env → List O → Prop} {d:Option Tmp} {op:Op} {t:TypeId} {p:String} {a:Array Edge} {rest:List Oper} {j c:Nat} {want b:Bool}
    (_:(ops[j]?).bind (·.dst) = some c) (_:e.get c = .bool b) (h1:b = true → awL P gl ops (⟨d,op,t,p,a,some (j,want)⟩ :: rest) e st K) (h2:b = false → awL P gl ops (⟨d,op,t,p,a,some (j,want)⟩ :: rest) e st K) :
    awL P gl ops (⟨d,op,t,p,a,some (j,want)⟩ :: rest) e st K:=by cases b <;> simp_all
def anyS (P:Program) (gl:Nat → V):List Oper → Env → List O → List Up → Option (Env × List Up × List Oper)
  | [],e,_,ups => some (e,ups,[])
  | o :: rest,e,st,ups => match o.guard with
    | some _ => some (e,ups,o :: rest)
    | none => match stopOp o.op with
      | true => some (e,ups,o :: rest)
      | false => match stepAE P nocall (e.ev gl) st o.op,o.dst with
        | some (v,none),d => anyS P gl rest (e.put d v) st ups
        | some (v,some (f,ob)),some d => anyS P gl rest (e.put (some d) v) st (ups ++ [(d,f,ob)])
        | _,_ => none
def anB (P:Program) (gl:Nat → V) (b:Bool) (o:Oper) (rest:List Oper) (e:Env) (st:List O) (ups:List Up):Option (Env × List Up × List Oper) :=
  match b with
  | true => some (e,ups,o :: rest)
  | false => match stepAE P nocall (e.ev gl) st o.op,o.dst with
    | some (v,none),d => anyS P gl rest (e.put d v) st ups
    | some (v,some (f,ob)),some d => anyS P gl rest (e.put (some d) v) st (ups ++ [(d,f,ob)])
    | _,_ => none
def anC (P:Program) (gl:Nat → V) (d:Option Tmp) (rest:List Oper) (e:Env) (st:List O) (ups:List Up):Option (V × Option ((Nat → V) × O)) → Option (Env × List Up × List Oper)
  | some (v,none) => anyS P gl rest (e.put d v) st ups
  | some (v,some (f,ob)) => match d with
    | some d => anyS P gl rest (e.put (some d) v) st (ups ++ [(d,f,ob)])
    | none => none
  | none => none
theorem anyS_nil (P:Program) (gl:Nat → V) (e:Env) (st:List O) (ups:List Up):anyS P gl [] e st ups = some (e,ups,[]):=rfl
theorem anyS_g (P:Program) (gl:Nat → V) (d:Option Tmp) (op:Op) (t:TypeId) (p:String) (a:Array Edge) (g:Nat × Bool) (rest:List Oper) (e:Env) (st:List O) (ups:List Up) :
    anyS P gl (⟨d,op,t,p,a,some g⟩ :: rest) e st ups = some (e,ups,⟨d,op,t,p,a,some g⟩ :: rest):=rfl
theorem anyS_op (P:Program) (gl:Nat → V) (d:Option Tmp) (op:Op) (t:TypeId) (p:String) (a:Array Edge) (rest:List Oper) (e:Env) (st:List O) (ups:List Up) :
    anyS P gl (⟨d,op,t,p,a,none⟩ :: rest) e st ups = anB P gl (stopOp op) ⟨d,op,t,p,a,none⟩ rest e st ups:=by
  simp only [anyS,anB]
theorem anB_t (P:Program) (gl:Nat → V) (o:Oper) (rest:List Oper) (e:Env) (st:List O) (ups:List Up):anB P gl true o rest e st ups = some (e,ups,o :: rest):=rfl
theorem anB_f (P:Program) (gl:Nat → V) (d:Option Tmp) (op:Op) (t:TypeId) (p:String) (a:Array Edge) (rest:List Oper) (e:Env) (st:List O) (ups:List Up) :
    anB P gl false ⟨d,op,t,p,a,none⟩ rest e st ups = anC P gl d rest e st ups (stepAE P nocall (e.ev gl) st op):=by
  simp only [anB]
  cases stepAE P nocall (e.ev gl) st op with
  | none => rfl
  | some u => obtain ⟨v,_ | ⟨f,ob⟩⟩:=u <;> cases d <;> rfl
theorem anC_s (P:Program) (gl:Nat → V) (d:Option Tmp) (rest:List Oper) (e:Env) (st:List O) (ups:List Up) (v:V):anC P gl d rest e st ups (some (v,none)) = anyS P gl rest (e.put d v) st ups:=rfl
theorem anC_n (P:Program) (gl:Nat → V) (d:Tmp) (rest:List Oper) (e:Env) (st:List O) (ups:List Up) (v:V) (f:Nat → V) (ob:O):anC P gl (some d) rest e st ups (some (v,some (f,ob))) = anyS P gl rest (e.put (some d) v) st (ups ++ [(d,f,ob)]):=rfl
theorem awA_S {ops:Array Oper} {K:Env → List O → Prop}:∀ {l:List Oper} {e:Env} {ups:List Up} {e':Env} {ups':List Up} {rest:List Oper},fitsL e.n l = true → anyS P gl l e st ups = some (e',ups',rest) → awA P gl ops rest e' st ups' K → awA P gl ops l e st ups K:=by
  intro l
  induction l with
  | nil =>
    intro e ups e' ups' rest _ h hk
    simp only [anyS,Option.some.injEq,Prod.mk.injEq] at h
    obtain ⟨rfl,rfl,rfl⟩:=h
    exact hk
  | cons o l ih =>
    intro e ups e' ups' rest hf h hk
    unfold anyS at h
    split at h
    · simp only [Option.some.injEq,Prod.mk.injEq] at h
      obtain ⟨rfl,rfl,rfl⟩:=h
      exact hk
    · rename_i hg
      split at h
      · simp only [Option.some.injEq,Prod.mk.injEq] at h
        obtain ⟨rfl,rfl,rfl⟩:=h
        exact hk
      · simp only [fitsL,Bool.and_eq_true] at hf
        have hfit:e.fits o.dst:=by
          cases hd:o.dst with
          | none => trivial
          | some d => have:=hf.1;rw [hd] at this;simpa [Env.fits] using this
        unfold awA
        refine ⟨hfit, ?_⟩
        rw [hg]
        split at h <;> try (cases h;done)
        · rename_i hs
          refine stepAE_sound nocall_ok hs ?_
          exact ih (by rw [put_n];exact hf.2) h hk
        · rename_i hs hd
          refine stepAE_sound nocall_ok hs ?_
          rw [hd]
          exact ih (by rw [put_n];exact hf.2) h hk
theorem awA_S1 {ops:Array Oper} {K:Env → List O → Prop} {d:Option Tmp} {op:Op} {t:TypeId} {p:String} {a:Array Edge} {l:List Oper} {ups:List Up} {e':Env} {ups':List Up} {rest:List Oper} (_:stopOp op = false) (hf:fitsL e.n (⟨d,op,t,p,a,none⟩ :: l) = true)
    (h:anyS P gl (⟨d,op,t,p,a,none⟩ :: l) e st ups = some (e',ups',rest)) (hk:awA P gl ops rest e' st ups' K):awA P gl ops (⟨d,op,t,p,a,none⟩ :: l) e st ups K:=awA_S hf h hk
theorem awA_nil {ops:Array Oper} {ups:List Up} {K:Env → List O → Prop} {e':Env} {st':List O} (ha:applyUps ups e st = (e',st')) (h:K e' st'):awA P gl ops [] e st ups K:=by
  unfold awA;rw [ha];exact h
theorem awA_call {ops:Array Oper} {K:Env → List O → Prop} {d:Option Tmp} {f:Operand} {args:Array Operand} {ats:Array TypeId} {t:TypeId} {p:String} {a:Array Edge} {rest:List Oper} {ups:List Up} {k:FuncId} {fs cs:List V} {vs:List V} {v0:V}
    (hf:e.ev gl f = .func (.func k) fs cs) (he:ent P k = true) (ha:fs ++ args.toList.map (e.ev gl) ++ cs = vs) (hc:Call P gl k vs st fun v st' => v = v0 ∧ st' = st) (hfit:fitB e d = true) (hk:awA P gl ops rest (e.put d v0) st ups K) :
    awA P gl ops (⟨d,.call ⟨.value f,args,ats⟩,t,p,a,none⟩ :: rest) e st ups K:=by
  unfold awA
  refine ⟨fits_of hfit, ?_⟩
  simp only [stepA,hf,ha]
  exact ⟨he,v0,hc,hk⟩
theorem awA_gyes {ops:Array Oper} {K:Env → List O → Prop} {d:Option Tmp} {op:Op} {t:TypeId} {p:String} {a:Array Edge} {rest:List Oper} {ups:List Up} {j c:Nat} {want:Bool}
    (hd:(ops[j]?).bind (·.dst) = some c) (hv:e.get c = .bool want) (h:awA P gl ops (⟨d,op,t,p,a,none⟩ :: rest) e st ups K):awA P gl ops (⟨d,op,t,p,a,some (j,want)⟩ :: rest) e st ups K:=by
  unfold awA at h ⊢
  refine ⟨h.1, ?_⟩
  simp only [hd,hv,if_true]
  exact h.2
theorem awA_gno {ops:Array Oper} {K:Env → List O → Prop} {d:Option Tmp} {op:Op} {t:TypeId} {p:String} {a:Array Edge} {rest:List Oper} {ups:List Up} {j c:Nat} {want:Bool}
    (hd:(ops[j]?).bind (·.dst) = some c) (hv:e.get c = .bool (!want)) (hf:fitB e d = true) (h:awA P gl ops rest (e.put d (.tuple [])) st ups K):awA P gl ops (⟨d,op,t,p,a,some (j,want)⟩ :: rest) e st ups K:=awA_no rfl hd hv hf h
theorem awA_gcase {ops:Array Oper} {K:Env → List O → Prop} {d:Option Tmp} {op:Op} {t:TypeId} {p:String} {a:Array Edge} {rest:List Oper} {ups:List Up} {j c:Nat} {want b:Bool}
    (_:(ops[j]?).bind (·.dst) = some c) (_:e.get c = .bool b) (h1:b = true → awA P gl ops (⟨d,op,t,p,a,some (j,want)⟩ :: rest) e st ups K) (h2:b = false → awA P gl ops (⟨d,op,t,p,a,some (j,want)⟩ :: rest) e st ups K) :
    awA P gl ops (⟨d,op,t,p,a,some (j,want)⟩ :: rest) e st ups K:=by cases b <;> simp_all
theorem useK {K R:Env → List O → Prop} (h:∀ e st,R e st → K e st) (hr:R e st):K e st:=h _ _ hr
theorem tq_e {K:Env → List O → Prop} {j:Nat} (h:Q (.exit j) e st):thenQ K Q (.exit j) e st:=h
theorem bq_s {id:Nat} (h:Q .normal e st):blockQ id Q (.exit id) e st:=by simp only [blockQ,if_true];exact h
theorem bq_o {id j:Nat} (hj:Nat.beq j id = false) (h:Q (.exit j) e st):blockQ id Q (.exit j) e st:=by
  simp only [blockQ];rw [if_neg (Nat.ne_of_beq_eq_false hj)];exact h
theorem AW.loopS {α:Type} {c:Code} (n:Nat) (m:α → List (Nat × V)) (o:α → List O) (μ:α → Nat) (a0:α) (hn:Nat.ble n e.n = true) (h0:e.has st (m a0)) (hs:StLe st (o a0))
    (round:∀ a,Clo (o a) → AW P gl r c (thenQ (fun e' st' => ∃ a',μ a' < μ a ∧ ∃ k,(o a).length ≤ k ∧ n ≤ e'.n ∧ (e'.trim k).has (trimS k st') (m a') ∧ StLe (trimS k st') (o a')) Q) ⟨n,m a⟩ (o a)):AW P gl r (.loop c) Q e st :=
  AW.loop n m o μ a0 (Nat.le_of_ble_eq_true hn) h0 hs fun a => AW.clo fun hc => round a hc
theorem le_self (st:List O) (a:V):V.le st a a = True:=by simp [V.le_refl]
theorem le_und (st:List O) (a:V):V.le st a .undef = True:=by simp [V.le_undef]
theorem le_nilt (st l:List O) (e:TypeId) (sz:Nat):V.le (st ++ .tok e sz 0 :: l) .nil (.sl [] (some st.length)) = True:=by
  simp only [eq_iff_iff,iff_true]
  exact V.le_nil_tok (e:=e) (sz:=sz) (by rw [st_get0];rfl)
theorem le_nilt1 (st l:List O) (e:TypeId) (sz:Nat) (a:O):V.le (st ++ a :: .tok e sz 0 :: l) .nil (.sl [] (some (st.length + 1))) = True:=by
  simp only [eq_iff_iff,iff_true]
  exact V.le_nil_tok (e:=e) (sz:=sz) (by rw [st_get];rfl)
theorem le_nilt2 (st l:List O) (e:TypeId) (sz:Nat) (a b:O):V.le (st ++ a :: b :: .tok e sz 0 :: l) .nil (.sl [] (some (st.length + 2))) = True:=by
  simp only [eq_iff_iff,iff_true]
  exact V.le_nil_tok (e:=e) (sz:=sz) (by rw [st_get];rfl)
theorem le_nils (st:List O):V.le st .nil (.sl [] none) = True:=by simp [V.le_nil]
theorem le_drop (st:List O) (es:List V) (t:Option Nat):V.le st (.sl es t) (.sl es none) = True:=by simp [V.le_sl]
theorem sle_self (st:List O):StLe st st = True:=by simp [StLe.refl]
theorem SV:(∀ v:V,resV [v] = v) ∧ (∀ a b:V,resV [a,b] = .tuple [a,b]) ∧ (∀ a b c:V,resV [a,b,c] = .tuple [a,b,c]) ∧ (∀ a b c d:V,resV [a,b,c,d] = .tuple [a,b,c,d]) ∧ (resV [] = .tuple []) ∧
    (∀ (a b:Nat),(a:Int) + (b:Int) = ((a + b:Nat):Int)) ∧ (∀ a:Nat,(a:Int) + 1 = ((a + 1:Nat):Int)) ∧ (∀ a:Nat,(a:Int) + 2 = ((a + 2:Nat):Int)) ∧ (((0:Nat):Int) = 0) ∧ (((1:Nat):Int) = 1):=⟨fun _ => rfl,fun _ _ => rfl,fun _ _ _ => rfl,fun _ _ _ _ => rfl,rfl,fun _ _ => rfl,fun _ => rfl,fun _ => rfl,rfl,rfl⟩
theorem ifp {α:Type} {c:Prop} [Decidable c] {a b:α} (h:c):(if c then a else b) = a:=if_pos h
theorem ifn {α:Type} {c:Prop} [Decidable c] {a b:α} (h:¬ c):(if c then a else b) = b:=if_neg h
theorem OT:(∀ (k:Nat) (e:TypeId) (sz n:Nat),O.trim k (.tok e sz n) = .tok e sz n) ∧ (∀ (k:Nat) (t:TypeId) (cs:List V),O.trim k (.box t cs) = .box t (cs.map (V.trim k))) ∧ (∀ (k:Nat) (e:TypeId) (sz v:Nat) (es:List V),O.trim k (.arr e sz v es) = .arr e sz v es) ∧ (∀ k:Nat,O.trim k .dead = .dead) ∧ (∀ n m:Nat,n + m - n = m) ∧ (∀ n:Nat,n - n = 0) :=
  ⟨fun _ _ _ _ => rfl,fun _ _ _ => rfl,fun _ _ _ _ _ => rfl,fun _ => rfl,fun _ _ => Nat.add_sub_cancel_left ..,fun _ => Nat.sub_self _⟩
theorem SI:(∀ (P:Program) (t:TypeId),ifcE P t .eql .niliface = if isIfc P t = true then some (.bool true) else none) ∧ (∀ (P:Program) (t:TypeId),ifcE P t .neq .niliface = if isIfc P t = true then some (.bool false) else none) ∧
    (∀ (P:Program) (t u:TypeId) (v:V),ifcE P t .eql (.iface u v) = if isIfc P t = true then some (.bool false) else none) ∧ (∀ (P:Program) (t u:TypeId) (v:V),ifcE P t .neq (.iface u v) = if isIfc P t = true then some (.bool true) else none):=by
  refine ⟨fun P t => ?_,fun P t => ?_,fun P t u v => ?_,fun P t u v => ?_⟩ <;> (unfold ifcE;cases isIfc P t <;> rfl)
theorem maxLen_eq:maxLen = 9223372036854775807:=rfl
theorem wrap_u8 (x:UInt8):IntKind.wrap .i64 (x.toNat:Int) = (x.toNat:Int):=by have:=UInt8.toNat_lt x;exact i64w _ (by omega) (by omega)
def an1:Option (V × List O) → Option (V × Option ((Nat → V) × O))
  | some (v,_) => some (v,none)
  | none => none
end
theorem SO:(∀ (x:Operand),stopOp (.move x) = false) ∧
    (∀ (x:Operand),stopOp (.assign x) = false) ∧
    (∀ (c a b:Operand),stopOp (.pick c a b) = false) ∧
    (∀ (t:TypeId),stopOp (.alloc t) = false) ∧
    (∀ (t:TypeId) (v:Operand),stopOp (.box t v) = false) ∧
    (∀ (t:TypeId) (ps:Array (Nat × Operand)),stopOp (.build t ps) = false) ∧
    (∀ (t:TypeId) (n:Nat) (ps:Array (Nat × Operand)),stopOp (.buildSlice t n ps) = false) ∧
    (∀ (t:TypeId) (x:Operand),stopOp (.load t x) = false) ∧
    (∀ (t:TypeId) (x y:Operand),stopOp (.store t x y) = false) ∧
    (∀ (x:Operand),stopOp (.nilCheck x) = false) ∧
    (∀ (op:BinOp) (t:TypeId) (x y:Operand) (u:TypeId),stopOp (.binOp op t x y u) = false) ∧
    (∀ (op:UnOp) (t:TypeId) (x:Operand),stopOp (.unOp op t x) = false) ∧
    (∀ (t u:TypeId) (x:Operand),stopOp (.convert t u x) = false) ∧
    (∀ (fn:Fn) (a b:Array Operand),stopOp (.makeFunc fn a b) = false) ∧
    (∀ (t:TypeId) (a b:Operand),stopOp (.makeSlice t a b) = false) ∧
    (∀ (t:TypeId) (x:Operand) (a b c:Option Operand),stopOp (.slice t x a b c) = false) ∧
    (∀ (t:TypeId) (x:Operand) (f:Nat),stopOp (.fieldAddr t x f) = false) ∧
    (∀ (t:TypeId) (x:Operand) (f:Nat),stopOp (.field t x f) = false) ∧
    (∀ (t:TypeId) (x i:Operand),stopOp (.indexAddr t x i) = false) ∧
    (∀ (t:TypeId) (x i:Operand),stopOp (.index t x i) = false) ∧
    (∀ (x:Operand) (i:Nat),stopOp (.extract x i) = false) ∧
    (∀ (x:Operand) (a:Array Operand) (b:Array TypeId),stopOp (.call ⟨.value x,a,b⟩) = true) ∧
    (∀ (x:Builtin) (a:Array Operand) (b:Array TypeId),stopOp (.call ⟨.builtin x,a,b⟩) = false) :=
  ⟨fun _ => rfl,fun _ => rfl,fun _ _ _ => rfl,fun _ => rfl,fun _ _ => rfl,fun _ _ => rfl,fun _ _ _ => rfl,fun _ _ => rfl,fun _ _ _ => rfl,fun _ => rfl,fun _ _ _ _ _ => rfl,fun _ _ _ => rfl,fun _ _ _ => rfl,fun _ _ _ => rfl,fun _ _ _ => rfl,fun _ _ _ _ _ => rfl,fun _ _ _ => rfl,fun _ _ _ => rfl,fun _ _ _ => rfl,fun _ _ _ => rfl,fun _ _ => rfl,fun _ _ _ => rfl,fun _ _ _ => rfl⟩
theorem SN:(isNilC (.const .nilIface) = true) ∧
    (∀ t:Tmp,isNilC (.tmp t) = false) ∧
    (∀ f:FuncId,isNilC (.func f) = false) ∧
    (∀ g:Nat,isNilC (.global g) = false) ∧
    (∀ (k:IntKind) (n:Int),isNilC (.const (.int k n)) = false) ∧
    (∀ b:Bool,isNilC (.const (.bool b)) = false) ∧
    (∀ s:ByteArray,isNilC (.const (.string s)) = false) ∧
    (∀ (i o:Nat),notNil (.ptr i o) = true) ∧
    (∀ cs:List V,notNil (.dptr cs) = true) :=
  ⟨rfl,fun _ => rfl,fun _ => rfl,fun _ => rfl,fun _ _ => rfl,fun _ => rfl,fun _ => rfl,fun _ _ => rfl,fun _ => rfl⟩
section
variable {P:Program}
theorem SA:(∀ (ρ:Operand → V) (st:List O) (x:Operand),stepAE P nocall ρ st (.move x) = an1 (stepE P nocall ρ st (.move x))) ∧
    (∀ (ρ:Operand → V) (st:List O) (x:Operand),stepAE P nocall ρ st (.assign x) = an1 (stepE P nocall ρ st (.assign x))) ∧
    (∀ (ρ:Operand → V) (st:List O) (c a b:Operand),stepAE P nocall ρ st (.pick c a b) = an1 (stepE P nocall ρ st (.pick c a b))) ∧
    (∀ (ρ:Operand → V) (st:List O) (t:TypeId) (ps:Array (Nat × Operand)),stepAE P nocall ρ st (.build t ps) = an1 (stepE P nocall ρ st (.build t ps))) ∧
    (∀ (ρ:Operand → V) (st:List O) (t:TypeId) (x:Operand),stepAE P nocall ρ st (.load t x) = an1 (stepE P nocall ρ st (.load t x))) ∧
    (∀ (ρ:Operand → V) (st:List O) (x:Operand),stepAE P nocall ρ st (.nilCheck x) = an1 (stepE P nocall ρ st (.nilCheck x))) ∧
    (∀ (ρ:Operand → V) (st:List O) (op:BinOp) (t:TypeId) (x y:Operand) (u:TypeId),stepAE P nocall ρ st (.binOp op t x y u) = an1 (stepE P nocall ρ st (.binOp op t x y u))) ∧
    (∀ (ρ:Operand → V) (st:List O) (op:UnOp) (t:TypeId) (x:Operand),stepAE P nocall ρ st (.unOp op t x) = an1 (stepE P nocall ρ st (.unOp op t x))) ∧
    (∀ (ρ:Operand → V) (st:List O) (t u:TypeId) (x:Operand),stepAE P nocall ρ st (.convert t u x) = an1 (stepE P nocall ρ st (.convert t u x))) ∧
    (∀ (ρ:Operand → V) (st:List O) (fn:Fn) (a b:Array Operand),stepAE P nocall ρ st (.makeFunc fn a b) = an1 (stepE P nocall ρ st (.makeFunc fn a b))) ∧
    (∀ (ρ:Operand → V) (st:List O) (t:TypeId) (x:Operand) (a b c:Option Operand),stepAE P nocall ρ st (.slice t x a b c) = an1 (stepE P nocall ρ st (.slice t x a b c))) ∧
    (∀ (ρ:Operand → V) (st:List O) (t:TypeId) (x:Operand) (f:Nat),stepAE P nocall ρ st (.fieldAddr t x f) = an1 (stepE P nocall ρ st (.fieldAddr t x f))) ∧
    (∀ (ρ:Operand → V) (st:List O) (t:TypeId) (x:Operand) (f:Nat),stepAE P nocall ρ st (.field t x f) = an1 (stepE P nocall ρ st (.field t x f))) ∧
    (∀ (ρ:Operand → V) (st:List O) (t:TypeId) (x i:Operand),stepAE P nocall ρ st (.indexAddr t x i) = an1 (stepE P nocall ρ st (.indexAddr t x i))) ∧
    (∀ (ρ:Operand → V) (st:List O) (t:TypeId) (x i:Operand),stepAE P nocall ρ st (.index t x i) = an1 (stepE P nocall ρ st (.index t x i))) ∧
    (∀ (ρ:Operand → V) (st:List O) (x:Operand) (i:Nat),stepAE P nocall ρ st (.extract x i) = an1 (stepE P nocall ρ st (.extract x i))) ∧
    (∀ (ρ:Operand → V) (st:List O) (a:Array Operand) (b:Array TypeId),stepAE P nocall ρ st (.call ⟨.builtin .len,a,b⟩) = an1 (stepE P nocall ρ st (.call ⟨.builtin .len,a,b⟩))) ∧
    (∀ (ρ:Operand → V) (st:List O) (a:Array Operand) (b:Array TypeId),stepAE P nocall ρ st (.call ⟨.builtin .max,a,b⟩) = an1 (stepE P nocall ρ st (.call ⟨.builtin .max,a,b⟩))) ∧
    (∀ (ρ:Operand → V) (st:List O) (a:Array Operand) (b:Array TypeId),stepAE P nocall ρ st (.call ⟨.builtin .min,a,b⟩) = an1 (stepE P nocall ρ st (.call ⟨.builtin .min,a,b⟩))) ∧
    (∀ (ρ:Operand → V) (st:List O) (t:TypeId),stepAE P nocall ρ st (.alloc t) = (match zro P t with | some z => some (.undef,some ((fun i => .ptr i 0),.box t z)) | none => none:Option (V × Option ((Nat → V) × O)))) ∧
    (∀ (ρ:Operand → V) (st:List O) (t:TypeId) (len:Nat) (parts:Array (Nat × Operand)),stepAE P nocall ρ st (.buildSlice t len parts) = (if len = 0 then (if parts.size = 0 ∧ (elt P t).isSome = true then some (.nil,none) else none) else match buildSliceE P t len (parts.toList.map fun p => (p.1,ρ p.2)) with | some (es,e,sz) => some (.sl es none,some ((fun i => .sl es (some i)),.tok e sz len)) | none => none:Option (V × Option ((Nat → V) × O)))):=
  ⟨fun _ _ _ => rfl,fun _ _ _ => rfl,fun _ _ _ _ _ => rfl,fun _ _ _ _ => rfl,fun _ _ _ _ => rfl,fun _ _ _ => rfl,fun _ _ _ _ _ _ _ => rfl,fun _ _ _ _ _ => rfl,fun _ _ _ _ _ => rfl,fun _ _ _ _ _ => rfl,fun _ _ _ _ _ _ _ => rfl,fun _ _ _ _ _ => rfl,fun _ _ _ _ _ => rfl,fun _ _ _ _ _ => rfl,fun _ _ _ _ _ => rfl,fun _ _ _ _ => rfl,fun _ _ _ _ => rfl,fun _ _ _ _ => rfl,fun _ _ _ _ => rfl,fun _ _ _ => rfl,fun _ _ _ _ _ => rfl⟩
end
theorem an1_s (v:V) (st:List O):an1 (some (v,st)) = some (v,none):=rfl
theorem SR:(∀ (P:Program) (gl:Nat → V) (e:Env) (st:List O),regS P gl [] e st = some (e,st,[])) ∧
    (∀ (P:Program) (gl:Nat → V) (d:Option Tmp) (op:Op) (t:TypeId) (p:String) (a:Array Edge) (g:Nat × Bool) (rest:List Oper) (e:Env) (st:List O),regS P gl (⟨d,op,t,p,a,some g⟩ :: rest) e st = some (e,st,⟨d,op,t,p,a,some g⟩ :: rest)) ∧
    (∀ (P:Program) (gl:Nat → V) (d:Option Tmp) (op:Op) (t:TypeId) (p:String) (a:Array Edge) (rest:List Oper) (e:Env) (st:List O),regS P gl (⟨d,op,t,p,a,none⟩ :: rest) e st = regB P gl (stopOp op) ⟨d,op,t,p,a,none⟩ rest e st) ∧
    (∀ (P:Program) (gl:Nat → V) (o:Oper) (rest:List Oper) (e:Env) (st:List O),regB P gl true o rest e st = some (e,st,o :: rest)) ∧
    (∀ (P:Program) (gl:Nat → V) (d:Option Tmp) (op:Op) (t:TypeId) (p:String) (a:Array Edge) (rest:List Oper) (e:Env) (st:List O),regB P gl false ⟨d,op,t,p,a,none⟩ rest e st = regC P gl d rest e (stepE P nocall (e.ev gl) st op)) ∧
    (∀ (P:Program) (gl:Nat → V) (d:Option Tmp) (rest:List Oper) (e:Env) (v:V) (st':List O),regC P gl d rest e (some (v,st')) = regS P gl rest (e.put d v) st') ∧
    (∀ (P:Program) (gl:Nat → V) (e:Env) (st:List O) (ups:List Up),anyS P gl [] e st ups = some (e,ups,[])) ∧
    (∀ (P:Program) (gl:Nat → V) (d:Option Tmp) (op:Op) (t:TypeId) (p:String) (a:Array Edge) (g:Nat × Bool) (rest:List Oper) (e:Env) (st:List O) (ups:List Up),anyS P gl (⟨d,op,t,p,a,some g⟩ :: rest) e st ups = some (e,ups,⟨d,op,t,p,a,some g⟩ :: rest)) ∧
    (∀ (P:Program) (gl:Nat → V) (d:Option Tmp) (op:Op) (t:TypeId) (p:String) (a:Array Edge) (rest:List Oper) (e:Env) (st:List O) (ups:List Up),anyS P gl (⟨d,op,t,p,a,none⟩ :: rest) e st ups = anB P gl (stopOp op) ⟨d,op,t,p,a,none⟩ rest e st ups) ∧
    (∀ (P:Program) (gl:Nat → V) (o:Oper) (rest:List Oper) (e:Env) (st:List O) (ups:List Up),anB P gl true o rest e st ups = some (e,ups,o :: rest)) ∧
    (∀ (P:Program) (gl:Nat → V) (d:Option Tmp) (op:Op) (t:TypeId) (p:String) (a:Array Edge) (rest:List Oper) (e:Env) (st:List O) (ups:List Up),anB P gl false ⟨d,op,t,p,a,none⟩ rest e st ups = anC P gl d rest e st ups (stepAE P nocall (e.ev gl) st op)) ∧
    (∀ (P:Program) (gl:Nat → V) (d:Option Tmp) (rest:List Oper) (e:Env) (st:List O) (ups:List Up) (v:V),anC P gl d rest e st ups (some (v,none)) = anyS P gl rest (e.put d v) st ups) ∧
    (∀ (P:Program) (gl:Nat → V) (d:Tmp) (rest:List Oper) (e:Env) (st:List O) (ups:List Up) (v:V) (f:Nat → V) (ob:O),anC P gl (some d) rest e st ups (some (v,some (f,ob))) = anyS P gl rest (e.put (some d) v) st (ups ++ [(d,f,ob)])) :=
  ⟨regS_nil,regS_g,regS_op,regB_t,regB_f,regC_s,anyS_nil,anyS_g,anyS_op,anB_t,anB_f,anC_s,anC_n⟩
theorem SM:(∀ (t:TypeId) (r:Option Operand),stopOp (.makeMap t r) = false) ∧ (∀ (t:TypeId) (x k:Operand) (b:Bool),stopOp (.lookup t x k b) = false) ∧ (∀ (t:TypeId) (m k x:Operand),stopOp (.mapUpdate t m k x) = false) ∧ (∀ (t:TypeId) (m k x:Operand),stopOp (.insert t m k x) = false) ∧
    (∀ (P:Program) (ρ:Operand → V) (st:List O) (t:TypeId) (x k:Operand) (b:Bool),stepAE P nocall ρ st (.lookup t x k b) = an1 (stepE P nocall ρ st (.lookup t x k b))) ∧
    (∀ (d:TypeDesc) (ks:List V) (k:V),keyP d ks k = (keyD d k && ks.all (keyD d))) ∧ (∀ s:List UInt8,keyD .string (.str s) = true) ∧ (∀ b:Bool,keyD .bool (.bool b) = true) ∧ (∀ (k:IntKind) (n:Int),keyD (.int k) (.int k n) = true) ∧
    (∀ (k:Nat) (ks vs:List V),O.trim k (.map ks vs) = .map ks (vs.map (V.trim k))) ∧ (∀ (st:List O) (ks vs:List V),mapV st (.pmap ks vs) = some (ks,vs)) :=
  ⟨fun _ _ => rfl,fun _ _ _ _ => rfl,fun _ _ _ _ => rfl,fun _ _ _ _ => rfl,fun _ _ _ _ _ _ _ => rfl,fun _ _ _ => rfl,fun _ => rfl,fun _ => rfl,fun k _ => by simp [keyD],fun _ _ _ => rfl,fun _ _ _ => rfl⟩
theorem keysS {α:Type} (l:List α) (f:α → List UInt8):(l.map fun x => V.str (f x)).all (keyD .string) = true:=by simp [keyD]
theorem keysI {α:Type} (l:List α) (k:IntKind) (f:α → Int):(l.map fun x => V.int k (f x)).all (keyD (.int k)) = true:=by simp [keyD]
attribute [go_sem] SM keysS keysI lookE setE delE mapV ownM List.all_nil List.all_cons Bool.true_and Bool.and_true SV resP loadP le_self le_und le_nilt le_nilt1 le_nilt2 le_nils le_drop sle_self Env.has Env.trim_get V.trim V.trim.trimL OT List.map_append SR SO SN SA an1_s maxLen_eq ne_eq decide_true decide_false Bool.not_true Bool.not_false wrap_u8 stepE keep binE intE strE eqE unE uB uS loadE storeE faE fieldE iaE ixE sliceE bndOf lenE appE rowOf buildE fillV splice buildSliceE partsB makeE litB SI pack cmpL cmpV S0 S1 S2 S3 V.one V.bare V.bare.bareL pureB Option.map Option.isSome List.getD_cons_zero List.getD_cons_succ List.toList_toArray Bool.false_eq_true and_true true_and if_true if_false Int.toNat_natCast Int.toNat_zero Int.ofNat_lt List.range_succ List.range_zero beq_self_eq_true i64w getD_lt tmod_nn tdiv_nn toNat_sub1 ifp ifn
end Go.Duo

namespace Go.Duo
open Go
theorem encT_pureB (t:Ty):(encT t).cells.all pureB = true:=by
  obtain ⟨k,p,n,s,l,ks⟩:=t
  rw [encT_mk,c_agg];rfl
theorem encP_pureB (p:Pr):(encP p).cells.all pureB = true:=by
  obtain ⟨k,c,v,l,a,t,ks⟩:=p
  rw [encP_mk,c_agg]
  simp [pureB,encT_pureB]
theorem encT_bareL (t:Ty):V.bare.bareL (encT t).cells = (encT t).cells:=by
  obtain ⟨k,p,n,s,l,ks⟩:=t
  rw [encT_mk,c_agg];rfl
theorem encP_at (l:List Pr) (i:Nat) (h:i < (l.map encP).length):(l.map encP)[i] = encP (l[i]'(by simpa using h)):=List.getElem_map ..
theorem encT_at (l:List Ty) (i:Nat) (h:i < (l.map encT).length):(l.map encT)[i] = encT (l[i]'(by simpa using h)):=List.getElem_map ..
attribute [go_sem] PB encT_pureB encP_pureB encT_bare encP_bare encT_bareL encP_at encT_at
end Go.Duo
