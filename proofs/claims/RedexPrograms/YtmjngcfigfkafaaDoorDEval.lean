/-
  A part of the proof.
-/
import Derived.Test.YtmjngcfigfkafaaDoorDReal
set_option linter.all false
namespace Go.Duo
open Go
section
variable {P : Program} {gl : Nat → V} {st : List O} {x y v : V}
def loadE (P : Program) (t : TypeId) (st : List O) (x : V) : Option V :=
  match lay P t with
  | none => none
  | some (n, g) => match x with
    | .ptr id off => match st[id]? with
      | some (.box _ cs) => if off + n ≤ cs.length then some (pack g n (cs.drop off)) else none
      | _ => none
    | .dptr cs => if n ≤ cs.length then some (pack g n cs) else none
    | .rptr id ver off => match st[id]? with
      | some (.arr _ _ v es) => if ver = v ∧ off + n ≤ (flat es).length then some (pack g n ((flat es).drop off)) else none
      | _ => none
    | _ => none
theorem loadE_sound {K : V → Prop} {t : TypeId} (h : loadE P t st x = some v) (hk : K v) : loadP P t st x K := by
  unfold loadE at h; unfold loadP
  cases hl : lay P t with
  | none => simp [hl] at h
  | some ng =>
    obtain ⟨n, g⟩ := ng
    rw [hl] at h
    cases x <;> simp only at h ⊢ <;> try (cases h; done)
    · split at h <;> try (cases h; done)
      rename_i ho
      rw [ho]
      split at h <;> try (cases h; done)
      simp only [Option.some.injEq] at h; subst h; exact ⟨by assumption, hk⟩
    · split at h <;> try (cases h; done)
      simp only [Option.some.injEq] at h; subst h; exact ⟨by assumption, hk⟩
    · split at h <;> try (cases h; done)
      rename_i ho
      rw [ho]
      split at h <;> try (cases h; done)
      rename_i hc
      simp only [Option.some.injEq] at h; subst h; exact ⟨hc.1, hc.2, hk⟩
/-- It has no places in it that somebody writes. -/
def pureB : V → Bool
  | .int _ _ | .bool _ | .str _ | .sl _ _ | .nil | .nilptr | .nilfunc | .niliface | .dptr _ | .pmap _ _ => true
  | _ => false
theorem pureB_pure {v : V} (h : pureB v = true) : PureV v := by
  cases v <;> try (cases h; done)
  · exact PureV.int _ _
  · exact PureV.bool _
  · exact PureV.str _
  · exact PureV.sl _ _
  · exact PureV.nil
  · exact PureV.dptr _
  · exact PureV.nilptr
  · exact PureV.pmap _ _
  · exact PureV.nilfunc
  · exact PureV.niliface
def storeE (P : Program) (t : TypeId) (st : List O) (x y : V) : Option (List O) :=
  match lay P t with
  | none => none
  | some (n, _) => match x with
    | .ptr id off => match st[id]? with
      | some (.box t' cs) => if y.cells.length = n ∧ y.cells.all V.one = true ∧ off + n ≤ cs.length then some (st.set id (.box t' (splice cs off y.cells))) else none
      | _ => none
    | .rptr id ver off => match st[id]? with
      | some (.arr e sz v es) => if ver = v ∧ n = sz ∧ off % sz = 0 ∧ off / sz < es.length ∧ y.cells.length = n ∧ y.cells.all V.one = true ∧ y.cells.all pureB = true then some (st.set id (.arr e sz v (es.set (off / sz) y.bare))) else none
      | _ => none
    | _ => none
theorem storeE_sound {K : List O → Prop} {t : TypeId} {st' : List O} (h : storeE P t st x y = some st') (hk : K st') : storeP P t st x y K := by
  unfold storeE at h; unfold storeP
  cases hl : lay P t with
  | none => simp [hl] at h
  | some ng =>
    obtain ⟨n, g⟩ := ng
    rw [hl] at h
    cases x <;> simp only at h ⊢ <;> try (cases h; done)
    · split at h <;> try (cases h; done)
      rename_i ho
      rw [ho]
      split at h <;> try (cases h; done)
      rename_i hc
      simp only [Option.some.injEq] at h; subst h; exact ⟨hc.1, hc.2.1, hc.2.2, hk⟩
    · split at h <;> try (cases h; done)
      rename_i ho
      rw [ho]
      split at h <;> try (cases h; done)
      rename_i hc
      simp only [Option.some.injEq] at h; subst h; exact ⟨hc.1, hc.2.1, hc.2.2.1, hc.2.2.2.1, hc.2.2.2.2.1, hc.2.2.2.2.2.1, fun c hcc => pureB_pure (List.all_eq_true.1 hc.2.2.2.2.2.2 c hcc), hk⟩
def intE (op : BinOp) (k : IntKind) (a : Int) (k' : IntKind) (b : Int) : Option V :=
  match op with
  | .add => if k = k' then some (.int k (k.wrap (a + b))) else none
  | .sub => if k = k' then some (.int k (k.wrap (a - b))) else none
  | .mul => if k = k' then some (.int k (k.wrap (a * b))) else none
  | .quo => if k = k' ∧ b ≠ 0 then some (.int k (k.wrap (a.tdiv b))) else none
  | .rem => if k = k' ∧ b ≠ 0 then some (.int k (a.tmod b)) else none
  | .eql => if k = k' then some (.bool (decide (a = b))) else none
  | .neq => if k = k' then some (.bool (decide (a ≠ b))) else none
  | .lss => if k = k' then some (.bool (decide (a < b))) else none
  | .leq => if k = k' then some (.bool (decide (a ≤ b))) else none
  | .gtr => if k = k' then some (.bool (decide (b < a))) else none
  | .geq => if k = k' then some (.bool (decide (b ≤ a))) else none
  | .shl => if 0 ≤ b then some (.int k (k.wrap (a * 2 ^ (min b.toNat k.bits)))) else none
  | .shr => if 0 ≤ b then some (.int k (a.fdiv (2 ^ (min b.toNat k.bits)))) else none
  | .and => if k = k' then some (.int k (k.wrap ((BitVec.ofInt k.bits a &&& BitVec.ofInt k.bits b).toNat))) else none
  | .or => if k = k' then some (.int k (k.wrap ((BitVec.ofInt k.bits a ||| BitVec.ofInt k.bits b).toNat))) else none
  | _ => none
theorem intE_sound {K : V → Prop} {op : BinOp} {k k' : IntKind} {a b : Int} (h : intE op k a k' b = some v) (hk : K v) : intP op k a k' b K := by
  unfold intE at h; unfold intP
  cases op <;> simp only at h ⊢ <;> try (cases h; done)
  all_goals
    split at h <;> try (cases h; done)
    rename_i hc
    simp only [Option.some.injEq] at h; subst h
    first | exact ⟨hc, hk⟩ | exact ⟨hc.1, hc.2, hk⟩
def strE (op : BinOp) (a b : List UInt8) : Option V :=
  match op with
  | .add => if a.length + b.length ≤ 9223372036854775807 then some (.str (a ++ b)) else none
  | .eql => some (.bool (decide (a = b)))
  | .neq => some (.bool (decide (a ≠ b)))
  | .lss => some (.bool (Op.bytesLess a b))
  | _ => none
theorem strE_sound {K : V → Prop} {op : BinOp} {a b : List UInt8} (h : strE op a b = some v) (hk : K v) : strP op a b K := by
  unfold strE at h; unfold strP
  cases op <;> simp only [Option.some.injEq] at h ⊢ <;> try (cases h; done)
  · split at h <;> try (cases h; done)
    rename_i hc
    simp only [Option.some.injEq] at h; subst h; exact ⟨hc, hk⟩
  all_goals (subst h; exact hk)
def eqE (P : Program) (xt : TypeId) (op : BinOp) (a b : List V) : Option V :=
  match sEq P xt with
  | some ks => match cmpL ks a b with
    | some r => match op with
      | .eql => some (.bool r)
      | .neq => some (.bool (!r))
      | _ => none
    | none => none
  | none => none
theorem eqE_sound {K : V → Prop} {t : TypeId} {op : BinOp} {a b : List V} (h : eqE P t op a b = some v) (hk : K v) : eqP P t op a b K := by
  unfold eqE at h; unfold eqP
  cases hs : sEq P t with
  | none => simp [hs] at h
  | some ks =>
    rw [hs] at h
    simp only at h ⊢
    cases hc : cmpL ks a b with
    | none => simp [hc] at h
    | some r =>
      rw [hc] at h
      cases op <;> simp only [Option.some.injEq] at h ⊢ <;> first | (cases h; done) | (subst h; exact hk)
def uB (P : Program) (t : TypeId) : Bool := match P.underlying t with | some .bool => true | _ => false
def uS (P : Program) (t : TypeId) : Bool := match P.underlying t with | some .string => true | _ => false
theorem uB_eq {t : TypeId} (h : uB P t = true) : P.underlying t = some .bool := by
  unfold uB at h; split at h <;> first | assumption | cases h
theorem uS_eq {t : TypeId} (h : uS P t = true) : P.underlying t = some .string := by
  unfold uS at h; split at h <;> first | assumption | cases h
def binE (P : Program) (xt : TypeId) (op : BinOp) (x y : V) : Option V :=
  match x, y with
  | .int k a, .int k' b => intE op k a k' b
  | .bool a, .bool b => match op with
    | .eql => if uB P xt = true then some (.bool (decide (a = b))) else none
    | .neq => if uB P xt = true then some (.bool (decide (a ≠ b))) else none
    | _ => none
  | .str a, .str b => strE op a b
  | .agg a, .agg b => eqE P xt op a b
  | _, _ => none
theorem binE_sound {K : V → Prop} {t : TypeId} {op : BinOp} (h : binE P t op x y = some v) (hk : K v) : binP P t op x y K := by
  unfold binE at h; unfold binP
  cases x <;> cases y <;> simp only at h ⊢ <;> try (cases h; done)
  · exact intE_sound h hk
  · cases op <;> simp only at h ⊢ <;> try (cases h; done)
    all_goals
      split at h <;> try (cases h; done)
      simp only [Option.some.injEq] at h; subst h
      exact ⟨uB_eq (by assumption), hk⟩
  · exact strE_sound h hk
  · exact eqE_sound h hk
def unE (op : UnOp) (x : V) : Option V :=
  match op, x with
  | .not, .bool b => some (.bool (!b))
  | .neg, .int k n => some (.int k (k.wrap (0 - n)))
  | _, _ => none
theorem unE_sound {K : V → Prop} {op : UnOp} (h : unE op x = some v) (hk : K v) : unP op x K := by
  unfold unE at h; unfold unP
  split at h <;> first | (cases h; done) | (simp only [Option.some.injEq] at h; subst h; exact hk)
def faE (P : Program) (t : TypeId) (st : List O) (f : Nat) (x : V) : Option V :=
  match fld P t f with
  | none => none
  | some (off, n, _) => if 0 < n then match x with
    | .ptr id o => some (.ptr id (o + off))
    | .dptr cs => some (.dptr (cs.drop off))
    | .rptr id ver o => match st[id]? with
      | some (.arr _ _ v _) => if ver = v then some (.rptr id ver (o + off)) else none
      | _ => none
    | _ => none
    else none
theorem faE_sound {K : V → Prop} {t : TypeId} {f : Nat} (h : faE P t st f x = some v) (hk : K v) : faP P t st f x K := by
  unfold faE at h; unfold faP
  cases hf : fld P t f with
  | none => simp [hf] at h
  | some a =>
    obtain ⟨off, n, g⟩ := a
    rw [hf] at h
    simp only at h ⊢
    split at h <;> try (cases h; done)
    refine ⟨by assumption, ?_⟩
    cases x <;> simp only [Option.some.injEq] at h ⊢ <;> try (cases h; done)
    · subst h; exact hk
    · subst h; exact hk
    · split at h <;> try (cases h; done)
      rename_i ho
      rw [ho]
      split at h <;> try (cases h; done)
      simp only [Option.some.injEq] at h; subst h; exact ⟨by assumption, hk⟩
def fieldE (P : Program) (t : TypeId) (f : Nat) (x : V) : Option V :=
  match fld P t f with
  | none => none
  | some (off, n, g) => match x with
    | .agg cs => if off + n ≤ cs.length then some (pack g n (cs.drop off)) else none
    | _ => none
theorem fieldE_sound {K : V → Prop} {t : TypeId} {f : Nat} (h : fieldE P t f x = some v) (hk : K v) : fieldP P t f x K := by
  unfold fieldE at h; unfold fieldP
  cases hf : fld P t f with
  | none => simp [hf] at h
  | some a =>
    obtain ⟨off, n, g⟩ := a
    rw [hf] at h
    cases x <;> simp only at h ⊢ <;> try (cases h; done)
    split at h <;> try (cases h; done)
    simp only [Option.some.injEq] at h; subst h; exact ⟨by assumption, hk⟩
def iaE (P : Program) (t : TypeId) (st : List O) (x i : V) : Option V :=
  match i with
  | .int _ n => match elt P t with
    | some (_, sz, _) => match x with
      | .sl es _ => if 0 ≤ n ∧ n < es.length ∧ (es.getD n.toNat .undef).cells.length = sz then some (.dptr (es.getD n.toNat .undef).cells) else none
      | .ref id ver => match st[id]? with
        | some (.arr _ sz' v es) => if ver = v ∧ sz' = sz ∧ 0 ≤ n ∧ n < es.length then some (.rptr id ver (n.toNat * sz)) else none
        | _ => none
      | _ => none
    | none => match arr P t with
      | some (len, sz, _) => if 0 ≤ n ∧ n < len then match x with
        | .ptr id o => some (.ptr id (o + n.toNat * sz))
        | .dptr cs => some (.dptr (cs.drop (n.toNat * sz)))
        | _ => none
        else none
      | none => none
  | _ => none
theorem iaE_sound {K : V → Prop} {t : TypeId} (h : iaE P t st x y = some v) (hk : K v) : iaP P t st x y K := by
  unfold iaE at h; unfold iaP
  cases y <;> simp only at h ⊢ <;> try (cases h; done)
  cases he : elt P t with
  | some a =>
    obtain ⟨e, sz, b⟩ := a
    rw [he] at h
    cases x <;> simp only at h ⊢ <;> try (cases h; done)
    · split at h <;> try (cases h; done)
      rename_i hc
      simp only [Option.some.injEq] at h; subst h; exact ⟨hc.1, hc.2.1, hc.2.2, hk⟩
    · split at h <;> try (cases h; done)
      rename_i ho
      rw [ho]
      split at h <;> try (cases h; done)
      rename_i hc
      simp only [Option.some.injEq] at h; subst h; exact ⟨hc.1, hc.2.1, hc.2.2.1, hc.2.2.2, hk⟩
  | none =>
    rw [he] at h
    simp only at h ⊢
    cases ha : arr P t with
    | none => simp [ha] at h
    | some a =>
      obtain ⟨len, sz, g⟩ := a
      rw [ha] at h
      simp only at h ⊢
      split at h <;> try (cases h; done)
      rename_i hc
      refine ⟨hc.1, hc.2, ?_⟩
      cases x <;> simp only [Option.some.injEq] at h ⊢ <;> first | (cases h; done) | (subst h; exact hk)
def ixE (P : Program) (t : TypeId) (x i : V) : Option V :=
  match i with
  | .int _ n => match x with
    | .str s => if uS P t = true ∧ 0 ≤ n ∧ n < s.length then some (.int .u8 (s.getD n.toNat 0).toNat) else none
    | .agg cs => match arr P t with
      | some (len, sz, g) => if 0 ≤ n ∧ n < len ∧ n.toNat * sz + sz ≤ cs.length then some (pack g sz (cs.drop (n.toNat * sz))) else none
      | none => none
    | _ => none
  | _ => none
theorem ixE_sound {K : V → Prop} {t : TypeId} (h : ixE P t x y = some v) (hk : K v) : ixP P t x y K := by
  unfold ixE at h; unfold ixP
  cases y <;> simp only at h ⊢ <;> try (cases h; done)
  cases x <;> simp only at h ⊢ <;> try (cases h; done)
  · split at h <;> try (cases h; done)
    rename_i hc
    simp only [Option.some.injEq] at h; subst h; exact ⟨uS_eq hc.1, hc.2.1, hc.2.2, hk⟩
  · cases ha : arr P t with
    | none => simp [ha] at h
    | some a =>
      obtain ⟨len, sz, g⟩ := a
      rw [ha] at h
      simp only at h ⊢
      split at h <;> try (cases h; done)
      rename_i hc
      simp only [Option.some.injEq] at h; subst h; exact ⟨hc.1, hc.2.1, hc.2.2, hk⟩
def sliceE (P : Program) (t : TypeId) (x : V) (lo hi mx : Option V) : Option V :=
  match x with
  | .str s => if uS P t = true then match mx, bndOf 0 lo, bndOf s.length hi with
    | none, some l, some h => if 0 ≤ l ∧ l ≤ h ∧ h ≤ s.length then some (.str ((s.take h.toNat).drop l.toNat)) else none
    | _, _, _ => none
    else none
  | .sl es _ => match elt P t with
    | none => none
    | some (_, sz, _) => match mx, bndOf 0 lo, bndOf es.length hi with
      | none, some l, some h => if (es.all fun e => e.cells.length == sz) = true ∧ 0 ≤ l ∧ l ≤ h ∧ h ≤ es.length then some (.sl ((es.take h.toNat).drop l.toNat) none) else none
      | some (.int _ m), some l, some h => if hi.isSome = true ∧ m = 0 ∧ l = 0 ∧ h = 0 then some .nil else none
      | _, _, _ => none
  | .nil => match elt P t with
    | none => none
    | some _ => match mx, bndOf 0 lo, bndOf 0 hi with
      | none, some l, some h => if l = 0 ∧ h = 0 then some .nil else none
      | some (.int _ m), some l, some h => if hi.isSome = true ∧ m = 0 ∧ l = 0 ∧ h = 0 then some .nil else none
      | _, _, _ => none
  | .dptr cs => match arr P t, lo, hi, mx with
    | some (len, 1, false), none, none, none => if len ≤ cs.length ∧ len ≤ maxLen ∧ (cs.take len).all V.one = true then some (.sl (cs.take len) none) else none
    | _, _, _, _ => none
  | _ => none
theorem sliceE_sound {K : V → Prop} {t : TypeId} {lo hi mx : Option V} (h : sliceE P t x lo hi mx = some v) (hk : K v) : sliceP P t x lo hi mx K := by
  unfold sliceE at h; unfold sliceP
  cases x <;> simp only at h ⊢ <;> try (cases h; done)
  · split at h <;> try (cases h; done)
    rename_i hu
    refine ⟨uS_eq hu, ?_⟩
    split at h <;> try (cases h; done)
    rename_i h1 h2
    split at h <;> try (cases h; done)
    rename_i hc
    simp only [Option.some.injEq] at h; subst h
    simp only [h1, h2]
    exact ⟨hc.1, hc.2.1, hc.2.2, hk⟩
  · cases he : elt P t with
    | none => simp [he] at h
    | some a =>
      obtain ⟨e, sz, b⟩ := a
      rw [he] at h
      simp only at h ⊢
      split at h <;> try (cases h; done)
      · rename_i h1 h2
        split at h <;> try (cases h; done)
        rename_i hc
        simp only [Option.some.injEq] at h; subst h
        simp only [h1, h2]
        exact ⟨fun e he => by simpa using List.all_eq_true.1 hc.1 e he, hc.2.1, hc.2.2.1, hc.2.2.2, hk⟩
      · rename_i h1 h2
        split at h <;> try (cases h; done)
        rename_i hc
        simp only [Option.some.injEq] at h; subst h
        simp only [h1, h2]
        exact ⟨hc.1, hc.2.1, hc.2.2.1, hc.2.2.2, hk⟩
  · cases he : elt P t with
    | none => simp [he] at h
    | some a =>
      rw [he] at h
      simp only at h ⊢
      split at h <;> try (cases h; done)
      · rename_i h1 h2
        split at h <;> try (cases h; done)
        rename_i hc
        simp only [Option.some.injEq] at h; subst h
        simp only [h1, h2]
        exact ⟨hc.1, hc.2, hk⟩
      · rename_i h1 h2
        split at h <;> try (cases h; done)
        rename_i hc
        simp only [Option.some.injEq] at h; subst h
        simp only [h1, h2]
        exact ⟨hc.1, hc.2.1, hc.2.2.1, hc.2.2.2, hk⟩
  · split at h <;> try (cases h; done)
    rename_i ha
    simp only [ha]
    split at h <;> try (cases h; done)
    rename_i hc
    simp only [Option.some.injEq] at h; subst h
    exact ⟨hc.1, hc.2.1, hc.2.2, hk⟩
def buildE (P : Program) (t : TypeId) (parts : List (Nat × V)) : Option V :=
  match plc P t, zro P t with
  | some pl, some z => match fillV pl z parts with
    | some cs => some (.agg cs)
    | none => none
  | _, _ => none
theorem buildE_sound {K : V → Prop} {t : TypeId} {ps : List (Nat × V)} (h : buildE P t ps = some v) (hk : K v) : buildP P t ps K := by
  unfold buildE at h; unfold buildP
  split at h <;> try (cases h; done)
  rename_i h1 h2
  simp only [h1, h2]
  split at h <;> try (cases h; done)
  rename_i h3
  simp only [h3]
  simp only [Option.some.injEq] at h; subst h; exact hk
def lenE (st : List O) (P : Program) (t : TypeId) (x : V) : Option V :=
  match x with
  | .str l => if uS P t = true then some (.int .i64 l.length) else none
  | .sl es _ => if (elt P t).isSome = true then some (.int .i64 es.length) else none
  | .nil => if (elt P t).isSome = true then some (.int .i64 0) else none
  | .ref id ver => if (elt P t).isSome = true then match st[id]? with
    | some (.arr _ _ v es) => if ver = v then some (.int .i64 es.length) else none
    | _ => none
    else none
  | _ => none
theorem lenE_sound {K : V → Prop} {t : TypeId} (h : lenE st P t x = some v) (hk : K v) : lenP st P t x K := by
  unfold lenE at h; unfold lenP
  cases x <;> simp only at h ⊢ <;> try (cases h; done)
  all_goals
    split at h <;> try (cases h; done)
    rename_i hc
  · simp only [Option.some.injEq] at h; subst h; exact ⟨uS_eq hc, hk⟩
  · simp only [Option.some.injEq] at h; subst h; exact ⟨hc, hk⟩
  · simp only [Option.some.injEq] at h; subst h; exact ⟨hc, hk⟩
  · refine ⟨hc, ?_⟩
    split at h <;> try (cases h; done)
    rename_i ho
    rw [ho]
    split at h <;> try (cases h; done)
    simp only [Option.some.injEq] at h; subst h; exact ⟨by assumption, hk⟩
def partsB (sz : Nat) (parts : List (Nat × V)) : Bool := parts.all fun p => p.2.cells.length == sz && p.2.cells.all V.one && p.2.cells.all pureB
theorem partsB_spec {sz : Nat} {parts : List (Nat × V)} (h : partsB sz parts = true) : ∀ p ∈ parts, p.2.cells.length = sz ∧ p.2.cells.all V.one = true ∧ ∀ c ∈ p.2.cells, PureV c := fun p hp => by
  have h := List.all_eq_true.1 h p hp
  simp only [Bool.and_eq_true, beq_iff_eq] at h
  exact ⟨h.1.1, h.1.2, fun c hc => pureB_pure (List.all_eq_true.1 h.2 c hc)⟩
def buildSliceE (P : Program) (t : TypeId) (len : Nat) (parts : List (Nat × V)) : Option (List V × TypeId × Nat) :=
  match elt P t with
  | none => none
  | some (e, sz, _) => if parts.map (·.1) = List.range len ∧ len * sz ≤ 16777216 ∧ partsB sz parts = true then some (parts.map (·.2.bare), e, sz) else none
def litB : V → Bool
  | .int _ _ | .bool _ | .str _ | .nilptr => true
  | _ => false
theorem litB_spec {z : V} (h : litB z = true) : z.one = true ∧ z.bare = z ∧ PureV z := by
  cases z <;> try (cases h; done)
  · exact ⟨rfl, rfl, PureV.int _ _⟩
  · exact ⟨rfl, rfl, PureV.bool _⟩
  · exact ⟨rfl, rfl, PureV.str _⟩
  · exact ⟨rfl, rfl, PureV.nilptr⟩
def makeE (P : Program) (t : TypeId) (st : List O) (x y : V) : Option (V × List O) :=
  match elt P t with
  | some (e, sz, by_) => match zro P e, x, y with
    | some [z], .int _ l, .int _ c => if sz = 1 ∧ l = c ∧ 0 ≤ l ∧ (by_ : Int) * l ≤ 281474976710656 ∧ l ≤ 9223372036854775807 ∧ litB z = true then some (.ref st.length 0, st ++ [.arr e 1 0 (List.replicate l.toNat z)]) else none
    | _, _, _ => none
  | none => none
theorem makeE_sound {K : V → List O → Prop} {t : TypeId} {st' : List O} (h : makeE P t st x y = some (v, st')) (hk : K v st') : makeP P t st x y K := by
  unfold makeE at h; unfold makeP
  cases he : elt P t with
  | none => simp [he] at h
  | some a =>
    obtain ⟨e, sz, by_⟩ := a
    rw [he] at h
    simp only at h ⊢
    split at h <;> try (cases h; done)
    rename_i h1
    simp only [h1]
    split at h <;> try (cases h; done)
    rename_i hc
    simp only [Option.some.injEq, Prod.mk.injEq] at h
    obtain ⟨rfl, rfl⟩ := h
    obtain ⟨k1, k2, k3⟩ := litB_spec hc.2.2.2.2.2
    exact ⟨hc.1, hc.2.1, hc.2.2.1, hc.2.2.2.1, hc.2.2.2.2.1, k1, k2, k3, hk⟩
def appE (P : Program) (t : TypeId) (st : List O) (x y : V) : Option (V × List O) :=
  match elt P t, rowOf y with
  | some (e, sz, by_), some es2 => if (es2.all fun e => e.cells.length == sz) = true then match x with
    | .nil => if es2.length * by_ ≤ 140737488355328 ∧ es2.length ≤ maxLen then some (.sl es2 (some st.length), st ++ [.tok e sz es2.length]) else none
    | .sl es (some id) => match st[id]? with
      | some (.tok e' sz' n) => if e' = e ∧ sz' = sz ∧ n = es.length ∧ (es.length + es2.length) * by_ ≤ 140737488355328 ∧ es.length + es2.length ≤ maxLen then some (.sl (es ++ es2) (some id), st.set id (.tok e sz (es.length + es2.length))) else none
      | _ => none
    | .ref id ver => match st[id]? with
      | some (.arr e' sz' v es) => if e' = e ∧ sz' = sz ∧ v = ver ∧ (es.length + es2.length) * by_ ≤ 140737488355328 ∧ es.length + es2.length ≤ maxLen then some (.ref id (ver + 1), st.set id (.arr e sz (ver + 1) (es ++ es2))) else none
      | _ => none
    | _ => none
    else none
  | _, _ => none
theorem appE_sound {K : V → List O → Prop} {t : TypeId} {st' : List O} (h : appE P t st x y = some (v, st')) (hk : K v st') : appendP P t st x y K := by
  unfold appE at h; unfold appendP
  split at h <;> try (cases h; done)
  rename_i h1 h2
  simp only [h1, h2]
  split at h <;> try (cases h; done)
  rename_i hc
  refine ⟨fun e he => by simpa using List.all_eq_true.1 hc e he, ?_⟩
  cases x <;> (try simp only at h ⊢) <;> (try (cases h; done))
  · rename_i es tk
    cases tk <;> (try simp only at h ⊢) <;> (try (cases h; done))
    split at h <;> try (cases h; done)
    rename_i ho
    rw [ho]
    split at h <;> try (cases h; done)
    rename_i hc
    simp only [Option.some.injEq, Prod.mk.injEq] at h
    obtain ⟨rfl, rfl⟩ := h
    exact ⟨hc.1, hc.2.1, hc.2.2.1, hc.2.2.2.1, hc.2.2.2.2, hk⟩
  rotate_left
  · rename_i id ver
    split at h <;> try (cases h; done)
    rename_i ho
    rw [ho]
    split at h <;> try (cases h; done)
    rename_i hc
    simp only [Option.some.injEq, Prod.mk.injEq] at h
    obtain ⟨rfl, rfl⟩ := h
    exact ⟨hc.1, hc.2.1, hc.2.2.1, hc.2.2.2.1, hc.2.2.2.2, hk⟩
  · split at h <;> try (cases h; done)
    rename_i hc
    simp only [Option.some.injEq, Prod.mk.injEq] at h
    obtain ⟨rfl, rfl⟩ := h
    exact ⟨hc.1, hc.2, .inl hk⟩
end
end Go.Duo
