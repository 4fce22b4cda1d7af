/-
  A part of the proof.
-/
import Derived.OrdersIn
import Derived.RangeFuncLeaves
import Derived.RangeFuncNested
import Derived.Laws.AppendOwn
import Derived.Laws.AppendOwnNone
set_option linter.all false
namespace Go.Duo
open Go
/-- A value without memory. 'sl': a row that is only read (t: the right to append to it); 'ref': a row of one's own; 'ptr': into an object of one's own; 'dptr': at cells that are only read. -/
inductive V where
  | undef
  | int (k : IntKind) (n : Int)
  | bool (b : Bool)
  | str (s : List UInt8)
  | agg (cs : List V)
  | tuple (cs : List V)
  | sl (es : List V) (t : Option Nat)
  | nil
  | ref (id ver : Nat)
  | ptr (id off : Nat)
  | dptr (cs : List V)
  | nilptr
  | pmap (ks vs : List V)
  | map (id : Nat)
  | func (fn : Fn) (first captured : List V)
  | nilfunc
  | iface (t : TypeId) (v : V)
  | niliface
  | yld (id : Nat)
  | rptr (id ver off : Nat)
  deriving Inhabited
def V.cells : V → List V
  | .agg cs => cs
  | v => [v]
/-- It fills one cell. -/
def V.one : V → Bool
  | .agg _ | .tuple _ | .undef => false
  | _ => true
def flat (es : List V) : List V := es.flatMap V.cells
@[simp] theorem flat_nil : flat [] = [] := rfl
@[simp] theorem flat_cons (e : V) (es : List V) : flat (e :: es) = e.cells ++ flat es := by simp [flat]
theorem flat_append (a b : List V) : flat (a ++ b) = flat a ++ flat b := by simp [flat]
/-- A cell that nobody writes any more. -/
def Cell (w : World) (K : Nat → Nat → Prop) (b o : Nat) (x : Value) : Prop := w.cell? ⟨b, o, none⟩ = some x ∧ K b o
/-- A row's cell: the row begins at a. -/
def CellAt (w : World) (K : Nat → Nat → Prop) (a : Option Addr) (j : Nat) (x : Value) : Prop := ∃ b o, a = some ⟨b, o, none⟩ ∧ Cell w K b (o + j) x
/-- The value x of the model is v, by cells that nobody writes. -/
inductive PR (w : World) (K : Nat → Nat → Prop) : V → Value → Prop
  | int (k : IntKind) (n : Int) : PR w K (.int k n) (.int k n)
  | bool (b : Bool) : PR w K (.bool b) (.bool b)
  | str (s : List UInt8) : PR w K (.str s) (.string ⟨s.toArray⟩)
  | agg (cs : List V) (xs : List Value) (hl : cs.length = xs.length) (h : ∀ (i : Nat) (c : V) (x : Value), cs[i]? = some c → xs[i]? = some x → PR w K c x) : PR w K (.agg cs) (.agg xs.toArray)
  | tuple (cs : List V) (xs : List Value) (hl : cs.length = xs.length) (h : ∀ (i : Nat) (c : V) (x : Value), cs[i]? = some c → xs[i]? = some x → PR w K c x) : PR w K (.tuple cs) (.tuple xs.toArray)
  | nil (a : Option Addr) : PR w K .nil (.slice a 0 0)
  | sl (es : List V) (a : Option Addr) (cap sz : Nat) (x : Nat → Value) (hcap : es.length ≤ cap) (hmax : cap ≤ maxLen) (hsz : ∀ e ∈ es, e.cells.length = sz) (h1 : ∀ c ∈ flat es, c.one = true)
      (hc : ∀ (j : Nat) (c : V), (flat es)[j]? = some c → CellAt w K a j (x j)) (h : ∀ (j : Nat) (c : V), (flat es)[j]? = some c → PR w K c (x j)) : PR w K (.sl es none) (.slice a es.length cap)
  | nilptr : PR w K .nilptr (.pointer none)
  | dptr (cs : List V) (b o : Nat) (x : Nat → Value) (hc : ∀ (j : Nat) (c : V), cs[j]? = some c → Cell w K b (o + j) (x j)) (h : ∀ (j : Nat) (c : V), cs[j]? = some c → PR w K c (x j)) : PR w K (.dptr cs) (.pointer (some ⟨b, o, none⟩))
  | pmap (ks vs : List V) (r : Nat) (es : Array MapEntry) (clock : Nat) (hb : w.heap[r]? = some (.map es clock)) (hK : K r 0) (hk : ks.length = es.size) (hv : vs.length = es.size)
      (h : ∀ (i : Nat) (c : V) (e : MapEntry), ks[i]? = some c → es[i]? = some e → PR w K c e.key) (h' : ∀ (i : Nat) (c : V) (e : MapEntry), vs[i]? = some c → es[i]? = some e → PR w K c e.val) : PR w K (.pmap ks vs) (.map (some r))
  | func (fn : Fn) (fs cs : List V) (xs ys : List Value) (hl : fs.length = xs.length) (hl' : cs.length = ys.length) (h : ∀ (i : Nat) (c : V) (x : Value), fs[i]? = some c → xs[i]? = some x → PR w K c x)
      (h' : ∀ (i : Nat) (c : V) (x : Value), cs[i]? = some c → ys[i]? = some x → PR w K c x) : PR w K (.func fn fs cs) (.func fn xs.toArray ys.toArray)
  | nilfunc : PR w K .nilfunc .nilFunc
  | iface (t : TypeId) (v : V) (x : Value) (h : PR w K v x) : PR w K (.iface t v) (.iface t x)
  | niliface : PR w K .niliface .nilIface
/-- The block's cells are so many. -/
def Whole (w : World) (b n : Nat) : Prop := ∃ cs t fr, w.heap[b]? = some (.cells cs t fr) ∧ cs.size = n
theorem Whole.same {w w' : World} {b n : Nat} (h : Whole w b n) (he : w'.heap[b]? = w.heap[b]?) : Whole w' b n := by
  obtain ⟨cs, t, fr, h1, h2⟩ := h
  exact ⟨cs, t, fr, he.trans h1, h2⟩
theorem Whole.lt {w : World} {b n : Nat} (h : Whole w b n) : b < w.heap.size := by
  obtain ⟨cs, t, fr, h1, h2⟩ := h
  exact (Array.getElem?_eq_some_iff.1 h1).1
/-- What nobody writes is as it was. -/
structure Keeps (w : World) (K : Nat → Nat → Prop) (w' : World) (K' : Nat → Nat → Prop) : Prop where
  mono : ∀ b o, K b o → K' b o
  cell : ∀ b o x, K b o → w.cell? ⟨b, o, none⟩ = some x → w'.cell? ⟨b, o, none⟩ = some x
  map : ∀ b es clock, K b 0 → w.heap[b]? = some (.map es clock) → w'.heap[b]? = some (.map es clock)
  shape : ∀ b o n, K b o → Whole w b n → Whole w' b n
theorem Keeps.refl (w : World) (K : Nat → Nat → Prop) : Keeps w K w K := ⟨fun _ _ h => h, fun _ _ _ _ h => h, fun _ _ _ _ h => h, fun _ _ _ _ h => h⟩
theorem Keeps.trans {w w' w'' : World} {K K' K'' : Nat → Nat → Prop} (h : Keeps w K w' K') (k : Keeps w' K' w'' K'') : Keeps w K w'' K'' :=
  ⟨fun b o hb => k.mono b o (h.mono b o hb), fun b o x hb hx => k.cell b o x (h.mono b o hb) (h.cell b o x hb hx), fun b es c hb hx => k.map b es c (h.mono b 0 hb) (h.map b es c hb hx), fun b o n hb hx => k.shape b o n (h.mono b o hb) (h.shape b o n hb hx)⟩
section
variable {w w' : World} {K K' : Nat → Nat → Prop}
theorem Cell.keeps (hk : Keeps w K w' K') {b o : Nat} {x : Value} (h : Cell w K b o x) : Cell w' K' b o x := ⟨hk.cell b o x h.2 h.1, hk.mono b o h.2⟩
theorem CellAt.keeps (hk : Keeps w K w' K') {a : Option Addr} {j : Nat} {x : Value} (h : CellAt w K a j x) : CellAt w' K' a j x := by
  obtain ⟨b, o, ha, hc⟩ := h
  exact ⟨b, o, ha, hc.keeps hk⟩
theorem PR.keeps (hk : Keeps w K w' K') {v : V} {x : Value} (h : PR w K v x) : PR w' K' v x := by
  induction h with
  | int k n => exact .int k n
  | bool b => exact .bool b
  | str s => exact .str s
  | agg cs xs hl _ ih => exact .agg cs xs hl ih
  | tuple cs xs hl _ ih => exact .tuple cs xs hl ih
  | nil a => exact .nil a
  | sl es a cap sz x hcap hmax hsz h1 hc _ ih => exact .sl es a cap sz x hcap hmax hsz h1 (fun j c hj => (hc j c hj).keeps hk) ih
  | nilptr => exact .nilptr
  | dptr cs b o x hc _ ih => exact .dptr cs b o x (fun j c hj => (hc j c hj).keeps hk) ih
  | pmap ks vs r es clock hb hK hkl hvl _ _ ih ih' => exact .pmap ks vs r es clock (hk.map r es clock hK hb) (hk.mono r 0 hK) hkl hvl ih ih'
  | func fn fs cs xs ys hl hl' _ _ ih ih' => exact .func fn fs cs xs ys hl hl' ih ih'
  | nilfunc => exact .nilfunc
  | iface t v x _ ih => exact .iface t v x ih
  | niliface => exact .niliface
theorem PR.oneCell {v : V} {x : Value} (h : PR w K v x) (h1 : v.one = true) : x.oneCell' = true := by
  cases h <;> first | rfl | simp [V.one] at h1
end
/-- An object that an activation owns. -/
inductive O where
  | box (t : TypeId) (cs : List V)
  | map (ks vs : List V)
  | tok (e : TypeId) (sz n : Nat)
  | arr (e : TypeId) (sz ver : Nat) (es : List V)
  | yld (xs : List (List V)) (i : Nat) (go : Bool)
  | dead
  deriving Inhabited
/-- Where an object lies. -/
inductive Gh where
  | blk (b : Nat)
  | row (x : Value)
  | yl (l : Nat) (F : Nat → Prop) (J Jx : Nat → (Nat → Prop) → (Nat → Nat → Prop) → World → Prop)
def Gh.at : Gh → Option Nat
  | .blk b => some b
  | .row x => x.ownBlock
  | .yl .. => none
/-- What an activation knows beside the world: the cells that nobody writes, its objects and where they lie. -/
structure S where
  K : Nat → Nat → Prop
  g : List Gh
  st : List O
def O.lives : O → Bool
  | .dead | .yld _ _ _ => false
  | _ => true
/-- Block b is that of the living object i. -/
def S.own (s : S) (i b : Nat) : Prop := ∃ o g, s.st[i]? = some o ∧ o.lives = true ∧ s.g[i]? = some g ∧ g.at = some b
/-- Some living object lies in block b. -/
def S.mine (s : S) (b : Nat) : Prop := ∃ i, s.own i b
/-- Block b belongs to those whom a yield may wake. -/
def S.foreign (s : S) (b : Nat) : Prop := ∃ (i : Nat) (xs : List (List V)) (k l : Nat) (go : Bool) (F : Nat → Prop) (J Jx : Nat → (Nat → Prop) → (Nat → Nat → Prop) → World → Prop), s.st[i]? = some (.yld xs k go) ∧ s.g[i]? = some (.yl l F J Jx) ∧ F b
/-- The object may write the cell o of its block. -/
def O.writes : O → Nat → Prop
  | .tok _ sz n, o => n * sz ≤ o
  | _, _ => True
def TokOK (s : S) (id : Nat) (es : List V) (x : Value) : Prop := ∃ o, s.st[id]? = some o ∧ match o with
  | .tok _ sz m => es.length ≤ m ∧ (es.length = m → s.g[id]? = some (.row x) ∨ (m = 0 ∧ ∃ a, x = .slice a 0 0)) ∧ ∀ el ∈ es, el.cells.length = sz
  | .dead => True
  | _ => False
def RefOK (s : S) (id ver : Nat) (x : Value) : Prop := ∃ o, s.st[id]? = some o ∧ match o with
  | .arr _ _ v es => ver ≤ v ∧ (ver = v → s.g[id]? = some (.row x) ∨ (es = [] ∧ ∃ a, x = .slice a 0 0))
  | .dead => True
  | _ => False
def RptrOK (s : S) (id ver off : Nat) (x : Value) : Prop := ∃ o, s.st[id]? = some o ∧ match o with
  | .arr _ _ v _ => ver ≤ v ∧ (ver = v → ∃ y b, s.g[id]? = some (.row y) ∧ y.ownBlock = some b ∧ x = .pointer (some ⟨b, off, none⟩))
  | .dead => True
  | _ => False
/-- The value x of the model is v, for an activation that knows s. -/
inductive Rep (w : World) (s : S) : V → Value → Prop
  | pure (v : V) (x : Value) (h : PR w s.K v x) : Rep w s v x
  | undef (x : Value) : Rep w s .undef x
  | agg (cs : List V) (xs : List Value) (hl : cs.length = xs.length) (h : ∀ (i : Nat) (c : V) (x : Value), cs[i]? = some c → xs[i]? = some x → Rep w s c x) : Rep w s (.agg cs) (.agg xs.toArray)
  | tuple (cs : List V) (xs : List Value) (hl : cs.length = xs.length) (h : ∀ (i : Nat) (c : V) (x : Value), cs[i]? = some c → xs[i]? = some x → Rep w s c x) : Rep w s (.tuple cs) (.tuple xs.toArray)
  | func (fn : Fn) (fs cs : List V) (xs ys : List Value) (hl : fs.length = xs.length) (hl' : cs.length = ys.length) (h : ∀ (i : Nat) (c : V) (x : Value), fs[i]? = some c → xs[i]? = some x → Rep w s c x)
      (h' : ∀ (i : Nat) (c : V) (x : Value), cs[i]? = some c → ys[i]? = some x → Rep w s c x) : Rep w s (.func fn fs cs) (.func fn xs.toArray ys.toArray)
  | iface (t : TypeId) (v : V) (x : Value) (h : Rep w s v x) : Rep w s (.iface t v) (.iface t x)
  | tok (es : List V) (id : Nat) (x : Value) (h : PR w s.K (.sl es none) x) (ht : TokOK s id es x) : Rep w s (.sl es (some id)) x
  | ref (id ver : Nat) (x : Value) (h1 : x.oneCell' = true) (h : RefOK s id ver x) : Rep w s (.ref id ver) x
  | ptr (id off b : Nat) (h : s.g[id]? = some (.blk b)) : Rep w s (.ptr id off) (.pointer (some ⟨b, off, none⟩))
  | map (id b : Nat) (h : s.g[id]? = some (.blk b)) : Rep w s (.map id) (.map (some b))
  | rptr (id ver off : Nat) (x : Value) (h1 : x.oneCell' = true) (h : RptrOK s id ver off x) : Rep w s (.rptr id ver off) x
  | yld (id l : Nat) (F : Nat → Prop) (J Jx : Nat → (Nat → Prop) → (Nat → Nat → Prop) → World → Prop) (h : s.g[id]? = some (.yl l F J Jx)) : Rep w s (.yld id) (.func (.yield l) #[] #[])
structure S.Wf (s : S) : Prop where
  len : s.g.length = s.st.length
  tok : ∀ (i : Nat) (e : TypeId) (sz m : Nat), s.st[i]? = some (O.tok e sz m) → ∃ x, s.g[i]? = some (Gh.row x)
  arr : ∀ (i : Nat) (e : TypeId) (sz m : Nat) (es : List V), s.st[i]? = some (O.arr e sz m es) → ∃ x, s.g[i]? = some (Gh.row x)
  yld : ∀ (i : Nat) (xs : List (List V)) (k : Nat) (go : Bool), s.st[i]? = some (O.yld xs k go) → ∃ (l : Nat) (F : Nat → Prop) (J Jx : Nat → (Nat → Prop) → (Nat → Nat → Prop) → World → Prop), s.g[i]? = some (Gh.yl l F J Jx)
/-- How an object may change while the heap grows from n blocks on. -/
def TR (n : Nat) : O → Gh → O → Gh → Prop
  | .box t cs, g, o', g' => g' = g ∧ (o' = .dead ∨ ∃ cs', o' = .box t cs' ∧ cs'.length = cs.length)
  | .map _ _, g, o', g' => g' = g ∧ (o' = .dead ∨ ∃ ks vs, o' = .map ks vs)
  | .tok e sz m, g, o', g' => o' = .dead ∨ ∃ m', o' = .tok e sz m' ∧ m ≤ m' ∧ (m' = m → g' = g) ∧ (∀ b, g'.at = some b → g.at = some b ∨ n ≤ b)
  | .arr e sz v es, g, o', g' => o' = .dead ∨ ∃ v' es', o' = .arr e sz v' es' ∧ v ≤ v' ∧ (v' = v → g' = g ∧ es'.length = es.length) ∧ (∀ b, g'.at = some b → g.at = some b ∨ n ≤ b)
  | .yld xs i _, g, o', g' => (∃ l F F' J Jx, g = .yl l F J Jx ∧ g' = .yl l F' J Jx ∧ ∀ b, F' b → F b ∨ n ≤ b) ∧ (o' = .dead ∨ ∃ i' go', o' = .yld xs i' go' ∧ i ≤ i')
  | .dead, g, o', g' => o' = .dead ∧ g' = g
structure Evolve (w : World) (s : S) (w' : World) (s' : S) : Prop where
  os : w'.os = w.os
  tape : w'.tape = w.tape
  output : w'.output = w.output
  size : w.heap.size ≤ w'.heap.size
  keeps : Keeps w s.K w' s'.K
  knew : ∀ b o, s'.K b o → s.K b o ∨ w.heap.size ≤ b ∨ s.mine b ∨ s.foreign b
  block : ∀ b, b < w.heap.size → ¬ s.mine b → ¬ s.foreign b → w'.heap[b]? = w.heap[b]?
  len : s.g.length ≤ s'.g.length
  objs : ∀ (i : Nat) (o : O) (g : Gh), s.st[i]? = some o → s.g[i]? = some g → ∃ o' g', s'.st[i]? = some o' ∧ s'.g[i]? = some g' ∧ TR w.heap.size o g o' g'
  fresh : ∀ (i : Nat) (o : O) (g : Gh) (b : Nat), s.g.length ≤ i → s'.st[i]? = some o → o.lives = true → s'.g[i]? = some g → g.at = some b → w.heap.size ≤ b
  noyld : ∀ (i : Nat) (xs : List (List V)) (k : Nat) (go : Bool), s.g.length ≤ i → s'.st[i]? ≠ some (.yld xs k go)
theorem TR.refl (n : Nat) (o : O) (g : Gh) (h : ∀ xs i go, o = .yld xs i go → ∃ l F J Jx, g = .yl l F J Jx) : TR n o g o g := by
  cases o with
  | yld xs i go =>
    obtain ⟨l, F, J, Jx, rfl⟩ := h xs i go rfl
    exact ⟨⟨l, F, F, J, Jx, rfl, rfl, fun b hb => .inl hb⟩, .inr ⟨i, go, rfl, Nat.le_refl _⟩⟩
  | tok e sz n => exact .inr ⟨n, rfl, Nat.le_refl _, fun _ => rfl, fun b hb => .inl hb⟩
  | arr e sz v es => exact .inr ⟨v, es, rfl, Nat.le_refl _, fun _ => ⟨rfl, rfl⟩, fun b hb => .inl hb⟩
  | box t cs => exact ⟨rfl, .inr ⟨cs, rfl, rfl⟩⟩
  | map ks vs => exact ⟨rfl, .inr ⟨ks, vs, rfl⟩⟩
  | dead => exact ⟨rfl, rfl⟩
theorem TR.trans {n n' : Nat} (hn : n ≤ n') {o o' o'' : O} {g g' g'' : Gh} (h : TR n o g o' g') (k : TR n' o' g' o'' g'') : TR n o g o'' g'' := by
  cases o with
  | dead =>
    obtain ⟨rfl, rfl⟩ := h
    exact k
  | box t cs =>
    obtain ⟨rfl, rfl | ⟨cs', rfl, hl⟩⟩ := h
    · exact ⟨k.2, .inl k.1⟩
    · obtain ⟨rfl, rfl | ⟨cs'', rfl, hl'⟩⟩ := k
      · exact ⟨rfl, .inl rfl⟩
      · exact ⟨rfl, .inr ⟨cs'', rfl, hl'.trans hl⟩⟩
  | map ks vs =>
    obtain ⟨rfl, rfl | ⟨ks', vs', rfl⟩⟩ := h
    · exact ⟨k.2, .inl k.1⟩
    · obtain ⟨rfl, rfl | ⟨ks'', vs'', rfl⟩⟩ := k
      · exact ⟨rfl, .inl rfl⟩
      · exact ⟨rfl, .inr ⟨ks'', vs'', rfl⟩⟩
  | tok e sz m =>
    rcases h with rfl | ⟨m', rfl, h1, h2, h3⟩
    · exact .inl k.1
    · rcases k with rfl | ⟨m'', rfl, k1, k2, k3⟩
      · exact .inl rfl
      · refine .inr ⟨m'', rfl, Nat.le_trans h1 k1, fun e => ?_, fun b hb => ?_⟩
        · obtain rfl : m' = m := by omega
          exact (k2 e).trans (h2 rfl)
        · rcases k3 b hb with h | h
          · exact h3 b h
          · exact .inr (Nat.le_trans hn h)
  | arr e sz v es =>
    rcases h with rfl | ⟨m', es', rfl, h1, h2, h3⟩
    · exact .inl k.1
    · rcases k with rfl | ⟨m'', es'', rfl, k1, k2, k3⟩
      · exact .inl rfl
      · refine .inr ⟨m'', es'', rfl, Nat.le_trans h1 k1, fun e => ?_, fun b hb => ?_⟩
        · obtain rfl : m' = v := by omega
          exact ⟨(k2 e).1.trans (h2 rfl).1, (k2 e).2.trans (h2 rfl).2⟩
        · rcases k3 b hb with h | h
          · exact h3 b h
          · exact .inr (Nat.le_trans hn h)
  | yld xs i go =>
    obtain ⟨⟨l, F, F', J, Jx, rfl, rfl, hF⟩, rfl | ⟨i', go', rfl, hi⟩⟩ := h
    · obtain ⟨rfl, rfl⟩ := k
      exact ⟨⟨l, F, F', J, Jx, rfl, rfl, hF⟩, .inl rfl⟩
    · obtain ⟨⟨l', G, G', J', Jx', he, rfl, hG⟩, hk⟩ := k
      simp only [Gh.yl.injEq] at he
      obtain ⟨rfl, rfl, rfl, rfl⟩ := he
      refine ⟨⟨l, F, G', J, Jx, rfl, rfl, fun b hb => ?_⟩, ?_⟩
      · rcases hG b hb with h | h
        · exact hF b h
        · exact .inr (Nat.le_trans hn h)
      · rcases hk with rfl | ⟨i'', go'', rfl, hi'⟩
        · exact .inl rfl
        · exact .inr ⟨i'', go'', rfl, Nat.le_trans hi hi'⟩
/-- What a living object's ghost is like. -/
theorem TR.live {n : Nat} {o o' : O} {g g' : Gh} (h : TR n o g o' g') (hl : o'.lives = true) : o.lives = true ∧ ∀ b, g'.at = some b → g.at = some b ∨ n ≤ b := by
  cases o with
  | dead => obtain ⟨rfl, rfl⟩ := h; cases hl
  | box t cs => exact ⟨rfl, fun b hb => by rw [h.1] at hb; exact .inl hb⟩
  | map ks vs => exact ⟨rfl, fun b hb => by rw [h.1] at hb; exact .inl hb⟩
  | tok e sz m =>
    rcases h with rfl | ⟨m', rfl, h1, h2, h3⟩
    · cases hl
    · exact ⟨rfl, h3⟩
  | arr e sz v es =>
    rcases h with rfl | ⟨m', es', rfl, h1, h2, h3⟩
    · cases hl
    · exact ⟨rfl, h3⟩
  | yld xs i go =>
    obtain ⟨_, rfl | ⟨i', go', rfl, _⟩⟩ := h <;> cases hl
theorem Evolve.mine {w w' : World} {s s' : S} (h : Evolve w s w' s') (hl : s.g.length = s.st.length) {b : Nat} (hb : s'.mine b) : s.mine b ∨ w.heap.size ≤ b := by
  obtain ⟨i, o', g', ho', hlv, hg', hat⟩ := hb
  by_cases hi : i < s.g.length
  · obtain ⟨o1, g1, h1, h2, htr⟩ := h.objs i (s.st[i]'(hl ▸ hi)) (s.g[i]) (by rw [List.getElem?_eq_getElem]) (by rw [List.getElem?_eq_getElem])
    rw [ho'] at h1
    rw [hg'] at h2
    simp only [Option.some.injEq] at h1 h2
    subst h1 h2
    obtain ⟨hlive, hb⟩ := htr.live hlv
    rcases hb b hat with hb | hb
    · exact .inl ⟨i, _, _, by rw [List.getElem?_eq_getElem], hlive, by rw [List.getElem?_eq_getElem], hb⟩
    · exact .inr hb
  · exact .inr (h.fresh i o' g' b (by omega) ho' hlv hg' hat)
theorem Evolve.foreign {w w' : World} {s s' : S} (h : Evolve w s w' s') (hl : s.g.length = s.st.length) {b : Nat} (hb : s'.foreign b) : s.foreign b ∨ w.heap.size ≤ b := by
  obtain ⟨i, xs, k, l, go, F, J, Jx, ho', hg', hF⟩ := hb
  by_cases hi : i < s.g.length
  · obtain ⟨o1, g1, h1, h2, htr⟩ := h.objs i (s.st[i]'(hl ▸ hi)) (s.g[i]) (by rw [List.getElem?_eq_getElem]) (by rw [List.getElem?_eq_getElem])
    rw [ho'] at h1
    rw [hg'] at h2
    simp only [Option.some.injEq] at h1 h2
    subst h1 h2
    generalize ho : s.st[i]'(hl ▸ hi) = o at htr
    generalize hg : s.g[i] = g at htr
    cases o with
    | dead => cases htr.1
    | box t cs => obtain ⟨_, h | ⟨_, h, _⟩⟩ := htr <;> cases h
    | map ks vs => obtain ⟨_, h | ⟨_, _, h⟩⟩ := htr <;> cases h
    | tok e sz m => rcases htr with h | ⟨_, h, _⟩ <;> cases h
    | arr e sz v es => rcases htr with h | ⟨_, _, h, _⟩ <;> cases h
    | yld xs' i' go' =>
      obtain ⟨⟨l', F1, F2, J', Jx', he, he', hF'⟩, _⟩ := htr
      simp only [Gh.yl.injEq] at he'
      obtain ⟨rfl, rfl, rfl, rfl⟩ := he'
      rcases hF' b hF with h | h
      · exact .inl ⟨i, xs', i', l, go', F1, J, Jx, by rw [List.getElem?_eq_getElem (hl ▸ hi), ho], by rw [List.getElem?_eq_getElem hi, hg, he], h⟩
      · exact .inr h
  · exact absurd ho' (h.noyld i xs k go (by omega))
theorem Evolve.trans {w w' w'' : World} {s s' s'' : S} (hl : s.g.length = s.st.length) (hl' : s'.g.length = s'.st.length) (h : Evolve w s w' s') (k : Evolve w' s' w'' s'') : Evolve w s w'' s'' where
  os := k.os.trans h.os
  tape := k.tape.trans h.tape
  output := k.output.trans h.output
  size := Nat.le_trans h.size k.size
  keeps := h.keeps.trans k.keeps
  knew := fun b o hb => by
    rcases k.knew b o hb with hb | hb | hb | hb
    · exact h.knew b o hb
    · exact .inr (.inl (Nat.le_trans h.size hb))
    · rcases h.mine hl hb with hb | hb
      · exact .inr (.inr (.inl hb))
      · exact .inr (.inl hb)
    · rcases h.foreign hl hb with hb | hb
      · exact .inr (.inr (.inr hb))
      · exact .inr (.inl hb)
  block := fun b hb hm hf => by
    rw [k.block b (Nat.lt_of_lt_of_le hb h.size) (fun hm' => (h.mine hl hm').elim hm (fun hh => by omega)) (fun hf' => (h.foreign hl hf').elim hf (fun hh => by omega))]
    exact h.block b hb hm hf
  len := Nat.le_trans h.len k.len
  objs := fun i o g ho hg => by
    obtain ⟨o1, g1, h1, h2, t1⟩ := h.objs i o g ho hg
    obtain ⟨o2, g2, h3, h4, t2⟩ := k.objs i o1 g1 h1 h2
    exact ⟨o2, g2, h3, h4, t1.trans h.size t2⟩
  fresh := fun i o g b hi ho hlv hg hat => by
    by_cases hi' : i < s'.g.length
    · obtain ⟨o2, g2, h3, h4, t2⟩ := k.objs i (s'.st[i]'(hl' ▸ hi')) (s'.g[i]) (by rw [List.getElem?_eq_getElem]) (by rw [List.getElem?_eq_getElem])
      rw [ho] at h3
      rw [hg] at h4
      simp only [Option.some.injEq] at h3 h4
      subst h3 h4
      obtain ⟨hlive, hb⟩ := t2.live hlv
      rcases hb b hat with hb | hb
      · exact h.fresh i _ _ b hi (by rw [List.getElem?_eq_getElem]) hlive (by rw [List.getElem?_eq_getElem]) hb
      · exact Nat.le_trans h.size hb
    · exact Nat.le_trans h.size (k.fresh i o g b (by omega) ho hlv hg hat)
  noyld := fun i xs n go hi ho => by
    by_cases hi' : i < s'.g.length
    · obtain ⟨o2, g2, h3, h4, t2⟩ := k.objs i (s'.st[i]'(hl' ▸ hi')) (s'.g[i]) (by rw [List.getElem?_eq_getElem]) (by rw [List.getElem?_eq_getElem])
      rw [ho] at h3
      simp only [Option.some.injEq] at h3
      subst h3
      have hn := fun xs k go => h.noyld i xs k go hi
      rw [List.getElem?_eq_getElem (hl' ▸ hi')] at hn
      generalize s'.st[i]'(hl' ▸ hi') = o at t2 hn
      cases o with
      | dead => cases t2.1
      | box t cs => obtain ⟨_, h | ⟨_, h, _⟩⟩ := t2 <;> cases h
      | map ks vs => obtain ⟨_, h | ⟨_, _, h⟩⟩ := t2 <;> cases h
      | tok e sz m => rcases t2 with h | ⟨_, h, _⟩ <;> cases h
      | arr e sz v es => rcases t2 with h | ⟨_, _, h, _⟩ <;> cases h
      | yld xs' i' go' => exact hn xs' i' go' rfl
    · exact k.noyld i xs n go (by omega) ho
theorem TokOK.evolve {w w' : World} {s s' : S} (h : Evolve w s w' s') (hl : s.g.length = s.st.length) {id : Nat} {es : List V} {x : Value} (ht : TokOK s id es x) : TokOK s' id es x := by
  obtain ⟨o, ho, hm⟩ := ht
  have hi : id < s.st.length := (List.getElem?_eq_some_iff.1 ho).1
  obtain ⟨o', g', h1, h2, t⟩ := h.objs id o (s.g[id]'(hl ▸ hi)) ho (by rw [List.getElem?_eq_getElem])
  refine ⟨o', h1, ?_⟩
  cases o with
  | tok e sz m =>
    obtain ⟨hle, hrow, hcl⟩ := hm
    rcases t with rfl | ⟨m', rfl, t1, t2, t3⟩
    · trivial
    · refine ⟨Nat.le_trans hle t1, fun e => ?_, hcl⟩
      obtain rfl : es.length = m := by omega
      rcases hrow rfl with hr | ⟨h0, hr⟩
      · rw [List.getElem?_eq_getElem (hl ▸ hi)] at hr
        simp only [Option.some.injEq] at hr
        exact .inl (by rw [h2, t2 e.symm, hr])
      · exact .inr ⟨by omega, hr⟩
  | dead => obtain ⟨rfl, _⟩ := t; trivial
  | box t cs => exact hm.elim
  | map ks vs => exact hm.elim
  | arr e sz v es => exact hm.elim
  | yld xs i go => exact hm.elim
theorem RefOK.evolve {w w' : World} {s s' : S} (h : Evolve w s w' s') (hl : s.g.length = s.st.length) {id n : Nat} {x : Value} (ht : RefOK s id n x) : RefOK s' id n x := by
  obtain ⟨o, ho, hm⟩ := ht
  have hi : id < s.st.length := (List.getElem?_eq_some_iff.1 ho).1
  obtain ⟨o', g', h1, h2, t⟩ := h.objs id o (s.g[id]'(hl ▸ hi)) ho (by rw [List.getElem?_eq_getElem])
  refine ⟨o', h1, ?_⟩
  cases o with
  | arr e sz m es =>
    obtain ⟨hle, hrow⟩ := hm
    rcases t with rfl | ⟨m', es', rfl, t1, t2, t3⟩
    · trivial
    · refine ⟨Nat.le_trans hle t1, fun e => ?_⟩
      obtain rfl : n = m := by omega
      rcases hrow rfl with hr | ⟨rfl, hr⟩
      · rw [List.getElem?_eq_getElem (hl ▸ hi)] at hr
        simp only [Option.some.injEq] at hr
        exact .inl (by rw [h2, (t2 e.symm).1, hr])
      · exact .inr ⟨List.eq_nil_of_length_eq_zero (t2 e.symm).2, hr⟩
  | dead => obtain ⟨rfl, _⟩ := t; trivial
  | box t cs => exact hm.elim
  | map ks vs => exact hm.elim
  | tok e sz v => exact hm.elim
  | yld xs i go => exact hm.elim
theorem RptrOK.evolve {w w' : World} {s s' : S} (h : Evolve w s w' s') (hl : s.g.length = s.st.length) {id n off : Nat} {x : Value} (ht : RptrOK s id n off x) : RptrOK s' id n off x := by
  obtain ⟨o, ho, hm⟩ := ht
  have hi : id < s.st.length := (List.getElem?_eq_some_iff.1 ho).1
  obtain ⟨o', g', h1, h2, t⟩ := h.objs id o (s.g[id]'(hl ▸ hi)) ho (by rw [List.getElem?_eq_getElem])
  refine ⟨o', h1, ?_⟩
  cases o with
  | arr e sz m es =>
    obtain ⟨hle, hrow⟩ := hm
    rcases t with rfl | ⟨m', es', rfl, t1, t2, t3⟩
    · trivial
    · refine ⟨Nat.le_trans hle t1, fun e => ?_⟩
      obtain rfl : n = m := by omega
      obtain ⟨y, b, hr, hrest⟩ := hrow rfl
      rw [List.getElem?_eq_getElem (hl ▸ hi)] at hr
      simp only [Option.some.injEq] at hr
      exact ⟨y, b, by rw [h2, (t2 e.symm).1, hr], hrest⟩
  | dead => obtain ⟨rfl, _⟩ := t; trivial
  | box t cs => exact hm.elim
  | map ks vs => exact hm.elim
  | tok e sz v => exact hm.elim
  | yld xs i go => exact hm.elim
/-- A ghost that says where a box or a map lies, or what loop a yield is of, stays (unless a row moves). -/
theorem Evolve.blk {w w' : World} {s s' : S} (h : Evolve w s w' s') (hl : s.Wf) {id b : Nat} (hb : s.g[id]? = some (.blk b)) : s'.g[id]? = some (.blk b) := by
  have hi : id < s.g.length := (List.getElem?_eq_some_iff.1 hb).1
  obtain ⟨o', g', h1, h2, t⟩ := h.objs id (s.st[id]'(hl.len ▸ hi)) (.blk b) (by rw [List.getElem?_eq_getElem]) hb
  have e1 := hl.tok id
  have e2 := hl.arr id
  rw [List.getElem?_eq_getElem (hl.len ▸ hi)] at e1 e2
  generalize s.st[id]'(hl.len ▸ hi) = o at t e1 e2
  cases o with
  | tok e sz m => obtain ⟨x, hx⟩ := e1 e sz m rfl; rw [hx] at hb; cases hb
  | arr e sz m es => obtain ⟨x, hx⟩ := e2 e sz m es rfl; rw [hx] at hb; cases hb
  | dead => obtain ⟨_, rfl⟩ := t; exact h2
  | box t cs => obtain ⟨rfl, _⟩ := t; exact h2
  | map ks vs => obtain ⟨rfl, _⟩ := t; exact h2
  | yld xs i go => obtain ⟨⟨l, F, F', J, Jx, h, _⟩, _⟩ := t; cases h
theorem Evolve.yl {w w' : World} {s s' : S} (h : Evolve w s w' s') (hl : s.Wf) {id l : Nat} {F : Nat → Prop} {J Jx : Nat → (Nat → Prop) → (Nat → Nat → Prop) → World → Prop} (hb : s.g[id]? = some (.yl l F J Jx)) :
    ∃ F', s'.g[id]? = some (.yl l F' J Jx) := by
  have hi : id < s.g.length := (List.getElem?_eq_some_iff.1 hb).1
  obtain ⟨o', g', h1, h2, t⟩ := h.objs id (s.st[id]'(hl.len ▸ hi)) (.yl l F J Jx) (by rw [List.getElem?_eq_getElem]) hb
  have e1 := hl.tok id
  have e2 := hl.arr id
  rw [List.getElem?_eq_getElem (hl.len ▸ hi)] at e1 e2
  generalize s.st[id]'(hl.len ▸ hi) = o at t e1 e2
  cases o with
  | tok e sz m => obtain ⟨x, hx⟩ := e1 e sz m rfl; rw [hx] at hb; cases hb
  | arr e sz m es => obtain ⟨x, hx⟩ := e2 e sz m es rfl; rw [hx] at hb; cases hb
  | dead => obtain ⟨_, rfl⟩ := t; exact ⟨F, h2⟩
  | box t cs => obtain ⟨rfl, _⟩ := t; exact ⟨F, h2⟩
  | map ks vs => obtain ⟨rfl, _⟩ := t; exact ⟨F, h2⟩
  | yld xs i go =>
    obtain ⟨⟨l', F1, F', J', Jx', he, rfl, _⟩, _⟩ := t
    simp only [Gh.yl.injEq] at he
    obtain ⟨rfl, rfl, rfl, rfl⟩ := he
    exact ⟨F', h2⟩
/-- What a value is stays. -/
theorem Rep.evolve {w w' : World} {s s' : S} (h : Evolve w s w' s') (hl : s.Wf) {v : V} {x : Value} (hr : Rep w s v x) : Rep w' s' v x := by
  induction hr with
  | pure v x hp => exact .pure v x (hp.keeps h.keeps)
  | undef x => exact .undef x
  | agg cs xs hl _ ih => exact .agg cs xs hl ih
  | tuple cs xs hl _ ih => exact .tuple cs xs hl ih
  | func fn fs cs xs ys hl hl' _ _ ih ih' => exact .func fn fs cs xs ys hl hl' ih ih'
  | iface t v x _ ih => exact .iface t v x ih
  | tok es id x hp ht => exact .tok es id x (hp.keeps h.keeps) (ht.evolve h hl.len)
  | ref id ver x h1 hr => exact .ref id ver x h1 (hr.evolve h hl.len)
  | ptr id off b hb => exact .ptr id off b (h.blk hl hb)
  | rptr id ver off x h1 hr => exact .rptr id ver off x h1 (hr.evolve h hl.len)
  | map id b hb => exact .map id b (h.blk hl hb)
  | yld id l F J Jx hb => obtain ⟨F', hF⟩ := h.yl hl hb; exact .yld id l F' J Jx hF
theorem Rep.oneCell {w : World} {s : S} {v : V} {x : Value} (h : Rep w s v x) (h1 : v.one = true) : x.oneCell' = true := by
  cases h with
  | pure _ _ hp => exact hp.oneCell h1
  | tok es id x hp _ => exact hp.oneCell rfl
  | ref id ver x h1 _ => exact h1
  | rptr id ver off x h1 _ => exact h1
  | _ => first | rfl | simp [V.one] at h1
end Go.Duo
