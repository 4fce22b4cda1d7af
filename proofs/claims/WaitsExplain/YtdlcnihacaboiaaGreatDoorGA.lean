/-
  A part of the proof.
-/
import Derived.OrdersIn
import Derived.RangeFuncLeaves
import Derived.RangeFuncNested
import Derived.Laws.AppendOwn
import Derived.Laws.AppendOwnNone
import Derived.Laws.Cells
import Derived.Laws.Entries
set_option linter.all false
namespace Go.Duo
open Go
inductive V where
  | undef
  | int (k:IntKind) (n:Int)
  | bool (b:Bool)
  | str (s:List UInt8)
  | agg (cs:List V)
  | tuple (cs:List V)
  | sl (es:List V) (t:Option Nat)
  | nil
  | ref (id ver:Nat)
  | ptr (id off:Nat)
  | dptr (cs:List V)
  | nilptr
  | pmap (ks vs:List V)
  | map (id:Nat)
  | func (fn:Fn) (first captured:List V)
  | nilfunc
  | iface (t:TypeId) (v:V)
  | niliface
  | yld (id:Nat)
  | rptr (id ver off:Nat)
  deriving Inhabited
def V.cells:V → List V
  | .agg cs => cs
  | v => [v]
def V.one:V → Bool
  | .agg _ | .tuple _ | .undef => false
  | _ => true
def flat (es:List V):List V:=es.flatMap V.cells
@[simp] theorem flat_nil:flat [] = []:=rfl
@[simp] theorem flat_cons (e:V) (es:List V):flat (e :: es) = e.cells ++ flat es:=by simp [flat]
theorem flat_append (a b:List V):flat (a ++ b) = flat a ++ flat b:=by simp [flat]
def Cell (w:World) (K:Nat → Nat → Prop) (b o:Nat) (x:Value):Prop:=w.cell? ⟨b,o,none⟩ = some x ∧ K b o
def CellAt (w:World) (K:Nat → Nat → Prop) (a:Option Addr) (j:Nat) (x:Value):Prop:=∃ b o,a = some ⟨b,o,none⟩ ∧ Cell w K b (o + j) x
inductive PR (w:World) (K:Nat → Nat → Prop):V → Value → Prop
  | int (k:IntKind) (n:Int):PR w K (.int k n) (.int k n)
  | bool (b:Bool):PR w K (.bool b) (.bool b)
  | str (s:List UInt8):PR w K (.str s) (.string ⟨s.toArray⟩)
  | agg (cs:List V) (xs:List Value) (hl:cs.length = xs.length) (h:∀ (i:Nat) (c:V) (x:Value),cs[i]? = some c → xs[i]? = some x → PR w K c x):PR w K (.agg cs) (.agg xs.toArray)
  | tuple (cs:List V) (xs:List Value) (hl:cs.length = xs.length) (h:∀ (i:Nat) (c:V) (x:Value),cs[i]? = some c → xs[i]? = some x → PR w K c x):PR w K (.tuple cs) (.tuple xs.toArray)
  | nil (a:Option Addr):PR w K .nil (.slice a 0 0)
  | sl (es:List V) (a:Option Addr) (cap sz:Nat) (x:Nat → Value) (hcap:es.length ≤ cap) (hmax:cap ≤ maxLen) (hsz:∀ e ∈ es,e.cells.length = sz) (h1:∀ c ∈ flat es,c.one = true)
      (hc:∀ (j:Nat) (c:V),(flat es)[j]? = some c → CellAt w K a j (x j)) (h:∀ (j:Nat) (c:V),(flat es)[j]? = some c → PR w K c (x j)):PR w K (.sl es none) (.slice a es.length cap)
  | nilptr:PR w K .nilptr (.pointer none)
  | dptr (cs:List V) (b o:Nat) (x:Nat → Value) (hc:∀ (j:Nat) (c:V),cs[j]? = some c → Cell w K b (o + j) (x j)) (h:∀ (j:Nat) (c:V),cs[j]? = some c → PR w K c (x j)):PR w K (.dptr cs) (.pointer (some ⟨b,o,none⟩))
  | pmap (ks vs:List V) (r:Nat) (es:Array MapEntry) (clock:Nat) (hb:w.heap[r]? = some (.map es clock)) (hK:K r 0) (hk:ks.length = es.size) (hv:vs.length = es.size)
      (h:∀ (i:Nat) (c:V) (e:MapEntry),ks[i]? = some c → es[i]? = some e → PR w K c e.key) (h':∀ (i:Nat) (c:V) (e:MapEntry),vs[i]? = some c → es[i]? = some e → PR w K c e.val):PR w K (.pmap ks vs) (.map (some r))
  | func (fn:Fn) (fs cs:List V) (xs ys:List Value) (hl:fs.length = xs.length) (hl':cs.length = ys.length) (h:∀ (i:Nat) (c:V) (x:Value),fs[i]? = some c → xs[i]? = some x → PR w K c x)
      (h':∀ (i:Nat) (c:V) (x:Value),cs[i]? = some c → ys[i]? = some x → PR w K c x):PR w K (.func fn fs cs) (.func fn xs.toArray ys.toArray)
  | nilfunc:PR w K .nilfunc .nilFunc
  | iface (t:TypeId) (v:V) (x:Value) (h:PR w K v x):PR w K (.iface t v) (.iface t x)
  | niliface:PR w K .niliface .nilIface
def Whole (w:World) (b n:Nat):Prop:=∃ cs t fr,w.heap[b]? = some (.cells cs t fr) ∧ cs.size = n
theorem Whole.same {w w':World} {b n:Nat} (h:Whole w b n) (he:w'.heap[b]? = w.heap[b]?):Whole w' b n:=by
  obtain ⟨cs,t,fr,h1,h2⟩:=h
  exact ⟨cs,t,fr,he.trans h1,h2⟩
theorem Whole.lt {w:World} {b n:Nat} (h:Whole w b n):b < w.heap.size:=by
  obtain ⟨cs,t,fr,h1,h2⟩:=h
  exact (Array.getElem?_eq_some_iff.1 h1).1
structure Keeps (w:World) (K:Nat → Nat → Prop) (w':World) (K':Nat → Nat → Prop):Prop where
  mono:∀ b o,K b o → K' b o
  cell:∀ b o x,K b o → w.cell? ⟨b,o,none⟩ = some x → w'.cell? ⟨b,o,none⟩ = some x
  map:∀ b es clock,K b 0 → w.heap[b]? = some (.map es clock) → w'.heap[b]? = some (.map es clock)
  shape:∀ b o n,K b o → Whole w b n → Whole w' b n
theorem Keeps.refl (w:World) (K:Nat → Nat → Prop):Keeps w K w K:=⟨fun _ _ h => h,fun _ _ _ _ h => h,fun _ _ _ _ h => h,fun _ _ _ _ h => h⟩
theorem Keeps.trans {w w' w'':World} {K K' K'':Nat → Nat → Prop} (h:Keeps w K w' K') (k:Keeps w' K' w'' K''):Keeps w K w'' K'' :=
  ⟨fun b o hb => k.mono b o (h.mono b o hb),fun b o x hb hx => k.cell b o x (h.mono b o hb) (h.cell b o x hb hx),fun b es c hb hx => k.map b es c (h.mono b 0 hb) (h.map b es c hb hx),fun b o n hb hx => k.shape b o n (h.mono b o hb) (h.shape b o n hb hx)⟩
section
variable {w w':World} {K K':Nat → Nat → Prop}
theorem Cell.keeps (hk:Keeps w K w' K') {b o:Nat} {x:Value} (h:Cell w K b o x):Cell w' K' b o x:=⟨hk.cell b o x h.2 h.1,hk.mono b o h.2⟩
theorem CellAt.keeps (hk:Keeps w K w' K') {a:Option Addr} {j:Nat} {x:Value} (h:CellAt w K a j x):CellAt w' K' a j x:=by
  obtain ⟨b,o,ha,hc⟩:=h
  exact ⟨b,o,ha,hc.keeps hk⟩
theorem PR.keeps (hk:Keeps w K w' K') {v:V} {x:Value} (h:PR w K v x):PR w' K' v x:=by
  induction h with
  | int k n => exact .int k n
  | bool b => exact .bool b
  | str s => exact .str s
  | agg cs xs hl _ ih => exact .agg cs xs hl ih
  | tuple cs xs hl _ ih => exact .tuple cs xs hl ih
  | nil a => exact .nil a
  | sl es a cap sz x hcap hmax hsz h1 hc _ ih => exact .sl es a cap sz x hcap hmax hsz h1 (fun j c hj => (hc j c hj).keeps hk) ih
  | nilptr => exact .nilptr
  | dptr cs b o x hc _ ih => exact .dptr cs b o x (fun j c hj => (hc j c hj).keeps hk) ih
  | pmap ks vs r es clock hb hK hkl hvl _ _ ih ih' => exact .pmap ks vs r es clock (hk.map r es clock hK hb) (hk.mono r 0 hK) hkl hvl ih ih'
  | func fn fs cs xs ys hl hl' _ _ ih ih' => exact .func fn fs cs xs ys hl hl' ih ih'
  | nilfunc => exact .nilfunc
  | iface t v x _ ih => exact .iface t v x ih
  | niliface => exact .niliface
theorem PR.oneCell {v:V} {x:Value} (h:PR w K v x) (h1:v.one = true):x.oneCell' = true:=by
  cases h <;> first | rfl | simp [V.one] at h1
end
inductive O where
  | box (t:TypeId) (cs:List V)
  | map (ks vs:List V)
  | tok (e:TypeId) (sz n:Nat)
  | arr (e:TypeId) (sz ver:Nat) (es:List V)
  | yld (xs:List (List V)) (i:Nat) (go:Bool)
  | dead
  deriving Inhabited
inductive Gh where
  | blk (b:Nat)
  | row (x:Value)
  | yl (l:Nat) (F:Nat → Prop) (J Jx:Nat → (Nat → Prop) → (Nat → Nat → Prop) → World → Prop)
def Gh.at:Gh → Option Nat
  | .blk b => some b
  | .row x => x.ownBlock
  | .yl .. => none
structure S where
  K:Nat → Nat → Prop
  g:List Gh
  st:List O
def O.lives:O → Bool
  | .dead | .yld _ _ _ => false
  | _ => true
def S.own (s:S) (i b:Nat):Prop:=∃ o g,s.st[i]? = some o ∧ o.lives = true ∧ s.g[i]? = some g ∧ g.at = some b
def S.mine (s:S) (b:Nat):Prop:=∃ i,s.own i b
def S.foreign (s:S) (b:Nat):Prop:=∃ (i:Nat) (xs:List (List V)) (k l:Nat) (go:Bool) (F:Nat → Prop) (J Jx:Nat → (Nat → Prop) → (Nat → Nat → Prop) → World → Prop),s.st[i]? = some (.yld xs k go) ∧ s.g[i]? = some (.yl l F J Jx) ∧ F b
def O.writes:O → Nat → Prop
  | .tok _ sz n,o => n * sz ≤ o
  | _,_ => True
def TokOK (s:S) (id:Nat) (es:List V) (x:Value):Prop:=∃ o,s.st[id]? = some o ∧ match o with
  | .tok _ sz m => es.length ≤ m ∧ (es.length = m → s.g[id]? = some (.row x) ∨ (m = 0 ∧ ∃ a,x = .slice a 0 0)) ∧ ∀ el ∈ es,el.cells.length = sz
  | .dead => True
  | _ => False
def RefOK (s:S) (id ver:Nat) (x:Value):Prop:=∃ o,s.st[id]? = some o ∧ match o with
  | .arr _ _ v es => ver ≤ v ∧ (ver = v → s.g[id]? = some (.row x) ∨ (es = [] ∧ ∃ a,x = .slice a 0 0))
  | .dead => True
  | _ => False
def RptrOK (s:S) (id ver off:Nat) (x:Value):Prop:=∃ o,s.st[id]? = some o ∧ match o with
  | .arr _ _ v _ => ver ≤ v ∧ (ver = v → ∃ y b,s.g[id]? = some (.row y) ∧ y.ownBlock = some b ∧ x = .pointer (some ⟨b,off,none⟩))
  | .dead => True
  | _ => False
inductive Rep (w:World) (s:S):V → Value → Prop
  | pure (v:V) (x:Value) (h:PR w s.K v x):Rep w s v x
  | undef (x:Value):Rep w s .undef x
  | agg (cs:List V) (xs:List Value) (hl:cs.length = xs.length) (h:∀ (i:Nat) (c:V) (x:Value),cs[i]? = some c → xs[i]? = some x → Rep w s c x):Rep w s (.agg cs) (.agg xs.toArray)
  | tuple (cs:List V) (xs:List Value) (hl:cs.length = xs.length) (h:∀ (i:Nat) (c:V) (x:Value),cs[i]? = some c → xs[i]? = some x → Rep w s c x):Rep w s (.tuple cs) (.tuple xs.toArray)
  | func (fn:Fn) (fs cs:List V) (xs ys:List Value) (hl:fs.length = xs.length) (hl':cs.length = ys.length) (h:∀ (i:Nat) (c:V) (x:Value),fs[i]? = some c → xs[i]? = some x → Rep w s c x)
      (h':∀ (i:Nat) (c:V) (x:Value),cs[i]? = some c → ys[i]? = some x → Rep w s c x):Rep w s (.func fn fs cs) (.func fn xs.toArray ys.toArray)
  | iface (t:TypeId) (v:V) (x:Value) (h:Rep w s v x):Rep w s (.iface t v) (.iface t x)
  | tok (es:List V) (id:Nat) (x:Value) (h:PR w s.K (.sl es none) x) (ht:TokOK s id es x):Rep w s (.sl es (some id)) x
  | ref (id ver:Nat) (x:Value) (h1:x.oneCell' = true) (h:RefOK s id ver x):Rep w s (.ref id ver) x
  | ptr (id off b:Nat) (h:s.g[id]? = some (.blk b)):Rep w s (.ptr id off) (.pointer (some ⟨b,off,none⟩))
  | map (id b:Nat) (h:s.g[id]? = some (.blk b)):Rep w s (.map id) (.map (some b))
  | rptr (id ver off:Nat) (x:Value) (h1:x.oneCell' = true) (h:RptrOK s id ver off x):Rep w s (.rptr id ver off) x
  | yld (id l:Nat) (F:Nat → Prop) (J Jx:Nat → (Nat → Prop) → (Nat → Nat → Prop) → World → Prop) (h:s.g[id]? = some (.yl l F J Jx)):Rep w s (.yld id) (.func (.yield l) #[] #[])
structure S.Wf (s:S):Prop where
  len:s.g.length = s.st.length
  tok:∀ (i:Nat) (e:TypeId) (sz m:Nat),s.st[i]? = some (O.tok e sz m) → ∃ x,s.g[i]? = some (Gh.row x)
  arr:∀ (i:Nat) (e:TypeId) (sz m:Nat) (es:List V),s.st[i]? = some (O.arr e sz m es) → ∃ x,s.g[i]? = some (Gh.row x)
  yld:∀ (i:Nat) (xs:List (List V)) (k:Nat) (go:Bool),s.st[i]? = some (O.yld xs k go) → ∃ (l:Nat) (F:Nat → Prop) (J Jx:Nat → (Nat → Prop) → (Nat → Nat → Prop) → World → Prop),s.g[i]? = some (Gh.yl l F J Jx)
def TR (n:Nat):O → Gh → O → Gh → Prop
  | .box t cs,g,o',g' => g' = g ∧ (o' = .dead ∨ ∃ cs',o' = .box t cs' ∧ cs'.length = cs.length)
  | .map _ _,g,o',g' => g' = g ∧ (o' = .dead ∨ ∃ ks vs,o' = .map ks vs)
  | .tok e sz m,g,o',g' => o' = .dead ∨ ∃ m',o' = .tok e sz m' ∧ m ≤ m' ∧ (m' = m → g' = g) ∧ (∀ b,g'.at = some b → g.at = some b ∨ n ≤ b)
  | .arr e sz v es,g,o',g' => o' = .dead ∨ ∃ v' es',o' = .arr e sz v' es' ∧ v ≤ v' ∧ (v' = v → g' = g ∧ es'.length = es.length) ∧ (∀ b,g'.at = some b → g.at = some b ∨ n ≤ b)
  | .yld xs i _,g,o',g' => (∃ l F F' J Jx,g = .yl l F J Jx ∧ g' = .yl l F' J Jx ∧ ∀ b,F' b → F b ∨ n ≤ b) ∧ (o' = .dead ∨ ∃ i' go',o' = .yld xs i' go' ∧ i ≤ i')
  | .dead,g,o',g' => o' = .dead ∧ g' = g
structure Evolve (w:World) (s:S) (w':World) (s':S):Prop where
  os:w'.os = w.os
  tape:w'.tape = w.tape
  output:w'.output = w.output
  size:w.heap.size ≤ w'.heap.size
  keeps:Keeps w s.K w' s'.K
  knew:∀ b o,s'.K b o → s.K b o ∨ w.heap.size ≤ b ∨ s.mine b ∨ s.foreign b
  block:∀ b,b < w.heap.size → ¬ s.mine b → ¬ s.foreign b → w'.heap[b]? = w.heap[b]?
  len:s.g.length ≤ s'.g.length
  objs:∀ (i:Nat) (o:O) (g:Gh),s.st[i]? = some o → s.g[i]? = some g → ∃ o' g',s'.st[i]? = some o' ∧ s'.g[i]? = some g' ∧ TR w.heap.size o g o' g'
  fresh:∀ (i:Nat) (o:O) (g:Gh) (b:Nat),s.g.length ≤ i → s'.st[i]? = some o → o.lives = true → s'.g[i]? = some g → g.at = some b → w.heap.size ≤ b
  noyld:∀ (i:Nat) (xs:List (List V)) (k:Nat) (go:Bool),s.g.length ≤ i → s'.st[i]? ≠ some (.yld xs k go)
theorem TR.refl (n:Nat) (o:O) (g:Gh) (h:∀ xs i go,o = .yld xs i go → ∃ l F J Jx,g = .yl l F J Jx):TR n o g o g:=by
  cases o with
  | yld xs i go =>
    obtain ⟨l,F,J,Jx,rfl⟩:=h xs i go rfl
    exact ⟨⟨l,F,F,J,Jx,rfl,rfl,fun b hb => .inl hb⟩,.inr ⟨i,go,rfl,Nat.le_refl _⟩⟩
  | tok e sz n => exact .inr ⟨n,rfl,Nat.le_refl _,fun _ => rfl,fun b hb => .inl hb⟩
  | arr e sz v es => exact .inr ⟨v,es,rfl,Nat.le_refl _,fun _ => ⟨rfl,rfl⟩,fun b hb => .inl hb⟩
  | box t cs => exact ⟨rfl,.inr ⟨cs,rfl,rfl⟩⟩
  | map ks vs => exact ⟨rfl,.inr ⟨ks,vs,rfl⟩⟩
  | dead => exact ⟨rfl,rfl⟩
theorem TR.trans {n n':Nat} (hn:n ≤ n') {o o' o'':O} {g g' g'':Gh} (h:TR n o g o' g') (k:TR n' o' g' o'' g''):TR n o g o'' g'':=by
  cases o with
  | dead =>
    obtain ⟨rfl,rfl⟩:=h
    exact k
  | box t cs =>
    obtain ⟨rfl,rfl | ⟨cs',rfl,hl⟩⟩:=h
    · exact ⟨k.2,.inl k.1⟩
    · obtain ⟨rfl,rfl | ⟨cs'',rfl,hl'⟩⟩:=k
      · exact ⟨rfl,.inl rfl⟩
      · exact ⟨rfl,.inr ⟨cs'',rfl,hl'.trans hl⟩⟩
  | map ks vs =>
    obtain ⟨rfl,rfl | ⟨ks',vs',rfl⟩⟩:=h
    · exact ⟨k.2,.inl k.1⟩
    · obtain ⟨rfl,rfl | ⟨ks'',vs'',rfl⟩⟩:=k
      · exact ⟨rfl,.inl rfl⟩
      · exact ⟨rfl,.inr ⟨ks'',vs'',rfl⟩⟩
  | tok e sz m =>
    rcases h with rfl | ⟨m',rfl,h1,h2,h3⟩
    · exact .inl k.1
    · rcases k with rfl | ⟨m'',rfl,k1,k2,k3⟩
      · exact .inl rfl
      · refine .inr ⟨m'',rfl,Nat.le_trans h1 k1,fun e => ?_,fun b hb => ?_⟩
        · obtain rfl:m' = m:=by omega
          exact (k2 e).trans (h2 rfl)
        · rcases k3 b hb with h | h
          · exact h3 b h
          · exact .inr (Nat.le_trans hn h)
  | arr e sz v es =>
    rcases h with rfl | ⟨m',es',rfl,h1,h2,h3⟩
    · exact .inl k.1
    · rcases k with rfl | ⟨m'',es'',rfl,k1,k2,k3⟩
      · exact .inl rfl
      · refine .inr ⟨m'',es'',rfl,Nat.le_trans h1 k1,fun e => ?_,fun b hb => ?_⟩
        · obtain rfl:m' = v:=by omega
          exact ⟨(k2 e).1.trans (h2 rfl).1,(k2 e).2.trans (h2 rfl).2⟩
        · rcases k3 b hb with h | h
          · exact h3 b h
          · exact .inr (Nat.le_trans hn h)
  | yld xs i go =>
    obtain ⟨⟨l,F,F',J,Jx,rfl,rfl,hF⟩,rfl | ⟨i',go',rfl,hi⟩⟩:=h
    · obtain ⟨rfl,rfl⟩:=k
      exact ⟨⟨l,F,F',J,Jx,rfl,rfl,hF⟩,.inl rfl⟩
    · obtain ⟨⟨l',G,G',J',Jx',he,rfl,hG⟩,hk⟩:=k
      simp only [Gh.yl.injEq] at he
      obtain ⟨rfl,rfl,rfl,rfl⟩:=he
      refine ⟨⟨l,F,G',J,Jx,rfl,rfl,fun b hb => ?_⟩, ?_⟩
      · rcases hG b hb with h | h
        · exact hF b h
        · exact .inr (Nat.le_trans hn h)
      · rcases hk with rfl | ⟨i'',go'',rfl,hi'⟩
        · exact .inl rfl
        · exact .inr ⟨i'',go'',rfl,Nat.le_trans hi hi'⟩
theorem TR.live {n:Nat} {o o':O} {g g':Gh} (h:TR n o g o' g') (hl:o'.lives = true):o.lives = true ∧ ∀ b,g'.at = some b → g.at = some b ∨ n ≤ b:=by
  cases o with
  | dead => obtain ⟨rfl,rfl⟩:=h;cases hl
  | box t cs => exact ⟨rfl,fun b hb => by rw [h.1] at hb;exact .inl hb⟩
  | map ks vs => exact ⟨rfl,fun b hb => by rw [h.1] at hb;exact .inl hb⟩
  | tok e sz m =>
    rcases h with rfl | ⟨m',rfl,h1,h2,h3⟩
    · cases hl
    · exact ⟨rfl,h3⟩
  | arr e sz v es =>
    rcases h with rfl | ⟨m',es',rfl,h1,h2,h3⟩
    · cases hl
    · exact ⟨rfl,h3⟩
  | yld xs i go =>
    obtain ⟨_,rfl | ⟨i',go',rfl,_⟩⟩:=h <;> cases hl
theorem Evolve.mine {w w':World} {s s':S} (h:Evolve w s w' s') (hl:s.g.length = s.st.length) {b:Nat} (hb:s'.mine b):s.mine b ∨ w.heap.size ≤ b:=by
  obtain ⟨i,o',g',ho',hlv,hg',hat⟩:=hb
  by_cases hi:i < s.g.length
  · obtain ⟨o1,g1,h1,h2,htr⟩:=h.objs i (s.st[i]'(hl ▸ hi)) (s.g[i]) (by rw [List.getElem?_eq_getElem]) (by rw [List.getElem?_eq_getElem])
    rw [ho'] at h1
    rw [hg'] at h2
    simp only [Option.some.injEq] at h1 h2
    subst h1 h2
    obtain ⟨hlive,hb⟩:=htr.live hlv
    rcases hb b hat with hb | hb
    · exact .inl ⟨i,_,_,by rw [List.getElem?_eq_getElem],hlive,by rw [List.getElem?_eq_getElem],hb⟩
    · exact .inr hb
  · exact .inr (h.fresh i o' g' b (by omega) ho' hlv hg' hat)
theorem Evolve.foreign {w w':World} {s s':S} (h:Evolve w s w' s') (hl:s.g.length = s.st.length) {b:Nat} (hb:s'.foreign b):s.foreign b ∨ w.heap.size ≤ b:=by
  obtain ⟨i,xs,k,l,go,F,J,Jx,ho',hg',hF⟩:=hb
  by_cases hi:i < s.g.length
  · obtain ⟨o1,g1,h1,h2,htr⟩:=h.objs i (s.st[i]'(hl ▸ hi)) (s.g[i]) (by rw [List.getElem?_eq_getElem]) (by rw [List.getElem?_eq_getElem])
    rw [ho'] at h1
    rw [hg'] at h2
    simp only [Option.some.injEq] at h1 h2
    subst h1 h2
    generalize ho:s.st[i]'(hl ▸ hi) = o at htr
    generalize hg:s.g[i] = g at htr
    cases o with
    | dead => cases htr.1
    | box t cs => obtain ⟨_,h | ⟨_,h,_⟩⟩:=htr <;> cases h
    | map ks vs => obtain ⟨_,h | ⟨_,_,h⟩⟩:=htr <;> cases h
    | tok e sz m => rcases htr with h | ⟨_,h,_⟩ <;> cases h
    | arr e sz v es => rcases htr with h | ⟨_,_,h,_⟩ <;> cases h
    | yld xs' i' go' =>
      obtain ⟨⟨l',F1,F2,J',Jx',he,he',hF'⟩,_⟩:=htr
      simp only [Gh.yl.injEq] at he'
      obtain ⟨rfl,rfl,rfl,rfl⟩:=he'
      rcases hF' b hF with h | h
      · exact .inl ⟨i,xs',i',l,go',F1,J,Jx,by rw [List.getElem?_eq_getElem (hl ▸ hi),ho],by rw [List.getElem?_eq_getElem hi,hg,he],h⟩
      · exact .inr h
  · exact absurd ho' (h.noyld i xs k go (by omega))
theorem Evolve.trans {w w' w'':World} {s s' s'':S} (hl:s.g.length = s.st.length) (hl':s'.g.length = s'.st.length) (h:Evolve w s w' s') (k:Evolve w' s' w'' s''):Evolve w s w'' s'' where
  os:=k.os.trans h.os
  tape:=k.tape.trans h.tape
  output:=k.output.trans h.output
  size:=Nat.le_trans h.size k.size
  keeps:=h.keeps.trans k.keeps
  knew:=fun b o hb => by
    rcases k.knew b o hb with hb | hb | hb | hb
    · exact h.knew b o hb
    · exact .inr (.inl (Nat.le_trans h.size hb))
    · rcases h.mine hl hb with hb | hb
      · exact .inr (.inr (.inl hb))
      · exact .inr (.inl hb)
    · rcases h.foreign hl hb with hb | hb
      · exact .inr (.inr (.inr hb))
      · exact .inr (.inl hb)
  block:=fun b hb hm hf => by
    rw [k.block b (Nat.lt_of_lt_of_le hb h.size) (fun hm' => (h.mine hl hm').elim hm (fun hh => by omega)) (fun hf' => (h.foreign hl hf').elim hf (fun hh => by omega))]
    exact h.block b hb hm hf
  len:=Nat.le_trans h.len k.len
  objs:=fun i o g ho hg => by
    obtain ⟨o1,g1,h1,h2,t1⟩:=h.objs i o g ho hg
    obtain ⟨o2,g2,h3,h4,t2⟩:=k.objs i o1 g1 h1 h2
    exact ⟨o2,g2,h3,h4,t1.trans h.size t2⟩
  fresh:=fun i o g b hi ho hlv hg hat => by
    by_cases hi':i < s'.g.length
    · obtain ⟨o2,g2,h3,h4,t2⟩:=k.objs i (s'.st[i]'(hl' ▸ hi')) (s'.g[i]) (by rw [List.getElem?_eq_getElem]) (by rw [List.getElem?_eq_getElem])
      rw [ho] at h3
      rw [hg] at h4
      simp only [Option.some.injEq] at h3 h4
      subst h3 h4
      obtain ⟨hlive,hb⟩:=t2.live hlv
      rcases hb b hat with hb | hb
      · exact h.fresh i _ _ b hi (by rw [List.getElem?_eq_getElem]) hlive (by rw [List.getElem?_eq_getElem]) hb
      · exact Nat.le_trans h.size hb
    · exact Nat.le_trans h.size (k.fresh i o g b (by omega) ho hlv hg hat)
  noyld:=fun i xs n go hi ho => by
    by_cases hi':i < s'.g.length
    · obtain ⟨o2,g2,h3,h4,t2⟩:=k.objs i (s'.st[i]'(hl' ▸ hi')) (s'.g[i]) (by rw [List.getElem?_eq_getElem]) (by rw [List.getElem?_eq_getElem])
      rw [ho] at h3
      simp only [Option.some.injEq] at h3
      subst h3
      have hn:=fun xs k go => h.noyld i xs k go hi
      rw [List.getElem?_eq_getElem (hl' ▸ hi')] at hn
      generalize s'.st[i]'(hl' ▸ hi') = o at t2 hn
      cases o with
      | dead => cases t2.1
      | box t cs => obtain ⟨_,h | ⟨_,h,_⟩⟩:=t2 <;> cases h
      | map ks vs => obtain ⟨_,h | ⟨_,_,h⟩⟩:=t2 <;> cases h
      | tok e sz m => rcases t2 with h | ⟨_,h,_⟩ <;> cases h
      | arr e sz v es => rcases t2 with h | ⟨_,_,h,_⟩ <;> cases h
      | yld xs' i' go' => exact hn xs' i' go' rfl
    · exact k.noyld i xs n go (by omega) ho
theorem TokOK.evolve {w w':World} {s s':S} (h:Evolve w s w' s') (hl:s.g.length = s.st.length) {id:Nat} {es:List V} {x:Value} (ht:TokOK s id es x):TokOK s' id es x:=by
  obtain ⟨o,ho,hm⟩:=ht
  have hi:id < s.st.length:=(List.getElem?_eq_some_iff.1 ho).1
  obtain ⟨o',g',h1,h2,t⟩:=h.objs id o (s.g[id]'(hl ▸ hi)) ho (by rw [List.getElem?_eq_getElem])
  refine ⟨o',h1, ?_⟩
  cases o with
  | tok e sz m =>
    obtain ⟨hle,hrow,hcl⟩:=hm
    rcases t with rfl | ⟨m',rfl,t1,t2,t3⟩
    · trivial
    · refine ⟨Nat.le_trans hle t1,fun e => ?_,hcl⟩
      obtain rfl:es.length = m:=by omega
      rcases hrow rfl with hr | ⟨h0,hr⟩
      · rw [List.getElem?_eq_getElem (hl ▸ hi)] at hr
        simp only [Option.some.injEq] at hr
        exact .inl (by rw [h2,t2 e.symm,hr])
      · exact .inr ⟨by omega,hr⟩
  | dead => obtain ⟨rfl,_⟩:=t;trivial
  | box t cs => exact hm.elim
  | map ks vs => exact hm.elim
  | arr e sz v es => exact hm.elim
  | yld xs i go => exact hm.elim
theorem RefOK.evolve {w w':World} {s s':S} (h:Evolve w s w' s') (hl:s.g.length = s.st.length) {id n:Nat} {x:Value} (ht:RefOK s id n x):RefOK s' id n x:=by
  obtain ⟨o,ho,hm⟩:=ht
  have hi:id < s.st.length:=(List.getElem?_eq_some_iff.1 ho).1
  obtain ⟨o',g',h1,h2,t⟩:=h.objs id o (s.g[id]'(hl ▸ hi)) ho (by rw [List.getElem?_eq_getElem])
  refine ⟨o',h1, ?_⟩
  cases o with
  | arr e sz m es =>
    obtain ⟨hle,hrow⟩:=hm
    rcases t with rfl | ⟨m',es',rfl,t1,t2,t3⟩
    · trivial
    · refine ⟨Nat.le_trans hle t1,fun e => ?_⟩
      obtain rfl:n = m:=by omega
      rcases hrow rfl with hr | ⟨rfl,hr⟩
      · rw [List.getElem?_eq_getElem (hl ▸ hi)] at hr
        simp only [Option.some.injEq] at hr
        exact .inl (by rw [h2,(t2 e.symm).1,hr])
      · exact .inr ⟨List.eq_nil_of_length_eq_zero (t2 e.symm).2,hr⟩
  | dead => obtain ⟨rfl,_⟩:=t;trivial
  | box t cs => exact hm.elim
  | map ks vs => exact hm.elim
  | tok e sz v => exact hm.elim
  | yld xs i go => exact hm.elim
theorem RptrOK.evolve {w w':World} {s s':S} (h:Evolve w s w' s') (hl:s.g.length = s.st.length) {id n off:Nat} {x:Value} (ht:RptrOK s id n off x):RptrOK s' id n off x:=by
  obtain ⟨o,ho,hm⟩:=ht
  have hi:id < s.st.length:=(List.getElem?_eq_some_iff.1 ho).1
  obtain ⟨o',g',h1,h2,t⟩:=h.objs id o (s.g[id]'(hl ▸ hi)) ho (by rw [List.getElem?_eq_getElem])
  refine ⟨o',h1, ?_⟩
  cases o with
  | arr e sz m es =>
    obtain ⟨hle,hrow⟩:=hm
    rcases t with rfl | ⟨m',es',rfl,t1,t2,t3⟩
    · trivial
    · refine ⟨Nat.le_trans hle t1,fun e => ?_⟩
      obtain rfl:n = m:=by omega
      obtain ⟨y,b,hr,hrest⟩:=hrow rfl
      rw [List.getElem?_eq_getElem (hl ▸ hi)] at hr
      simp only [Option.some.injEq] at hr
      exact ⟨y,b,by rw [h2,(t2 e.symm).1,hr],hrest⟩
  | dead => obtain ⟨rfl,_⟩:=t;trivial
  | box t cs => exact hm.elim
  | map ks vs => exact hm.elim
  | tok e sz v => exact hm.elim
  | yld xs i go => exact hm.elim
theorem Evolve.blk {w w':World} {s s':S} (h:Evolve w s w' s') (hl:s.Wf) {id b:Nat} (hb:s.g[id]? = some (.blk b)):s'.g[id]? = some (.blk b):=by
  have hi:id < s.g.length:=(List.getElem?_eq_some_iff.1 hb).1
  obtain ⟨o',g',h1,h2,t⟩:=h.objs id (s.st[id]'(hl.len ▸ hi)) (.blk b) (by rw [List.getElem?_eq_getElem]) hb
  have e1:=hl.tok id
  have e2:=hl.arr id
  rw [List.getElem?_eq_getElem (hl.len ▸ hi)] at e1 e2
  generalize s.st[id]'(hl.len ▸ hi) = o at t e1 e2
  cases o with
  | tok e sz m => obtain ⟨x,hx⟩:=e1 e sz m rfl;rw [hx] at hb;cases hb
  | arr e sz m es => obtain ⟨x,hx⟩:=e2 e sz m es rfl;rw [hx] at hb;cases hb
  | dead => obtain ⟨_,rfl⟩:=t;exact h2
  | box t cs => obtain ⟨rfl,_⟩:=t;exact h2
  | map ks vs => obtain ⟨rfl,_⟩:=t;exact h2
  | yld xs i go => obtain ⟨⟨l,F,F',J,Jx,h,_⟩,_⟩:=t;cases h
theorem Evolve.yl {w w':World} {s s':S} (h:Evolve w s w' s') (hl:s.Wf) {id l:Nat} {F:Nat → Prop} {J Jx:Nat → (Nat → Prop) → (Nat → Nat → Prop) → World → Prop} (hb:s.g[id]? = some (.yl l F J Jx)) :
    ∃ F',s'.g[id]? = some (.yl l F' J Jx):=by
  have hi:id < s.g.length:=(List.getElem?_eq_some_iff.1 hb).1
  obtain ⟨o',g',h1,h2,t⟩:=h.objs id (s.st[id]'(hl.len ▸ hi)) (.yl l F J Jx) (by rw [List.getElem?_eq_getElem]) hb
  have e1:=hl.tok id
  have e2:=hl.arr id
  rw [List.getElem?_eq_getElem (hl.len ▸ hi)] at e1 e2
  generalize s.st[id]'(hl.len ▸ hi) = o at t e1 e2
  cases o with
  | tok e sz m => obtain ⟨x,hx⟩:=e1 e sz m rfl;rw [hx] at hb;cases hb
  | arr e sz m es => obtain ⟨x,hx⟩:=e2 e sz m es rfl;rw [hx] at hb;cases hb
  | dead => obtain ⟨_,rfl⟩:=t;exact ⟨F,h2⟩
  | box t cs => obtain ⟨rfl,_⟩:=t;exact ⟨F,h2⟩
  | map ks vs => obtain ⟨rfl,_⟩:=t;exact ⟨F,h2⟩
  | yld xs i go =>
    obtain ⟨⟨l',F1,F',J',Jx',he,rfl,_⟩,_⟩:=t
    simp only [Gh.yl.injEq] at he
    obtain ⟨rfl,rfl,rfl,rfl⟩:=he
    exact ⟨F',h2⟩
theorem Rep.evolve {w w':World} {s s':S} (h:Evolve w s w' s') (hl:s.Wf) {v:V} {x:Value} (hr:Rep w s v x):Rep w' s' v x:=by
  induction hr with
  | pure v x hp => exact .pure v x (hp.keeps h.keeps)
  | undef x => exact .undef x
  | agg cs xs hl _ ih => exact .agg cs xs hl ih
  | tuple cs xs hl _ ih => exact .tuple cs xs hl ih
  | func fn fs cs xs ys hl hl' _ _ ih ih' => exact .func fn fs cs xs ys hl hl' ih ih'
  | iface t v x _ ih => exact .iface t v x ih
  | tok es id x hp ht => exact .tok es id x (hp.keeps h.keeps) (ht.evolve h hl.len)
  | ref id ver x h1 hr => exact .ref id ver x h1 (hr.evolve h hl.len)
  | ptr id off b hb => exact .ptr id off b (h.blk hl hb)
  | rptr id ver off x h1 hr => exact .rptr id ver off x h1 (hr.evolve h hl.len)
  | map id b hb => exact .map id b (h.blk hl hb)
  | yld id l F J Jx hb => obtain ⟨F',hF⟩:=h.yl hl hb;exact .yld id l F' J Jx hF
theorem Rep.oneCell {w:World} {s:S} {v:V} {x:Value} (h:Rep w s v x) (h1:v.one = true):x.oneCell' = true:=by
  cases h with
  | pure _ _ hp => exact hp.oneCell h1
  | tok es id x hp _ => exact hp.oneCell rfl
  | ref id ver x h1 _ => exact h1
  | rptr id ver off x h1 _ => exact h1
  | _ => first | rfl | simp [V.one] at h1
end Go.Duo

namespace Go.Duo
open Go
variable {P:Program} {gl:Nat → V}
structure YEv (F:Nat → Prop) (K:Nat → Nat → Prop) (w:World) (F':Nat → Prop) (K':Nat → Nat → Prop) (w':World):Prop where
  os:w'.os = w.os
  tape:w'.tape = w.tape
  output:w'.output = w.output
  size:w.heap.size ≤ w'.heap.size
  keeps:Keeps w K w' K'
  knew:∀ b o,K' b o → K b o ∨ w.heap.size ≤ b ∨ F b
  kin:∀ b o,K' b o → b < w'.heap.size
  block:∀ b,b < w.heap.size → ¬ F b → w'.heap[b]? = w.heap[b]?
  fnew:∀ b,F' b → (F b ∨ w.heap.size ≤ b) ∧ b < w'.heap.size
structure YC (P:Program) (xs:List (List V)) (l:Nat) (J Jx:Nat → (Nat → Prop) → (Nat → Nat → Prop) → World → Prop):Prop where
  stable:∀ (i:Nat) (go:Bool) (F:Nat → Prop) (K K':Nat → Nat → Prop) (w w':World),(if go then J else Jx) i F K w → (∀ b,F b → w'.heap[b]? = w.heap[b]?) → w'.os = w.os → w'.tape = w.tape → w'.output = w.output →
    w.heap.size ≤ w'.heap.size → Keeps w K w' K' → (∀ b o,K' b o → K b o ∨ (l < b ∧ ¬ F b)) → (∀ b,b ≤ l → w'.heap[b]? = w.heap[b]?) → (∀ b o,K' b o → b < w'.heap.size) → (if go then J else Jx) i F K' w'
  call:∀ (i:Nat) (F:Nat → Prop) (K:Nat → Nat → Prop) (w:World) (x:List V) (args:List Value),J i F K w → xs[i]? = some x → x.length = args.length → (∀ (j:Nat) (c:V) (a:Value),x[j]? = some c → args[j]? = some a → PR w K c a) →
    (∀ b o,K b o → b < w.heap.size) →
    YieldAt Fence.wide 0 P l args.toArray w fun e w' => ∃ (F':Nat → Prop) (K':Nat → Nat → Prop) (c:Bool),e = .returned (.bool c) ∧ (if c then J else Jx) (i + 1) F' K' w' ∧ YEv F K w F' K' w'
def ObjOK (P:Program) (w:World) (s:S):O → Gh → Prop
  | .box t cs,.blk b => ∃ arr:Array Value,w.heap[b]? = some (.cells arr t (0,0)) ∧ arr.size = cs.length ∧ ∀ (i:Nat) (c:V) (x:Value),cs[i]? = some c → arr[i]? = some x → Rep w s c x
  | .map ks vs,.blk b => ∃ (es:Array MapEntry) (clock:Nat),w.heap[b]? = some (.map es clock) ∧ ks.length = es.size ∧ vs.length = es.size ∧
      (∀ (i:Nat) (c:V) (e:MapEntry),ks[i]? = some c → es[i]? = some e → PR w s.K c e.key) ∧ (∀ (i:Nat) (c:V) (e:MapEntry),vs[i]? = some c → es[i]? = some e → Rep w s c e.val)
  | .tok e sz n,.row x => ∃ xs,w.ownsRow 0 e sz x n xs
  | .arr e sz _ es,.row x => ∃ xs,w.ownsRow 0 e sz x es.length xs ∧ (∀ el ∈ es,el.cells.length = sz) ∧ (∀ c ∈ flat es,c.one = true) ∧ xs.length = (flat es).length ∧ ∀ (j:Nat) (c:V) (y:Value),(flat es)[j]? = some c → xs[j]? = some y → PR w s.K c y
  | .yld xs i go,.yl l F J Jx => (if go then J else Jx) i F s.K w ∧ YC P xs l J Jx ∧ l < w.heap.size ∧ ∀ b,s.mine b → l < b
  | .dead,_ => True
  | _,_ => False
def V.dlen:V → Nat
  | .dptr cs => cs.length
  | _ => 0
theorem globKeeps {gl:Nat → V} {w w':World} {K K':Nat → Nat → Prop} {g:Nat} (hk:Keeps w K w' K') (h:PR w K (gl g) (.pointer (some ⟨g,0,none⟩)) ∧ K g 0 ∧ Whole w g (gl g).dlen):PR w' K' (gl g) (.pointer (some ⟨g,0,none⟩)) ∧ K' g 0 ∧ Whole w' g (gl g).dlen :=
  ⟨h.1.keeps hk,hk.mono g 0 h.2.1,hk.shape g 0 _ h.2.1 h.2.2⟩
structure Sim (P:Program) (gl:Nat → V) (w:World) (s:S):Prop where
  len:s.g.length = s.st.length
  obj:∀ (i:Nat) (o:O) (g:Gh),s.st[i]? = some o → s.g[i]? = some g → ObjOK P w s o g
  inj:∀ (i j b:Nat),s.own i b → s.own j b → i = j
  kout:∀ (i b o:Nat) (ob:O),s.own i b → s.st[i]? = some ob → ob.writes o → ¬ s.K b o
  kin:∀ b o,s.K b o → b < w.heap.size
  fgn:∀ b,s.foreign b → b < w.heap.size ∧ ¬ s.mine b
  glob:∀ g,gl g = .undef ∨ (PR w s.K (gl g) (.pointer (some ⟨g,0,none⟩)) ∧ s.K g 0 ∧ Whole w g (gl g).dlen)
theorem Sim.wf {w:World} {s:S} (h:Sim P gl w s):s.Wf where
  len:=h.len
  tok:=fun i e sz m hi => by
    have hl:i < s.g.length:=h.len ▸ (List.getElem?_eq_some_iff.1 hi).1
    have:=h.obj i _ (s.g[i]) hi (by rw [List.getElem?_eq_getElem])
    rw [List.getElem?_eq_getElem hl]
    cases hg:s.g[i] <;> rw [hg] at this <;> simp only [ObjOK] at this
    exact ⟨_,rfl⟩
  arr:=fun i e sz m es hi => by
    have hl:i < s.g.length:=h.len ▸ (List.getElem?_eq_some_iff.1 hi).1
    have:=h.obj i _ (s.g[i]) hi (by rw [List.getElem?_eq_getElem])
    rw [List.getElem?_eq_getElem hl]
    cases hg:s.g[i] <;> rw [hg] at this <;> simp only [ObjOK] at this
    exact ⟨_,rfl⟩
  yld:=fun i xs k go hi => by
    have hl:i < s.g.length:=h.len ▸ (List.getElem?_eq_some_iff.1 hi).1
    have:=h.obj i _ (s.g[i]) hi (by rw [List.getElem?_eq_getElem])
    rw [List.getElem?_eq_getElem hl]
    cases hg:s.g[i] <;> rw [hg] at this <;> simp only [ObjOK] at this
    exact ⟨_,_,_,_,rfl⟩
theorem Sim.mine_lt {w:World} {s:S} (h:Sim P gl w s) {b:Nat} (hb:s.mine b):b < w.heap.size:=by
  obtain ⟨i,o,g,ho,hl,hg,hat⟩:=hb
  have hk:=h.obj i o g ho hg
  cases o <;> cases g <;> simp only [ObjOK,O.lives,Bool.false_eq_true] at hk hl
  · simp only [Gh.at,Option.some.injEq] at hat
    subst hat
    obtain ⟨arr,ha,_⟩:=hk
    exact (Array.getElem?_eq_some_iff.1 ha).1
  · simp only [Gh.at,Option.some.injEq] at hat
    subst hat
    obtain ⟨es,c,ha,_⟩:=hk
    exact (Array.getElem?_eq_some_iff.1 ha).1
  · obtain ⟨xs,hr⟩:=hk
    exact (hr.lt b hat).2
  · obtain ⟨xs,hr,_⟩:=hk
    exact (hr.lt b hat).2
theorem ObjOK.keep {w w':World} {s s':S} (hE:Evolve w s w' s') (hw:s.Wf) {o:O} {g:Gh} (hb:o.lives = true → ∀ b,g.at = some b → w'.heap[b]? = w.heap[b]?)
    (hF:∀ l F J Jx xs i go,g = .yl l F J Jx → o = .yld xs i go → (∀ b,F b → w'.heap[b]? = w.heap[b]?) ∧ (∀ b o,s'.K b o → s.K b o ∨ (l < b ∧ ¬ F b)) ∧ (∀ b,b ≤ l → w'.heap[b]? = w.heap[b]?) ∧ (∀ b o,s'.K b o → b < w'.heap.size)) (h:ObjOK P w s o g):ObjOK P w' s' o g:=by
  cases o <;> cases g <;> simp only [ObjOK] at h ⊢
  · obtain ⟨arr,ha,hl,hr⟩:=h
    exact ⟨arr,(hb rfl _ rfl).trans ha,hl,fun i c x hc hx => (hr i c x hc hx).evolve hE hw⟩
  · obtain ⟨es,clock,ha,hk,hv,h1,h2⟩:=h
    exact ⟨es,clock,(hb rfl _ rfl).trans ha,hk,hv,fun i c e hc he => (h1 i c e hc he).keeps hE.keeps,fun i c e hc he => (h2 i c e hc he).evolve hE hw⟩
  · obtain ⟨xs,h1,h2⟩:=h
    refine ⟨xs,h1, ?_⟩
    rcases h2 with h2 | ⟨g,cap,cur,rfl,h3,h4,h5⟩
    · exact .inl h2
    · exact .inr ⟨g,cap,cur,rfl,h3,(hb rfl g rfl).trans h4,h5⟩
  · obtain ⟨xs,⟨h1,h2⟩,h6,h7,h8,h9⟩:=h
    refine ⟨xs,⟨h1, ?_⟩,h6,h7,h8,fun j c y hc hy => (h9 j c y hc hy).keeps hE.keeps⟩
    rcases h2 with h2 | ⟨g,cap,cur,rfl,h3,h4,h5⟩
    · exact .inl h2
    · exact .inr ⟨g,cap,cur,rfl,h3,(hb rfl g rfl).trans h4,h5⟩
  · obtain ⟨h1,h2,hl,hm⟩:=h
    obtain ⟨h3,h4,h5,h6⟩:=hF _ _ _ _ _ _ _ rfl rfl
    refine ⟨h2.stable _ _ _ _ _ _ _ h1 h3 hE.os hE.tape hE.output hE.size hE.keeps h4 h5 h6,h2,Nat.lt_of_lt_of_le hl hE.size,fun b hb => ?_⟩
    rcases hE.mine hw.len hb with hb | hb
    · exact hm b hb
    · omega
theorem Evolve.refl {w:World} {s:S} (h:s.Wf):Evolve w s w s where
  os:=rfl
  tape:=rfl
  output:=rfl
  size:=Nat.le_refl _
  keeps:=Keeps.refl _ _
  knew:=fun _ _ h => .inl h
  block:=fun _ _ _ _ => rfl
  len:=Nat.le_refl _
  objs:=fun i o g ho hg => ⟨o,g,ho,hg,TR.refl _ o g (fun xs k go he => by
    subst he
    obtain ⟨l,F,J,Jx,hh⟩:=h.yld i xs k go ho
    rw [hg] at hh
    simp only [Option.some.injEq] at hh
    exact ⟨l,F,J,Jx,hh⟩)⟩
  fresh:=fun i o g b hi _ _ hg _ => by
    have:=(List.getElem?_eq_some_iff.1 hg).1
    omega
  noyld:=fun i xs k go hi ho => by
    have:=(List.getElem?_eq_some_iff.1 ho).1
    have:=h.len
    omega
theorem Evolve.drawn {w:World} {s:S} (h:s.Wf) (n:Nat):Evolve w s { w with drawn:=n } s where
  os:=rfl
  tape:=rfl
  output:=rfl
  size:=Nat.le_refl _
  keeps:=⟨fun _ _ h => h,fun _ _ _ _ h => h,fun _ _ _ _ h => h,fun _ _ _ _ h => h⟩
  knew:=fun _ _ h => .inl h
  block:=fun _ _ _ _ => rfl
  len:=Nat.le_refl _
  objs:=(Evolve.refl (w:=w) h).objs
  fresh:=(Evolve.refl (w:=w) h).fresh
  noyld:=(Evolve.refl (w:=w) h).noyld
theorem Sim.drawn {w:World} {s:S} (h:Sim P gl w s) (n:Nat):Sim P gl { w with drawn:=n } s where
  len:=h.len
  obj:=fun i o g ho hg => (h.obj i o g ho hg).keep (Evolve.drawn h.wf n) h.wf (fun _ _ _ => rfl) (fun _ _ _ _ _ _ _ _ _ => ⟨fun _ _ => rfl,fun _ _ hk => .inl hk,fun _ _ => rfl,h.kin⟩)
  inj:=h.inj
  kout:=h.kout
  kin:=h.kin
  fgn:=h.fgn
  glob:=fun g => (h.glob g).imp id (fun k => globKeeps (Evolve.drawn h.wf n).keeps k)
def S.push (s:S) (o:O) (g:Gh):S:={ s with g:=s.g ++ [g],st:=s.st ++ [o] }
section
variable {w w':World} {s:S}
theorem getElem?_snoc {α:Type} {l:List α} {a x:α} {i:Nat} (h:(l ++ [a])[i]? = some x):l[i]? = some x ∨ (i = l.length ∧ x = a):=by
  rcases Nat.lt_trichotomy i l.length with hi | hi | hi
  · rw [List.getElem?_append_left hi] at h
    exact .inl h
  · subst hi
    simp at h
    exact .inr ⟨rfl,h.symm⟩
  · rw [List.getElem?_eq_none (by simp;omega)] at h
    cases h
theorem Evolve.push (hs:s.Wf) {s1:S} (h:Evolve w s w' s1) (o:O) (g:Gh) (hat:o.lives = true → ∀ b,g.at = some b → w.heap.size ≤ b) (hy:∀ xs k go,o ≠ .yld xs k go) (hl1:s1.g.length = s.g.length:=by rfl) (hl2:s1.st.length = s.st.length:=by rfl):Evolve w s w' (s1.push o g) where
  os:=h.os
  tape:=h.tape
  output:=h.output
  size:=h.size
  keeps:=h.keeps
  knew:=h.knew
  block:=h.block
  len:=by simp [S.push];omega
  objs:=fun i o' g' ho hg => by
    obtain ⟨o1,g1,h1,h2,t⟩:=h.objs i o' g' ho hg
    exact ⟨o1,g1,by simp only [S.push];rw [List.getElem?_append_left (List.getElem?_eq_some_iff.1 h1).1];exact h1,by simp only [S.push];rw [List.getElem?_append_left (List.getElem?_eq_some_iff.1 h2).1];exact h2,t⟩
  fresh:=fun i o' g' b hi ho hl hg hb => by
    simp only [S.push] at ho hg
    rcases getElem?_snoc hg with hg | ⟨rfl,rfl⟩
    · have:=(List.getElem?_eq_some_iff.1 hg).1
      omega
    · rcases getElem?_snoc ho with ho | ⟨_,rfl⟩
      · have:=(List.getElem?_eq_some_iff.1 ho).1
        have:=hs.len
        omega
      · exact hat hl b hb
  noyld:=fun i xs k go hi ho => by
    simp only [S.push] at ho
    rcases getElem?_snoc ho with ho | ⟨_,he⟩
    · have:=(List.getElem?_eq_some_iff.1 ho).1
      have:=hs.len
      omega
    · exact hy xs k go he.symm
theorem own_push {o:O} {g:Gh} {i b:Nat} (hl:s.g.length = s.st.length) (h:(s.push o g).own i b):s.own i b ∨ (i = s.st.length ∧ o.lives = true ∧ g.at = some b):=by
  obtain ⟨o',g',ho,hlv,hg,hat⟩:=h
  simp only [S.push] at ho hg
  rcases getElem?_snoc ho with ho | ⟨rfl,rfl⟩
  · rcases getElem?_snoc hg with hg | ⟨rfl,rfl⟩
    · exact .inl ⟨o',g',ho,hlv,hg,hat⟩
    · have:=(List.getElem?_eq_some_iff.1 ho).1
      omega
  · rcases getElem?_snoc hg with hg | ⟨_,rfl⟩
    · have:=(List.getElem?_eq_some_iff.1 hg).1
      omega
    · exact .inr ⟨rfl,hlv,hat⟩
theorem foreign_push {o:O} {g:Gh} {b:Nat} (hl:s.g.length = s.st.length) (hy:∀ xs k go,o ≠ .yld xs k go) (h:(s.push o g).foreign b):s.foreign b:=by
  obtain ⟨i,xs,k,l,go,F,J,Jx,ho,hg,hF⟩:=h
  simp only [S.push] at ho hg
  rcases getElem?_snoc ho with ho | ⟨rfl,he⟩
  · rcases getElem?_snoc hg with hg | ⟨rfl,rfl⟩
    · exact ⟨i,xs,k,l,go,F,J,Jx,ho,hg,hF⟩
    · have:=(List.getElem?_eq_some_iff.1 ho).1
      omega
  · exact absurd he.symm (hy xs k go)
theorem push_st {o:O} {g:Gh} {i:Nat} {x:O} (h:s.st[i]? = some x):(s.push o g).st[i]? = some x:=by
  simp only [S.push]
  rw [List.getElem?_append_left (List.getElem?_eq_some_iff.1 h).1]
  exact h
theorem push_g {o:O} {g:Gh} {i:Nat} {x:Gh} (h:s.g[i]? = some x):(s.push o g).g[i]? = some x:=by
  simp only [S.push]
  rw [List.getElem?_append_left (List.getElem?_eq_some_iff.1 h).1]
  exact h
theorem Rep.push {o:O} {g:Gh} {v:V} {x:Value} (h:Rep w s v x):Rep w (s.push o g) v x:=by
  induction h with
  | pure v x hp => exact .pure v x hp
  | undef x => exact .undef x
  | agg cs xs hl _ ih => exact .agg cs xs hl ih
  | tuple cs xs hl _ ih => exact .tuple cs xs hl ih
  | func fn fs cs xs ys hl hl' _ _ ih ih' => exact .func fn fs cs xs ys hl hl' ih ih'
  | iface t v x _ ih => exact .iface t v x ih
  | tok es id x hp ht =>
    obtain ⟨o',ho,hm⟩:=ht
    refine .tok es id x hp ⟨o',push_st ho, ?_⟩
    cases o' <;> first | exact hm | exact ⟨hm.1,fun e => (hm.2.1 e).imp push_g (fun h => h),hm.2.2⟩
  | ref id ver x h1 hr =>
    obtain ⟨o',ho,hm⟩:=hr
    refine .ref id ver x h1 ⟨o',push_st ho, ?_⟩
    cases o' <;> first | exact hm | exact ⟨hm.1,fun e => (hm.2 e).imp push_g (fun h => h)⟩
  | rptr id ver off x h1 hr =>
    obtain ⟨o',ho,hm⟩:=hr
    refine .rptr id ver off x h1 ⟨o',push_st ho, ?_⟩
    cases o' <;> first | exact hm | exact ⟨hm.1,fun e => let ⟨y,b,h1,h2⟩:=hm.2 e;⟨y,b,push_g h1,h2⟩⟩
  | ptr id off b hb => exact .ptr id off b (push_g hb)
  | map id b hb => exact .map id b (push_g hb)
  | yld id l F J Jx hb => exact .yld id l F J Jx (push_g hb)
theorem ObjOK.push {o o':O} {g g':Gh} (hl:s.g.length = s.st.length) (hm:∀ l F J Jx,g' = .yl l F J Jx → (∃ xs k go,o' = .yld xs k go) → ∀ b,o.lives = true → g.at = some b → l < b) (h:ObjOK P w s o' g'):ObjOK P w (s.push o g) o' g':=by
  cases o' <;> cases g' <;> simp only [ObjOK] at h ⊢ <;> try exact h
  · obtain ⟨arr,h1,h2,h3⟩:=h
    exact ⟨arr,h1,h2,fun i c x hc hx => (h3 i c x hc hx).push⟩
  · obtain ⟨es,clock,h1,h2,h3,h4,h5⟩:=h
    exact ⟨es,clock,h1,h2,h3,h4,fun i c e hc he => (h5 i c e hc he).push⟩
  · obtain ⟨h1,h2,h3,h4⟩:=h
    refine ⟨h1,h2,h3,fun b hb => ?_⟩
    obtain ⟨i,hi⟩:=hb
    rcases own_push hl hi with hi | ⟨_,h5,h6⟩
    · exact h4 b ⟨i,hi⟩
    · exact hm _ _ _ _ rfl ⟨_,_,_,rfl⟩ b h5 h6
def S.late (s:S) (b:Nat):Prop:=∀ (i:Nat) (xs:List (List V)) (k l:Nat) (go:Bool) (F:Nat → Prop) (J Jx:Nat → (Nat → Prop) → (Nat → Nat → Prop) → World → Prop),s.st[i]? = some (.yld xs k go) → s.g[i]? = some (.yl l F J Jx) → l < b
theorem Sim.late (h:Sim P gl w s) {b:Nat} (hb:w.heap.size ≤ b):s.late b:=fun i xs k l go F J Jx ho hg => by
  have:=h.obj i _ _ ho hg
  simp only [ObjOK] at this
  omega
theorem S.late.evolve {w w':World} {s s':S} (hE:Evolve w s w' s') (hl:s.g.length = s.st.length) {b:Nat} (h:s.late b):s'.late b:=fun i xs k l go F J Jx ho hg => by
  by_cases hi:i < s.g.length
  · obtain ⟨o1,g1,h1,h2,htr⟩:=hE.objs i (s.st[i]'(hl ▸ hi)) (s.g[i]) (by rw [List.getElem?_eq_getElem]) (by rw [List.getElem?_eq_getElem])
    rw [ho] at h1
    rw [hg] at h2
    simp only [Option.some.injEq] at h1 h2
    subst h1 h2
    generalize ho:s.st[i]'(hl ▸ hi) = o at htr
    generalize hg:s.g[i] = g at htr
    cases o with
    | dead => cases htr.1
    | box t cs => obtain ⟨_,h | ⟨_,h,_⟩⟩:=htr <;> cases h
    | map ks vs => obtain ⟨_,h | ⟨_,_,h⟩⟩:=htr <;> cases h
    | tok e sz m => rcases htr with h | ⟨_,h,_⟩ <;> cases h
    | arr e sz v es => rcases htr with h | ⟨_,_,h,_⟩ <;> cases h
    | yld xs' i' go' =>
      obtain ⟨⟨l',F1,F2,J',Jx',he,he',hF'⟩,_⟩:=htr
      simp only [Gh.yl.injEq] at he'
      obtain ⟨rfl,rfl,rfl,rfl⟩:=he'
      exact h i xs' i' l go' F1 J Jx (by rw [List.getElem?_eq_getElem (hl ▸ hi),ho]) (by rw [List.getElem?_eq_getElem hi,hg,he])
  · exact absurd ho (hE.noyld i xs k go (by omega))
theorem Sim.push (h:Sim P gl w s) {o:O} {g:Gh} (hat:∀ i b,o.lives = true → g.at = some b → ¬ s.own i b) (hk:∀ b x,o.lives = true → g.at = some b → o.writes x → ¬ s.K b x) (hf:∀ b,o.lives = true → g.at = some b → ¬ s.foreign b)
    (hy:∀ xs k go,o ≠ .yld xs k go) (ho:ObjOK P w (s.push o g) o g) (hlate:∀ b,o.lives = true → g.at = some b → s.late b):Sim P gl w (s.push o g) where
  len:=by simp [S.push,h.len]
  obj:=fun i o' g' ho' hg' => by
    simp only [S.push] at ho' hg'
    rcases getElem?_snoc ho' with h1 | ⟨rfl,rfl⟩
    · rcases getElem?_snoc hg' with h2 | ⟨rfl,rfl⟩
      · exact (h.obj i o' g' h1 h2).push h.len (fun l F J Jx e1 e2 b e3 e4 => by
          obtain ⟨xs,k,go,rfl⟩:=e2
          subst e1
          exact hlate b e3 e4 i xs k l go F J Jx h1 h2)
      · have:=(List.getElem?_eq_some_iff.1 h1).1
        have:=h.len
        omega
    · rcases getElem?_snoc hg' with h2 | ⟨_,rfl⟩
      · have:=(List.getElem?_eq_some_iff.1 h2).1
        have:=h.len
        omega
      · exact ho
  inj:=fun i j b hi hj => by
    rcases own_push h.len hi with hi | ⟨rfl,h1,h2⟩ <;> rcases own_push h.len hj with hj | ⟨rfl,h3,h4⟩
    · exact h.inj i j b hi hj
    · exact absurd hi (hat i b h3 h4)
    · exact absurd hj (hat j b h1 h2)
    · rfl
  kout:=fun i b x ob hi0 hob hwr => by
    rcases own_push h.len hi0 with hi | ⟨rfl,h1,h2⟩
    · clear hi0
      simp only [S.push] at hob
      rcases getElem?_snoc hob with hob | ⟨rfl,rfl⟩
      · exact h.kout i b x ob hi hob hwr
      · obtain ⟨o',_,ho',_⟩:=hi
        exact absurd (List.getElem?_eq_some_iff.1 ho').1 (Nat.lt_irrefl _)
    · simp only [S.push] at hob
      rcases getElem?_snoc hob with hob | ⟨_,rfl⟩
      · have:=(List.getElem?_eq_some_iff.1 hob).1
        omega
      · exact hk b x h1 h2 hwr
  kin:=h.kin
  fgn:=fun b hb => by
    have hb':=foreign_push h.len hy hb
    refine ⟨(h.fgn b hb').1,fun ⟨i,hm⟩ => ?_⟩
    rcases own_push h.len hm with hm | ⟨_,h1,h2⟩
    · exact (h.fgn b hb').2 ⟨i,hm⟩
    · exact hf b h1 h2 hb'
  glob:=h.glob
theorem Evolve.grow (hs:s.Wf) (hos:w'.os = w.os) (htape:w'.tape = w.tape) (hout:w'.output = w.output) (hsize:w.heap.size ≤ w'.heap.size) (hold:∀ k,k < w.heap.size → w'.heap[k]? = w.heap[k]?)
    (N:Nat → Nat → Prop) (hN:∀ b o,N b o → w.heap.size ≤ b ∧ b < w'.heap.size):Evolve w s w' { s with K:=fun b o => s.K b o ∨ N b o } where
  os:=hos
  tape:=htape
  output:=hout
  size:=hsize
  keeps:=⟨fun b o h => .inl h,fun b o x _ hx => by
      have:=World.block_lt_of_cell? w _ hx
      rw [World.cell?_of_block (w:=w) (hold b this)]
      exact hx,fun b es c _ hx => by
      have:=(Array.getElem?_eq_some_iff.1 hx).1
      rw [hold b this]
      exact hx,fun b _ n _ hx => hx.same (hold b hx.lt)⟩
  knew:=fun b o h => by
    rcases h with h | h
    · exact .inl h
    · exact .inr (.inl (hN b o h).1)
  block:=fun b hb _ _ => hold b hb
  len:=Nat.le_refl _
  objs:=(Evolve.refl (w:=w) hs).objs
  fresh:=(Evolve.refl (w:=w) hs).fresh
  noyld:=(Evolve.refl (w:=w) hs).noyld
theorem Sim.grow (h:Sim P gl w s) (hos:w'.os = w.os) (htape:w'.tape = w.tape) (hout:w'.output = w.output) (hsize:w.heap.size ≤ w'.heap.size) (hold:∀ k,k < w.heap.size → w'.heap[k]? = w.heap[k]?)
    (N:Nat → Nat → Prop) (hN:∀ b o,N b o → w.heap.size ≤ b ∧ b < w'.heap.size):Sim P gl w' { s with K:=fun b o => s.K b o ∨ N b o } where
  len:=h.len
  obj:=fun i o g ho hg => (h.obj i o g ho hg).keep (Evolve.grow h.wf hos htape hout hsize hold N hN) h.wf (fun hlv b hb => hold b (h.mine_lt ⟨i,o,g,ho,hlv,hg,hb⟩))
    (fun l F J Jx xs k go hg' ho' => by
      subst hg' ho'
      have hF:∀ b,F b → b < w.heap.size:=fun b hb => (h.fgn b ⟨i,xs,k,l,go,F,J,Jx,ho,hg,hb⟩).1
      have hl:l < w.heap.size:=by have:=h.obj i _ _ ho hg;simp only [ObjOK] at this;exact this.2.2.1
      refine ⟨fun b hb => hold b (hF b hb),fun b o hk => ?_,fun b hb => hold b (by omega),fun b o hk => ?_⟩
      · rcases hk with hk | hk
        · exact .inl hk
        · exact .inr ⟨by have:=(hN b o hk).1;omega,fun hb => by have:=hF _ hb;have:=(hN b o hk).1;omega⟩
      · rcases hk with hk | hk
        · have:=h.kin b o hk;omega
        · exact (hN b o hk).2)
  inj:=h.inj
  kout:=fun i b o ob' hi hob hwr hk => by
    rcases hk with hk | hk
    · exact h.kout i b o ob' hi hob hwr hk
    · have:=h.mine_lt ⟨i,hi⟩
      have:=(hN b o hk).1
      omega
  kin:=fun b o hk => by
    rcases hk with hk | hk
    · have:=h.kin b o hk
      omega
    · exact (hN b o hk).2
  fgn:=fun b hb => by
    have:=h.fgn b hb
    exact ⟨by omega,this.2⟩
  glob:=fun g => (h.glob g).imp id (fun k => globKeeps (Evolve.grow h.wf hos htape hout hsize hold N hN).keeps k)
theorem Evolve.alloc (hs:s.Wf) (ob:Obj) (N:Nat → Prop):Evolve w s (w.alloc ob) { s with K:=fun b o => s.K b o ∨ (b = w.heap.size ∧ N o) } :=
  Evolve.grow (w:=w) (w':=w.alloc ob) hs rfl rfl rfl (by simp) (fun k hk => heap_alloc_old w ob k hk) (fun b o => b = w.heap.size ∧ N o) (fun b o h => by obtain ⟨rfl,_⟩:=h;simp)
theorem Sim.alloc (h:Sim P gl w s) (ob:Obj) (N:Nat → Prop):Sim P gl (w.alloc ob) { s with K:=fun b o => s.K b o ∨ (b = w.heap.size ∧ N o) } :=
  h.grow (w':=w.alloc ob) rfl rfl rfl (by simp) (fun k hk => heap_alloc_old w ob k hk) (fun b o => b = w.heap.size ∧ N o) (fun b o h => by obtain ⟨rfl,_⟩:=h;simp)
def S.turn (s:S) (K:Nat → Nat → Prop) (i:Nat) (o:O) (g:Gh):S:={ K,g:=s.g.set i g,st:=s.st.set i o }
theorem getElem?_set_cases {α:Type} {l:List α} {i j:Nat} {a x:α} (h:(l.set i a)[j]? = some x):(j = i ∧ x = a ∧ i < l.length) ∨ (j ≠ i ∧ l[j]? = some x):=by
  rw [List.getElem?_set] at h
  by_cases e:i = j
  · subst e
    by_cases hl:i < l.length
    · simp [hl] at h
      exact .inl ⟨rfl,h.symm,hl⟩
    · simp [hl] at h
  · rw [if_neg e] at h
    exact .inr ⟨fun h' => e h'.symm,h⟩
theorem turn (h:Sim P gl w s) {i:Nat} {o o':O} {g g':Gh} {K':Nat → Nat → Prop} (ho:s.st[i]? = some o) (hg:s.g[i]? = some g) (hlv:o.lives = true) (hos:w'.os = w.os) (htape:w'.tape = w.tape) (hout:w'.output = w.output)
    (hsize:w.heap.size ≤ w'.heap.size) (hblk:∀ b,b < w.heap.size → g.at ≠ some b → w'.heap[b]? = w.heap[b]?) (hk:Keeps w s.K w' K') (hknew:∀ b x,K' b x → s.K b x ∨ w.heap.size ≤ b ∨ g.at = some b)
    (hkin:∀ b x,K' b x → b < w'.heap.size) (hTR:TR w.heap.size o g o' g') (hlv':o'.lives = true) (hkout:∀ b x,g'.at = some b → o'.writes x → ¬ K' b x)
    (hok:Evolve w s w' (s.turn K' i o' g') → ObjOK P w' (s.turn K' i o' g') o' g'):Evolve w s w' (s.turn K' i o' g') ∧ Sim P gl w' (s.turn K' i o' g'):=by
  have hown:∀ b,g.at = some b → s.own i b:=fun b hb => ⟨o,g,ho,hlv,hg,hb⟩
  have hlt:∀ j b,s.own j b → b < w.heap.size:=fun j b hb => h.mine_lt ⟨j,hb⟩
  have hE:Evolve w s w' (s.turn K' i o' g'):=by
    refine ⟨hos,htape,hout,hsize,hk,fun b x hb => ?_,fun b hb hm _ => hblk b hb (fun e => hm ⟨i,hown b e⟩),by simp [S.turn],fun j oj gj hoj hgj => ?_,fun j oj gj b hj _ _ hgj _ => ?_,fun j xs k go hj hoj => ?_⟩
    · rcases hknew b x hb with hb | hb | hb
      · exact .inl hb
      · exact .inr (.inl hb)
      · exact .inr (.inr (.inl ⟨i,hown b hb⟩))
    · by_cases e:i = j
      · subst e
        rw [ho] at hoj
        rw [hg] at hgj
        simp only [Option.some.injEq] at hoj hgj
        subst hoj hgj
        exact ⟨o',g',by simp [S.turn,(List.getElem?_eq_some_iff.1 ho).1],by simp [S.turn,(List.getElem?_eq_some_iff.1 hg).1],hTR⟩
      · obtain ⟨o1,g1,h1,h2,t⟩:=(Evolve.refl (w:=w) h.wf).objs j oj gj hoj hgj
        refine ⟨o1,g1, ?_, ?_,t⟩
        · simp only [S.turn]
          rw [List.getElem?_set_ne e]
          exact h1
        · simp only [S.turn]
          rw [List.getElem?_set_ne e]
          exact h2
    · have:=(List.getElem?_eq_some_iff.1 hgj).1
      simp [S.turn] at this
      omega
    · have:=(List.getElem?_eq_some_iff.1 hoj).1
      simp [S.turn] at this
      have:=h.len
      omega
  have hown':∀ j b,(s.turn K' i o' g').own j b → (j ≠ i ∧ s.own j b) ∨ (j = i ∧ (g.at = some b ∨ w.heap.size ≤ b) ∧ g'.at = some b):=by
    rintro j b ⟨oj,gj,hoj,hlj,hgj,hat⟩
    simp only [S.turn] at hoj hgj
    rcases getElem?_set_cases hoj with ⟨rfl,rfl,_⟩ | ⟨hne,hoj⟩
    · rcases getElem?_set_cases hgj with ⟨_,rfl,_⟩ | ⟨hne,_⟩
      · exact .inr ⟨rfl,(hTR.live hlv').2 b hat,hat⟩
      · exact absurd rfl hne
    · rcases getElem?_set_cases hgj with ⟨rfl,_⟩ | ⟨_,hgj⟩
      · exact absurd rfl hne
      · exact .inl ⟨hne,oj,gj,hoj,hlj,hgj,hat⟩
  have hfor:∀ b,(s.turn K' i o' g').foreign b → s.foreign b:=by
    rintro b ⟨j,xs,k,l,go,F,J,Jx,hoj,hgj,hF⟩
    simp only [S.turn] at hoj hgj
    rcases getElem?_set_cases hoj with ⟨rfl,he,_⟩ | ⟨hne,hoj⟩
    · subst he
      cases hlv'
    · rcases getElem?_set_cases hgj with ⟨rfl,_⟩ | ⟨_,hgj⟩
      · exact absurd rfl hne
      · exact ⟨j,xs,k,l,go,F,J,Jx,hoj,hgj,hF⟩
  refine ⟨hE,by simp [S.turn,h.len],fun j oj gj hoj hgj => ?_,fun j1 j2 b h1 h2 => ?_,fun j b x ob hj hob hwr hkb => ?_,hkin,fun b hb => ?_,fun g => (h.glob g).imp id (fun k => globKeeps hE.keeps k)⟩
  · simp only [S.turn] at hoj hgj
    rcases getElem?_set_cases hoj with ⟨rfl,rfl,_⟩ | ⟨hne,hoj⟩
    · rcases getElem?_set_cases hgj with ⟨_,rfl,_⟩ | ⟨hne,_⟩
      · exact hok hE
      · exact absurd rfl hne
    · rcases getElem?_set_cases hgj with ⟨rfl,_⟩ | ⟨_,hgj⟩
      · exact absurd rfl hne
      · refine (h.obj j oj gj hoj hgj).keep hE h.wf (fun hl b hb => ?_) (fun l F J Jx xs k go hg' ho' => ?_)
        · have hj:s.own j b:=⟨oj,gj,hoj,hl,hgj,hb⟩
          exact hblk b (hlt j b hj) (fun e => hne (h.inj j i b hj (hown b e)))
        · subst hg' ho'
          have hF:∀ b,F b → b < w.heap.size ∧ ¬ s.mine b:=fun b hb => h.fgn b ⟨j,xs,k,l,go,F,J,Jx,hoj,hgj,hb⟩
          have hyl:l < w.heap.size ∧ ∀ b,s.mine b → l < b:=by have:=h.obj j _ _ hoj hgj;simp only [ObjOK] at this;exact this.2.2
          refine ⟨fun b hb => hblk b (hF b hb).1 (fun e => (hF b hb).2 ⟨i,hown b e⟩),fun b x hkb => ?_,fun b hb => hblk b (by omega) (fun e => by have:=hyl.2 b ⟨i,hown b e⟩;omega),hkin⟩
          rcases hknew b x hkb with hb | hb | hb
          · exact .inl hb
          · exact .inr ⟨by omega,fun hf => by have:=(hF b hf).1;omega⟩
          · exact .inr ⟨hyl.2 b ⟨i,hown b hb⟩,fun hf => (hF b hf).2 ⟨i,hown b hb⟩⟩
  · rcases hown' j1 b h1 with ⟨n1,k1⟩ | ⟨rfl,k1,_⟩ <;> rcases hown' j2 b h2 with ⟨n2,k2⟩ | ⟨e2,k2,_⟩
    · exact h.inj j1 j2 b k1 k2
    · rcases k2 with k2 | k2
      · rw [e2];exact h.inj j1 i b k1 (hown b k2)
      · have:=hlt j1 b k1;omega
    · rcases k1 with k1 | k1
      · exact (h.inj j2 _ b k2 (hown b k1)).symm
      · have:=hlt j2 b k2;omega
    · exact e2.symm
  · rcases hown' j b hj with ⟨n1,h1⟩ | ⟨rfl,_,h1⟩
    · simp only [S.turn] at hob hkb
      rcases getElem?_set_cases hob with ⟨rfl,_⟩ | ⟨_,hob⟩
      · exact n1 rfl
      · rcases hknew b x hkb with hb | hb | hb
        · exact h.kout j b x ob h1 hob hwr hb
        · have:=hlt j b h1;omega
        · exact n1 (h.inj j i b h1 (hown b hb))
    · simp only [S.turn] at hob hkb
      rcases getElem?_set_cases hob with ⟨_,rfl,_⟩ | ⟨hne,_⟩
      · exact hkout b x h1 hwr hkb
      · exact hne rfl
  · have hf:=h.fgn b (hfor b hb)
    refine ⟨by omega,fun ⟨j,hj⟩ => ?_⟩
    rcases hown' j b hj with ⟨_,h1⟩ | ⟨_,h1,_⟩
    · exact hf.2 ⟨j,h1⟩
    · rcases h1 with h1 | h1
      · exact hf.2 ⟨i,hown b h1⟩
      · omega
theorem store_box (h:Sim P gl w s) {i b off:Nat} {t:TypeId} {cs ys:List V} {arr:Array Value} {xs:List Value} (ho:s.st[i]? = some (.box t cs)) (hg:s.g[i]? = some (.blk b)) (harr:w.heap[b]? = some (.cells arr t (0,0)))
    (hl:ys.length = xs.length) (hoff:off + ys.length ≤ cs.length) (hr:∀ (j:Nat) (c:V) (x:Value),ys[j]? = some c → xs[j]? = some x → Rep w s c x) :
    let w':=w.setRow b (arr.toList.take off ++ xs ++ arr.toList.drop (off + xs.length)).toArray
    let s':=s.turn s.K i (.box t (cs.take off ++ ys ++ cs.drop (off + ys.length))) (.blk b)
    Evolve w s w' s' ∧ Sim P gl w' s':=by
  intro w' s'
  have hlt:b < w.heap.size:=(Array.getElem?_eq_some_iff.1 harr).1
  have hob:=h.obj i _ _ ho hg
  obtain ⟨arr',ha',hsz,hrep⟩:=hob
  rw [harr] at ha'
  simp only [Option.some.injEq,Obj.cells.injEq,and_true] at ha'
  subst ha'
  have hnk:∀ x,¬ s.K b x:=fun x => h.kout i b x _ ⟨_,_,ho,rfl,hg,rfl⟩ ho trivial
  have hheap:∀ k,k ≠ b → w'.heap[k]? = w.heap[k]?:=fun k hk => by
    show (w.heap.modify b _)[k]? = _
    rw [Array.getElem?_modify,if_neg (fun e => hk e.symm)]
  have hcl:(cs.take off ++ ys ++ cs.drop (off + ys.length)).length = cs.length:=by simp;omega
  refine turn h ho hg rfl rfl rfl rfl (by simp [w']) (fun k hk hne => hheap k (fun e => hne (by subst e;rfl))) ⟨fun _ _ hk => hk,fun k o x hk hx => ?_,fun k es c hk hx => ?_,fun k o n hk hx => ?_⟩ (fun _ _ hk => .inl hk)
    (fun k o hk => by have:=h.kin k o hk;simp [w'];omega) ⟨rfl,.inr ⟨_,rfl,hcl⟩⟩ rfl (fun k x hk _ => ?_) (fun hE => ?_)
  · have hkb:k ≠ b:=fun e => hnk o (e ▸ hk)
    rw [World.cell?_of_block (w:=w) (hheap k hkb)]
    exact hx
  · have hkb:k ≠ b:=fun e => hnk 0 (e ▸ hk)
    rw [hheap k hkb]
    exact hx
  · have hkb:k ≠ b:=fun e => hnk o (e ▸ hk)
    exact hx.same (hheap k hkb)
  · simp only [Gh.at,Option.some.injEq] at hk
    subst hk
    exact hnk x
  · refine ⟨_,setRow_heap w b arr _ t (0,0) harr, ?_, ?_⟩
    · have hsz':arr.toList.length = cs.length:=by simpa using hsz
      simp only [List.size_toArray,List.length_append,List.length_take,List.length_drop]
      omega
    · intro j c x hc hx
      simp only [List.getElem?_toArray] at hx
      have hsz':arr.toList.length = cs.length:=by simpa using hsz
      by_cases h1:j < off
      · rw [List.append_assoc,List.getElem?_append_left (by simp;omega),List.getElem?_take_of_lt h1] at hc
        rw [List.append_assoc,List.getElem?_append_left (by simp;omega),List.getElem?_take_of_lt h1] at hx
        exact (hrep j c x hc (by simpa using hx)).evolve hE h.wf
      · by_cases h2:j < off + ys.length
        · rw [List.append_assoc,List.getElem?_append_right (by simp;omega),List.getElem?_append_left (by simp;omega)] at hc
          rw [List.append_assoc,List.getElem?_append_right (by simp;omega),List.getElem?_append_left (by simp;omega)] at hx
          simp only [List.length_take] at hc hx
          rw [show min off arr.toList.length = min off cs.length by omega] at hx
          exact (hr _ c x hc hx).evolve hE h.wf
        · rw [List.getElem?_append_right (by simp;omega),List.getElem?_drop] at hc
          rw [List.getElem?_append_right (by simp;omega),List.getElem?_drop] at hx
          simp only [List.length_append,List.length_take] at hc hx
          have e1:off + ys.length + (j - (min off cs.length + ys.length)) = j:=by omega
          have e2:off + xs.length + (j - (min off arr.toList.length + xs.length)) = j:=by omega
          rw [e1] at hc
          rw [e2] at hx
          exact (hrep j c x hc (by simpa using hx)).evolve hE h.wf
end
end Go.Duo

namespace Go.Duo
open Go
structure Env where
  n:Nat
  m:List (Nat × V)
def getM:List (Nat × V) → Nat → V
  | [],_ => .undef
  | (a,v) :: m,t => if a = t then v else getM m t
def Env.get (e:Env) (t:Nat):V:=getM e.m t
def Env.put (e:Env) (d:Option Tmp) (v:V):Env :=
  match d with
  | none => e
  | some d => ⟨e.n,(d,v) :: e.m⟩
def Env.fits (e:Env):Option Tmp → Prop
  | none => True
  | some d => d < e.n
def V.ofConst:Value → V
  | .int k n => .int k n
  | .bool b => .bool b
  | .string s => .str s.data.toList
  | .slice none 0 0 => .nil
  | .pointer none => .nilptr
  | .nilFunc => .nilfunc
  | .nilIface => .niliface
  | _ => .undef
def Env.ev (gl:Nat → V) (e:Env):Operand → V
  | .tmp t => e.get t
  | .const v => V.ofConst v
  | .global g => gl g
  | .func f => .func (.func f) [] []
def Marks (w:World) (s:S) (n0:Nat) (ds:List Deferred):Prop :=
  (∀ d ∈ ds,∃ r,d.target = .collected r ∧ n0 ≤ r ∧ w.heap[r]? = some (.deferred (some [])) ∧ ¬ s.mine r ∧ ¬ s.foreign r) ∧ ds.Pairwise (fun d d' => ∀ r,d.target = .collected r → d'.target ≠ .collected r)
structure ActOK (w:World) (s:S) (n0:Nat) (e:Env) (a:Act):Prop where
  n:e.n ≤ a.tmps.size
  get:∀ t,Rep w s (e.get t) (a.tmps.getD t undef)
  marks:Marks w s n0 a.defers
theorem V.ofConst_rep {w:World} {s:S} (v:Value):Rep w s (V.ofConst v) v:=by
  unfold V.ofConst
  split
  · exact .pure _ _ (.int _ _)
  · exact .pure _ _ (.bool _)
  · rename_i s'
    have:Value.string s' = .string ⟨s'.data.toList.toArray⟩:=by simp
    rw [this]
    exact .pure _ _ (.str _)
  · exact .pure _ _ (.nil _)
  · exact .pure _ _ .nilptr
  · exact .pure _ _ .nilfunc
  · exact .pure _ _ .niliface
  · exact .undef _
section
variable {P:Program} {gl:Nat → V} {w w':World} {s s':S} {n0:Nat} {e:Env} {a:Act}
theorem ActOK.ev (h:ActOK w s n0 e a) (hs:Sim P gl w s) (x:Operand):Rep w s (e.ev gl x) (a.eval x):=by
  cases x with
  | tmp t => exact h.get t
  | const v => exact V.ofConst_rep v
  | global g =>
    rcases hs.glob g with hg | hg
    · simp only [Env.ev,hg]
      exact .undef _
    · exact .pure _ _ hg.1
  | func f => exact .pure _ _ (.func (.func f) [] [] [] [] rfl rfl (by simp) (by simp))
theorem Marks.evolve (h:Evolve w s w' s') (hs:s.Wf) {ds:List Deferred} (hm:Marks w s n0 ds):Marks w' s' n0 ds:=by
  refine ⟨fun d hd => ?_,hm.2⟩
  obtain ⟨r,h1,h2,h3,h4,h5⟩:=hm.1 d hd
  have hlt:r < w.heap.size:=(Array.getElem?_eq_some_iff.1 h3).1
  refine ⟨r,h1,h2,(h.block r hlt h4 h5).trans h3,fun hh => ?_,fun hh => ?_⟩
  · rcases h.mine hs.len hh with hh | hh
    · exact h4 hh
    · omega
  · rcases h.foreign hs.len hh with hh | hh
    · exact h5 hh
    · omega
theorem ActOK.evolve (h:Evolve w s w' s') (hs:s.Wf) (ha:ActOK w s n0 e a):ActOK w' s' n0 e a :=
  ⟨ha.n,fun t => (ha.get t).evolve h hs,ha.marks.evolve h hs⟩
theorem ActOK.put (ha:ActOK w s n0 e a) {d:Option Tmp} (hd:e.fits d) {v:V} {x:Value} (hr:Rep w s v x):ActOK w s n0 (e.put d v) (a.put d x):=by
  cases d with
  | none => exact ha
  | some d =>
    refine ⟨by simp only [Env.put,Act.put,Array.size_setIfInBounds];exact ha.n,fun t => ?_,ha.marks⟩
    simp only [Env.put,Act.put,Env.get,getM]
    have hd':d < a.tmps.size:=Nat.lt_of_lt_of_le hd ha.n
    by_cases ht:d = t
    · subst ht
      rw [if_pos rfl,Array.getD_eq_getD_getElem?,Array.getElem?_setIfInBounds_self_of_lt hd',Option.getD_some]
      exact hr
    · rw [if_neg ht,Array.getD_eq_getD_getElem?,Array.getElem?_setIfInBounds_ne ht,← Array.getD_eq_getD_getElem?]
      exact ha.get t
end
def Fr (r:Option Nat):Fence:={ Fence.wide with round:=r }
def AW (P:Program) (gl:Nat → V) (r:Option Nat) (c:Code) (Q:Exit → Env → List O → Prop) (e:Env) (st:List O):Prop :=
  ∀ (n0:Nat) (w:World) (s:S) (a:Act),n0 ≤ w.heap.size → s.st = st → Sim P gl w s → ActOK w s n0 e a →
    c.wpIn (Fr r) 0 P (fun x a' w' => ∃ e' s',Sim P gl w' s' ∧ Evolve w s w' s' ∧ ActOK w' s' n0 e' a' ∧ Q x e' s'.st) a w
def AO (P:Program) (gl:Nat → V) (r:Option Nat) (o:Oper) (e:Env) (st:List O) (K:V → List O → Prop):Prop :=
  ∀ (n0:Nat) (w:World) (s:S) (a:Act) (next:Act → World → Prop) (Q:Exit → Act → World → Prop),n0 ≤ w.heap.size → s.st = st → Sim P gl w s → ActOK w s n0 e a →
    (∀ v x w' s',Sim P gl w' s' → Evolve w s w' s' → Rep w' s' v x → K v s'.st → next (a.put o.dst x) w') → o.wpIn (Fr r) 0 P a w next Q
section
variable {P:Program} {gl:Nat → V} {r:Option Nat} {e:Env} {st:List O}
theorem AO.of_run {o:Oper} {K:V → List O → Prop} (hd:∀ c,o.op ≠ .defer c)
    (h:∀ (n0:Nat) (w:World) (s:S) (a:Act),n0 ≤ w.heap.size → s.st = st → Sim P gl w s → ActOK w s n0 e a → (∀ x,Rep w s (e.ev gl x) (a.eval x)) →
      ∃ v w' s',(∃ x,(execOp a.eval o).run P w = .ok (.value x) w' ∧ Rep w' s' v x ∨ (execOp a.eval o).run P w = .ok .skip w' ∧ v = .undef) ∧ Sim P gl w' s' ∧ Evolve w s w' s' ∧ K v s'.st):AO P gl r o e st K:=by
  intro n0 w s a next Q hn hst hs ha hk
  obtain ⟨v,w',s',hrun,hs',hE,hK⟩:=h n0 w s a hn hst hs ha (fun x => ha.ev hs x)
  refine ⟨fun _ _ => trivial, ?_⟩
  rw [Oper.semAt_eq _ _ _ hd]
  rcases hrun with ⟨x,⟨hrun,hrep⟩ | ⟨hrun,rfl⟩⟩
  · rw [hrun]
    exact hk v x w' s' hs' hE hrep hK
  · rw [hrun]
    exact hk .undef undef w' s' hs' hE (.undef _) hK
theorem AO.of_calm {o:Oper} {K:V → List O → Prop} (hd:∀ c,o.op ≠ .defer c)
    (h:∀ (w:World) (s:S) (ρ:Operand → Value),s.st = st → Sim P gl w s → (∀ x,Rep w s (e.ev gl x) (ρ x)) → ∃ v x,(execOp ρ o).run P w = .ok (.value x) w ∧ Rep w s v x ∧ K v st):AO P gl r o e st K:=by
  refine AO.of_run hd fun n0 w s a _ hst hs ha hev => ?_
  obtain ⟨v,x,hrun,hrep,hK⟩:=h w s a.eval hst hs hev
  exact ⟨v,w,s,⟨x,.inl ⟨hrun,hrep⟩⟩,hs,Evolve.refl hs.wf,hst ▸ hK⟩
end
section
variable {w:World} {s:S} {x:Value}
theorem Rep.int_inv {k:IntKind} {n:Int} (h:Rep w s (.int k n) x):x = .int k n:=by
  cases h with | pure _ _ h => cases h;rfl
theorem Rep.bool_inv {b:Bool} (h:Rep w s (.bool b) x):x = .bool b:=by
  cases h with | pure _ _ h => cases h;rfl
theorem Rep.str_inv {l:List UInt8} (h:Rep w s (.str l) x):x = .string ⟨l.toArray⟩:=by
  cases h with | pure _ _ h => cases h;rfl
theorem Rep.agg_inv {cs:List V} (h:Rep w s (.agg cs) x):∃ xs:List Value,x = .agg xs.toArray ∧ cs.length = xs.length ∧ ∀ (i:Nat) (c:V) (y:Value),cs[i]? = some c → xs[i]? = some y → Rep w s c y:=by
  cases h with
  | pure _ _ h => cases h with | agg _ xs hl h => exact ⟨xs,rfl,hl,fun i c y hc hy => .pure _ _ (h i c y hc hy)⟩
  | agg _ xs hl h => exact ⟨xs,rfl,hl,h⟩
theorem Rep.tuple_inv {cs:List V} (h:Rep w s (.tuple cs) x):∃ xs:List Value,x = .tuple xs.toArray ∧ cs.length = xs.length ∧ ∀ (i:Nat) (c:V) (y:Value),cs[i]? = some c → xs[i]? = some y → Rep w s c y:=by
  cases h with
  | pure _ _ h => cases h with | tuple _ xs hl h => exact ⟨xs,rfl,hl,fun i c y hc hy => .pure _ _ (h i c y hc hy)⟩
  | tuple _ xs hl h => exact ⟨xs,rfl,hl,h⟩
theorem Rep.func_inv {fn:Fn} {fs cs:List V} (h:Rep w s (.func fn fs cs) x):∃ xs ys:List Value,x = .func fn xs.toArray ys.toArray ∧ fs.length = xs.length ∧ cs.length = ys.length ∧
    (∀ (i:Nat) (c:V) (y:Value),fs[i]? = some c → xs[i]? = some y → Rep w s c y) ∧ ∀ (i:Nat) (c:V) (y:Value),cs[i]? = some c → ys[i]? = some y → Rep w s c y:=by
  cases h with
  | pure _ _ h => cases h with | func _ _ _ xs ys hl hl' h h' => exact ⟨xs,ys,rfl,hl,hl',fun i c y hc hy => .pure _ _ (h i c y hc hy),fun i c y hc hy => .pure _ _ (h' i c y hc hy)⟩
  | func _ _ _ xs ys hl hl' h h' => exact ⟨xs,ys,rfl,hl,hl',h,h'⟩
theorem Rep.ptr_inv {id off:Nat} (h:Rep w s (.ptr id off) x):∃ b,x = .pointer (some ⟨b,off,none⟩) ∧ s.g[id]? = some (.blk b):=by
  cases h with
  | pure _ _ h => cases h
  | ptr _ _ b h => exact ⟨b,rfl,h⟩
theorem Rep.dptr_inv {cs:List V} (h:Rep w s (.dptr cs) x):∃ b o,x = .pointer (some ⟨b,o,none⟩) ∧ ∃ y:Nat → Value,∀ (j:Nat) (c:V),cs[j]? = some c → Cell w s.K b (o + j) (y j) ∧ PR w s.K c (y j):=by
  cases h with
  | pure _ _ h => cases h with | dptr _ b o y hc h => exact ⟨b,o,rfl,y,fun j c hj => ⟨hc j c hj,h j c hj⟩⟩
theorem Rep.sl_inv {es:List V} {t:Option Nat} (h:Rep w s (.sl es t) x):PR w s.K (.sl es none) x:=by
  cases h with
  | pure _ _ h => cases h;constructor <;> assumption
  | tok _ _ _ h _ => exact h
theorem Rep.nil_inv (h:Rep w s .nil x):∃ a,x = .slice a 0 0:=by
  cases h with | pure _ _ h => cases h;exact ⟨_,rfl⟩
theorem PR.sl_inv {K:Nat → Nat → Prop} {es:List V} (h:PR w K (.sl es none) x):∃ a cap sz,∃ y:Nat → Value,x = .slice a es.length cap ∧ es.length ≤ cap ∧ cap ≤ maxLen ∧ (∀ e ∈ es,e.cells.length = sz) ∧ (∀ c ∈ flat es,c.one = true) ∧
    ∀ (j:Nat) (c:V),(flat es)[j]? = some c → CellAt w K a j (y j) ∧ PR w K c (y j):=by
  cases h with
  | sl _ a cap sz y h1 h2 h3 h4 h5 h6 => exact ⟨a,cap,sz,y,rfl,h1,h2,h3,h4,fun j c hj => ⟨h5 j c hj,h6 j c hj⟩⟩
end
section
variable {w:World} {s:S} {x:Value}
theorem Rep.dptr_pr {cs:List V} (h:Rep w s (.dptr cs) x):PR w s.K (.dptr cs) x:=by
  cases h with | pure _ _ h => exact h
def V.bare:V → V
  | .agg cs => .agg (bareL cs)
  | .sl es _ => .sl es none
  | .nil => .sl [] none
  | v => v
where bareL:List V → List V
  | [] => []
  | c :: cs => c.bare :: bareL cs
theorem bareL_eq (cs:List V):V.bare.bareL cs = cs.map V.bare:=by
  induction cs with
  | nil => rfl
  | cons c cs ih => simp [V.bare.bareL,ih]
@[simp] theorem V.bare_agg (cs:List V):(V.agg cs).bare = .agg (cs.map V.bare):=by rw [V.bare,bareL_eq]
@[simp] theorem V.bare_sl (es:List V) (t:Option Nat):(V.sl es t).bare = .sl es none:=by rw [V.bare]
def PureV (v:V):Prop:=∀ (w:World) (s:S) (x:Value),Rep w s v x → PR w s.K v.bare x
theorem PureV.agg {cs:List V} (h:∀ c ∈ cs,PureV c):PureV (.agg cs):=fun w s x hx => by
  obtain ⟨xs,rfl,hl,hr⟩:=hx.agg_inv
  rw [V.bare_agg]
  refine .agg _ xs (by simpa using hl) fun i c x hc hx => ?_
  rw [List.getElem?_map] at hc
  cases hci:cs[i]? with
  | none => simp [hci] at hc
  | some c0 =>
    simp only [hci,Option.map_some,Option.some.injEq] at hc
    subst hc
    exact h c0 (List.mem_iff_getElem?.2 ⟨i,hci⟩) w s x (hr i c0 x hci hx)
theorem PureV.sl (es:List V) (t:Option Nat):PureV (.sl es t):=fun _ _ _ hx => by rw [V.bare_sl];exact hx.sl_inv
theorem PureV.int (k:IntKind) (n:Int):PureV (.int k n):=fun w s x hx => by cases hx with | pure _ _ h => exact h
theorem PureV.bool (b:Bool):PureV (.bool b):=fun w s x hx => by cases hx with | pure _ _ h => exact h
theorem PureV.str (l:List UInt8):PureV (.str l):=fun w s x hx => by cases hx with | pure _ _ h => exact h
theorem PR.nil_sl {w:World} {K:Nat → Nat → Prop} (a:Option Addr):PR w K (.sl [] none) (.slice a 0 0) :=
  .sl [] a 0 0 (fun _ => undef) (Nat.le_refl _) (Nat.zero_le _) (by simp) (by simp) (by simp) (by simp)
theorem PureV.nil:PureV .nil:=fun w s x hx => by obtain ⟨a,rfl⟩:=hx.nil_inv;exact PR.nil_sl a
theorem PureV.nilptr:PureV .nilptr:=fun w s x hx => by cases hx with | pure _ _ h => exact h
theorem PureV.nilfunc:PureV .nilfunc:=fun w s x hx => by cases hx with | pure _ _ h => exact h
theorem PureV.niliface:PureV .niliface:=fun w s x hx => by cases hx with | pure _ _ h => exact h
theorem PureV.dptr (cs:List V):PureV (.dptr cs):=fun w s x hx => hx.dptr_pr
theorem PureV.pmap (ks vs:List V):PureV (.pmap ks vs):=fun w s x hx => by cases hx with | pure _ _ h => exact h
theorem V.bare_one {v:V} (h:v.one = true):v.bare.one = true ∧ v.bare.cells = [v.bare] ∧ v.cells = [v]:=by
  cases v <;> first | exact ⟨rfl,rfl,rfl⟩ | simp [V.one] at h
theorem V.bare_cells (v:V):v.bare.cells = v.cells.map V.bare:=by
  cases v <;> first | rfl | simp [V.cells]
theorem V.bare_all {v:V} (h:v.cells.all V.one = true):v.bare.cells.all V.one = true:=by
  rw [V.bare_cells]
  simp only [List.all_map,List.all_eq_true,Function.comp] at h ⊢
  exact fun c hc => (V.bare_one (h c hc)).1
end
theorem flat_length {es:List V} {sz:Nat} (h:∀ e ∈ es,e.cells.length = sz):(flat es).length = es.length * sz:=by
  induction es with
  | nil => simp
  | cons e es ih =>
    rw [flat_cons,List.length_append,ih (fun e he => h e (List.mem_cons_of_mem _ he)),h e (by simp),List.length_cons,Nat.add_mul]
    omega
theorem flat_set {es:List V} {sz:Nat} (h:∀ e ∈ es,e.cells.length = sz):∀ {k:Nat},k < es.length → ∀ el:V,flat (es.set k el) = (flat es).take (k * sz) ++ el.cells ++ (flat es).drop (k * sz + sz):=by
  induction es with
  | nil => intro k hk;simp at hk
  | cons e es ih =>
    intro k hk el
    have he:=h e (by simp)
    cases k with
    | zero =>
      simp only [List.set_cons_zero,flat_cons,Nat.zero_mul,List.take_zero,List.nil_append,Nat.zero_add]
      rw [← he,List.drop_left]
    | succ k =>
      have hk':k < es.length:=by simpa using hk
      simp only [List.set_cons_succ,flat_cons,ih (fun e he => h e (List.mem_cons_of_mem _ he)) hk' el]
      have e1:(k + 1) * sz = e.cells.length + k * sz:=by rw [he,Nat.add_mul];omega
      rw [e1,Nat.add_assoc,List.take_length_add_append,List.drop_length_add_append]
      simp only [List.append_assoc]
end Go.Duo
