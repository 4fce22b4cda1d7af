/-
  A part of the proof.
-/
import Derived.Test.YtdlcnihacaboiaaGreatDoorGA
import Derived.Laws.Cells
import Derived.Laws.Entries
import Derived.ChangeKeysEq
import Derived.Laws.StructEq
set_option linter.all false
namespace Go.Duo
open Go
/-- Known temporaries: the latest first; n: there are at least so many. -/
structure Env where
  n : Nat
  m : List (Nat × V)
def getM : List (Nat × V) → Nat → V
  | [], _ => .undef
  | (a, v) :: m, t => if a = t then v else getM m t
def Env.get (e : Env) (t : Nat) : V := getM e.m t
def Env.put (e : Env) (d : Option Tmp) (v : V) : Env :=
  match d with
  | none => e
  | some d => ⟨e.n, (d, v) :: e.m⟩
def Env.fits (e : Env) : Option Tmp → Prop
  | none => True
  | some d => d < e.n
def V.ofConst : Value → V
  | .int k n => .int k n
  | .bool b => .bool b
  | .string s => .str s.data.toList
  | .slice none 0 0 => .nil
  | .pointer none => .nilptr
  | .nilFunc => .nilfunc
  | .nilIface => .niliface
  | _ => .undef
def Env.ev (gl : Nat → V) (e : Env) : Operand → V
  | .tmp t => e.get t
  | .const v => V.ofConst v
  | .global g => gl g
  | .func f => .func (.func f) [] []
/-- The marks of loops over functions among the deferred calls. -/
def Marks (w : World) (s : S) (n0 : Nat) (ds : List Deferred) : Prop :=
  (∀ d ∈ ds, ∃ r, d.target = .collected r ∧ n0 ≤ r ∧ w.heap[r]? = some (.deferred (some [])) ∧ ¬ s.mine r ∧ ¬ s.foreign r) ∧ ds.Pairwise (fun d d' => ∀ r, d.target = .collected r → d'.target ≠ .collected r)
structure ActOK (w : World) (s : S) (n0 : Nat) (e : Env) (a : Act) : Prop where
  n : e.n ≤ a.tmps.size
  get : ∀ t, Rep w s (e.get t) (a.tmps.getD t undef)
  marks : Marks w s n0 a.defers
theorem V.ofConst_rep {w : World} {s : S} (v : Value) : Rep w s (V.ofConst v) v := by
  unfold V.ofConst
  split
  · exact .pure _ _ (.int _ _)
  · exact .pure _ _ (.bool _)
  · rename_i s'
    have : Value.string s' = .string ⟨s'.data.toList.toArray⟩ := by simp
    rw [this]
    exact .pure _ _ (.str _)
  · exact .pure _ _ (.nil _)
  · exact .pure _ _ .nilptr
  · exact .pure _ _ .nilfunc
  · exact .pure _ _ .niliface
  · exact .undef _
section
variable {P : Program} {gl : Nat → V} {w w' : World} {s s' : S} {n0 : Nat} {e : Env} {a : Act}
theorem ActOK.ev (h : ActOK w s n0 e a) (hs : Sim P gl w s) (x : Operand) : Rep w s (e.ev gl x) (a.eval x) := by
  cases x with
  | tmp t => exact h.get t
  | const v => exact V.ofConst_rep v
  | global g =>
    rcases hs.glob g with hg | hg
    · simp only [Env.ev, hg]
      exact .undef _
    · exact .pure _ _ hg.1
  | func f => exact .pure _ _ (.func (.func f) [] [] [] [] rfl rfl (by simp) (by simp))
theorem Marks.evolve (h : Evolve w s w' s') (hs : s.Wf) {ds : List Deferred} (hm : Marks w s n0 ds) : Marks w' s' n0 ds := by
  refine ⟨fun d hd => ?_, hm.2⟩
  obtain ⟨r, h1, h2, h3, h4, h5⟩ := hm.1 d hd
  have hlt : r < w.heap.size := (Array.getElem?_eq_some_iff.1 h3).1
  refine ⟨r, h1, h2, (h.block r hlt h4 h5).trans h3, fun hh => ?_, fun hh => ?_⟩
  · rcases h.mine hs.len hh with hh | hh
    · exact h4 hh
    · omega
  · rcases h.foreign hs.len hh with hh | hh
    · exact h5 hh
    · omega
theorem ActOK.evolve (h : Evolve w s w' s') (hs : s.Wf) (ha : ActOK w s n0 e a) : ActOK w' s' n0 e a :=
  ⟨ha.n, fun t => (ha.get t).evolve h hs, ha.marks.evolve h hs⟩
theorem ActOK.put (ha : ActOK w s n0 e a) {d : Option Tmp} (hd : e.fits d) {v : V} {x : Value} (hr : Rep w s v x) : ActOK w s n0 (e.put d v) (a.put d x) := by
  cases d with
  | none => exact ha
  | some d =>
    refine ⟨by simp only [Env.put, Act.put, Array.size_setIfInBounds]; exact ha.n, fun t => ?_, ha.marks⟩
    simp only [Env.put, Act.put, Env.get, getM]
    have hd' : d < a.tmps.size := Nat.lt_of_lt_of_le hd ha.n
    by_cases ht : d = t
    · subst ht
      rw [if_pos rfl, Array.getD_eq_getD_getElem?, Array.getElem?_setIfInBounds_self_of_lt hd', Option.getD_some]
      exact hr
    · rw [if_neg ht, Array.getD_eq_getD_getElem?, Array.getElem?_setIfInBounds_ne ht, ← Array.getD_eq_getD_getElem?]
      exact ha.get t
end
/-- The fence of our walks: none; only that the code may run in a round of a loop. -/
def Fr (r : Option Nat) : Fence := { Fence.wide with round := r }
/-- The code does what is said: it ends in one of the ways Q, and the world is still as the activation knows it. -/
def AW (P : Program) (gl : Nat → V) (r : Option Nat) (c : Code) (Q : Exit → Env → List O → Prop) (e : Env) (st : List O) : Prop :=
  ∀ (n0 : Nat) (w : World) (s : S) (a : Act), n0 ≤ w.heap.size → s.st = st → Sim P gl w s → ActOK w s n0 e a →
    c.wpIn (Fr r) 0 P (fun x a' w' => ∃ e' s', Sim P gl w' s' ∧ Evolve w s w' s' ∧ ActOK w' s' n0 e' a' ∧ Q x e' s'.st) a w
/-- One operation does what is said. -/
def AO (P : Program) (gl : Nat → V) (r : Option Nat) (o : Oper) (e : Env) (st : List O) (K : V → List O → Prop) : Prop :=
  ∀ (n0 : Nat) (w : World) (s : S) (a : Act) (next : Act → World → Prop) (Q : Exit → Act → World → Prop), n0 ≤ w.heap.size → s.st = st → Sim P gl w s → ActOK w s n0 e a →
    (∀ v x w' s', Sim P gl w' s' → Evolve w s w' s' → Rep w' s' v x → K v s'.st → next (a.put o.dst x) w') → o.wpIn (Fr r) 0 P a w next Q
section
variable {P : Program} {gl : Nat → V} {r : Option Nat} {e : Env} {st : List O}
/-- An operation that gives a value at once. -/
theorem AO.of_run {o : Oper} {K : V → List O → Prop} (hd : ∀ c, o.op ≠ .defer c)
    (h : ∀ (n0 : Nat) (w : World) (s : S) (a : Act), n0 ≤ w.heap.size → s.st = st → Sim P gl w s → ActOK w s n0 e a → (∀ x, Rep w s (e.ev gl x) (a.eval x)) →
      ∃ v w' s', (∃ x, (execOp a.eval o).run P w = .ok (.value x) w' ∧ Rep w' s' v x ∨ (execOp a.eval o).run P w = .ok .skip w' ∧ v = .undef) ∧ Sim P gl w' s' ∧ Evolve w s w' s' ∧ K v s'.st) : AO P gl r o e st K := by
  intro n0 w s a next Q hn hst hs ha hk
  obtain ⟨v, w', s', hrun, hs', hE, hK⟩ := h n0 w s a hn hst hs ha (fun x => ha.ev hs x)
  refine ⟨fun _ _ => trivial, ?_⟩
  rw [Oper.semAt_eq _ _ _ hd]
  rcases hrun with ⟨x, ⟨hrun, hrep⟩ | ⟨hrun, rfl⟩⟩
  · rw [hrun]
    exact hk v x w' s' hs' hE hrep hK
  · rw [hrun]
    exact hk .undef undef w' s' hs' hE (.undef _) hK
/-- An operation that leaves the world alone. -/
theorem AO.of_calm {o : Oper} {K : V → List O → Prop} (hd : ∀ c, o.op ≠ .defer c)
    (h : ∀ (w : World) (s : S) (ρ : Operand → Value), s.st = st → Sim P gl w s → (∀ x, Rep w s (e.ev gl x) (ρ x)) → ∃ v x, (execOp ρ o).run P w = .ok (.value x) w ∧ Rep w s v x ∧ K v st) : AO P gl r o e st K := by
  refine AO.of_run hd fun n0 w s a _ hst hs ha hev => ?_
  obtain ⟨v, x, hrun, hrep, hK⟩ := h w s a.eval hst hs hev
  exact ⟨v, w, s, ⟨x, .inl ⟨hrun, hrep⟩⟩, hs, Evolve.refl hs.wf, hst ▸ hK⟩
end
section
variable {w : World} {s : S} {x : Value}
theorem Rep.int_inv {k : IntKind} {n : Int} (h : Rep w s (.int k n) x) : x = .int k n := by
  cases h with | pure _ _ h => cases h; rfl
theorem Rep.bool_inv {b : Bool} (h : Rep w s (.bool b) x) : x = .bool b := by
  cases h with | pure _ _ h => cases h; rfl
theorem Rep.str_inv {l : List UInt8} (h : Rep w s (.str l) x) : x = .string ⟨l.toArray⟩ := by
  cases h with | pure _ _ h => cases h; rfl
theorem Rep.agg_inv {cs : List V} (h : Rep w s (.agg cs) x) : ∃ xs : List Value, x = .agg xs.toArray ∧ cs.length = xs.length ∧ ∀ (i : Nat) (c : V) (y : Value), cs[i]? = some c → xs[i]? = some y → Rep w s c y := by
  cases h with
  | pure _ _ h => cases h with | agg _ xs hl h => exact ⟨xs, rfl, hl, fun i c y hc hy => .pure _ _ (h i c y hc hy)⟩
  | agg _ xs hl h => exact ⟨xs, rfl, hl, h⟩
theorem Rep.tuple_inv {cs : List V} (h : Rep w s (.tuple cs) x) : ∃ xs : List Value, x = .tuple xs.toArray ∧ cs.length = xs.length ∧ ∀ (i : Nat) (c : V) (y : Value), cs[i]? = some c → xs[i]? = some y → Rep w s c y := by
  cases h with
  | pure _ _ h => cases h with | tuple _ xs hl h => exact ⟨xs, rfl, hl, fun i c y hc hy => .pure _ _ (h i c y hc hy)⟩
  | tuple _ xs hl h => exact ⟨xs, rfl, hl, h⟩
theorem Rep.func_inv {fn : Fn} {fs cs : List V} (h : Rep w s (.func fn fs cs) x) : ∃ xs ys : List Value, x = .func fn xs.toArray ys.toArray ∧ fs.length = xs.length ∧ cs.length = ys.length ∧
    (∀ (i : Nat) (c : V) (y : Value), fs[i]? = some c → xs[i]? = some y → Rep w s c y) ∧ ∀ (i : Nat) (c : V) (y : Value), cs[i]? = some c → ys[i]? = some y → Rep w s c y := by
  cases h with
  | pure _ _ h => cases h with | func _ _ _ xs ys hl hl' h h' => exact ⟨xs, ys, rfl, hl, hl', fun i c y hc hy => .pure _ _ (h i c y hc hy), fun i c y hc hy => .pure _ _ (h' i c y hc hy)⟩
  | func _ _ _ xs ys hl hl' h h' => exact ⟨xs, ys, rfl, hl, hl', h, h'⟩
theorem Rep.ptr_inv {id off : Nat} (h : Rep w s (.ptr id off) x) : ∃ b, x = .pointer (some ⟨b, off, none⟩) ∧ s.g[id]? = some (.blk b) := by
  cases h with
  | pure _ _ h => cases h
  | ptr _ _ b h => exact ⟨b, rfl, h⟩
theorem Rep.dptr_inv {cs : List V} (h : Rep w s (.dptr cs) x) : ∃ b o, x = .pointer (some ⟨b, o, none⟩) ∧ ∃ y : Nat → Value, ∀ (j : Nat) (c : V), cs[j]? = some c → Cell w s.K b (o + j) (y j) ∧ PR w s.K c (y j) := by
  cases h with
  | pure _ _ h => cases h with | dptr _ b o y hc h => exact ⟨b, o, rfl, y, fun j c hj => ⟨hc j c hj, h j c hj⟩⟩
theorem Rep.sl_inv {es : List V} {t : Option Nat} (h : Rep w s (.sl es t) x) : PR w s.K (.sl es none) x := by
  cases h with
  | pure _ _ h => cases h; constructor <;> assumption
  | tok _ _ _ h _ => exact h
theorem Rep.nil_inv (h : Rep w s .nil x) : ∃ a, x = .slice a 0 0 := by
  cases h with | pure _ _ h => cases h; exact ⟨_, rfl⟩
theorem PR.sl_inv {K : Nat → Nat → Prop} {es : List V} (h : PR w K (.sl es none) x) : ∃ a cap sz, ∃ y : Nat → Value, x = .slice a es.length cap ∧ es.length ≤ cap ∧ cap ≤ maxLen ∧ (∀ e ∈ es, e.cells.length = sz) ∧ (∀ c ∈ flat es, c.one = true) ∧
    ∀ (j : Nat) (c : V), (flat es)[j]? = some c → CellAt w K a j (y j) ∧ PR w K c (y j) := by
  cases h with
  | sl _ a cap sz y h1 h2 h3 h4 h5 h6 => exact ⟨a, cap, sz, y, rfl, h1, h2, h3, h4, fun j c hj => ⟨h5 j c hj, h6 j c hj⟩⟩
end
section
variable {w : World} {s : S} {x : Value}
theorem Rep.dptr_pr {cs : List V} (h : Rep w s (.dptr cs) x) : PR w s.K (.dptr cs) x := by
  cases h with | pure _ _ h => exact h
/-- A value without the rights to append that lie in it. -/
def V.bare : V → V
  | .agg cs => .agg (bareL cs)
  | .sl es _ => .sl es none
  | .nil => .sl [] none
  | v => v
where bareL : List V → List V
  | [] => []
  | c :: cs => c.bare :: bareL cs
theorem bareL_eq (cs : List V) : V.bare.bareL cs = cs.map V.bare := by
  induction cs with
  | nil => rfl
  | cons c cs ih => simp [V.bare.bareL, ih]
@[simp] theorem V.bare_agg (cs : List V) : (V.agg cs).bare = .agg (cs.map V.bare) := by rw [V.bare, bareL_eq]
@[simp] theorem V.bare_sl (es : List V) (t : Option Nat) : (V.sl es t).bare = .sl es none := by rw [V.bare]
/-- It leads to nothing of one's own. -/
def PureV (v : V) : Prop := ∀ (w : World) (s : S) (x : Value), Rep w s v x → PR w s.K v.bare x
theorem PureV.agg {cs : List V} (h : ∀ c ∈ cs, PureV c) : PureV (.agg cs) := fun w s x hx => by
  obtain ⟨xs, rfl, hl, hr⟩ := hx.agg_inv
  rw [V.bare_agg]
  refine .agg _ xs (by simpa using hl) fun i c x hc hx => ?_
  rw [List.getElem?_map] at hc
  cases hci : cs[i]? with
  | none => simp [hci] at hc
  | some c0 =>
    simp only [hci, Option.map_some, Option.some.injEq] at hc
    subst hc
    exact h c0 (List.mem_iff_getElem?.2 ⟨i, hci⟩) w s x (hr i c0 x hci hx)
theorem PureV.sl (es : List V) (t : Option Nat) : PureV (.sl es t) := fun _ _ _ hx => by rw [V.bare_sl]; exact hx.sl_inv
theorem PureV.int (k : IntKind) (n : Int) : PureV (.int k n) := fun w s x hx => by cases hx with | pure _ _ h => exact h
theorem PureV.bool (b : Bool) : PureV (.bool b) := fun w s x hx => by cases hx with | pure _ _ h => exact h
theorem PureV.str (l : List UInt8) : PureV (.str l) := fun w s x hx => by cases hx with | pure _ _ h => exact h
theorem PR.nil_sl {w : World} {K : Nat → Nat → Prop} (a : Option Addr) : PR w K (.sl [] none) (.slice a 0 0) :=
  .sl [] a 0 0 (fun _ => undef) (Nat.le_refl _) (Nat.zero_le _) (by simp) (by simp) (by simp) (by simp)
theorem PureV.nil : PureV .nil := fun w s x hx => by obtain ⟨a, rfl⟩ := hx.nil_inv; exact PR.nil_sl a
theorem PureV.nilptr : PureV .nilptr := fun w s x hx => by cases hx with | pure _ _ h => exact h
theorem PureV.nilfunc : PureV .nilfunc := fun w s x hx => by cases hx with | pure _ _ h => exact h
theorem PureV.niliface : PureV .niliface := fun w s x hx => by cases hx with | pure _ _ h => exact h
theorem PureV.dptr (cs : List V) : PureV (.dptr cs) := fun w s x hx => hx.dptr_pr
theorem PureV.pmap (ks vs : List V) : PureV (.pmap ks vs) := fun w s x hx => by cases hx with | pure _ _ h => exact h
theorem V.bare_one {v : V} (h : v.one = true) : v.bare.one = true ∧ v.bare.cells = [v.bare] ∧ v.cells = [v] := by
  cases v <;> first | exact ⟨rfl, rfl, rfl⟩ | simp [V.one] at h
theorem V.bare_cells (v : V) : v.bare.cells = v.cells.map V.bare := by
  cases v <;> first | rfl | simp [V.cells]
theorem V.bare_all {v : V} (h : v.cells.all V.one = true) : v.bare.cells.all V.one = true := by
  rw [V.bare_cells]
  simp only [List.all_map, List.all_eq_true, Function.comp] at h ⊢
  exact fun c hc => (V.bare_one (h c hc)).1
end
theorem flat_length {es : List V} {sz : Nat} (h : ∀ e ∈ es, e.cells.length = sz) : (flat es).length = es.length * sz := by
  induction es with
  | nil => simp
  | cons e es ih =>
    rw [flat_cons, List.length_append, ih (fun e he => h e (List.mem_cons_of_mem _ he)), h e (by simp), List.length_cons, Nat.add_mul]
    omega
theorem flat_set {es : List V} {sz : Nat} (h : ∀ e ∈ es, e.cells.length = sz) : ∀ {k : Nat}, k < es.length → ∀ el : V, flat (es.set k el) = (flat es).take (k * sz) ++ el.cells ++ (flat es).drop (k * sz + sz) := by
  induction es with
  | nil => intro k hk; simp at hk
  | cons e es ih =>
    intro k hk el
    have he := h e (by simp)
    cases k with
    | zero =>
      simp only [List.set_cons_zero, flat_cons, Nat.zero_mul, List.take_zero, List.nil_append, Nat.zero_add]
      rw [← he, List.drop_left]
    | succ k =>
      have hk' : k < es.length := by simpa using hk
      simp only [List.set_cons_succ, flat_cons, ih (fun e he => h e (List.mem_cons_of_mem _ he)) hk' el]
      have e1 : (k + 1) * sz = e.cells.length + k * sz := by rw [he, Nat.add_mul]; omega
      rw [e1, Nat.add_assoc, List.take_length_add_append, List.drop_length_add_append]
      simp only [List.append_assoc]
end Go.Duo

namespace Go.Duo
open Go
/-- A type's cells, and whether it is a struct or an array. -/
def lay (P : Program) (t : TypeId) : Option (Nat × Bool) :=
  match P.info? t, P.underlying t with
  | some i, some d => match d with
    | .struct _ | .array _ _ => some (i.size, true)
    | _ => if i.size = 1 then some (1, false) else none
  | _, _ => none
/-- So many cells as one value. -/
def pack (g : Bool) (n : Nat) (cs : List V) : V := if g then .agg (cs.take n) else cs.headD .undef
def loadP (P : Program) (t : TypeId) (st : List O) (x : V) (K : V → Prop) : Prop :=
  match lay P t with
  | none => False
  | some (n, g) => match x with
    | .ptr id off => match st[id]? with
      | some (.box _ cs) => off + n ≤ cs.length ∧ K (pack g n (cs.drop off))
      | _ => False
    | .dptr cs => n ≤ cs.length ∧ K (pack g n cs)
    | .rptr id ver off => match st[id]? with
      | some (.arr _ _ v es) => ver = v ∧ off + n ≤ (flat es).length ∧ K (pack g n ((flat es).drop off))
      | _ => False
    | _ => False
def splice (cs : List V) (off : Nat) (ys : List V) : List V := cs.take off ++ ys ++ cs.drop (off + ys.length)
def storeP (P : Program) (t : TypeId) (st : List O) (x y : V) (K : List O → Prop) : Prop :=
  match lay P t with
  | none => False
  | some (n, _) => match x with
    | .ptr id off => match st[id]? with
      | some (.box t' cs) => y.cells.length = n ∧ y.cells.all V.one = true ∧ off + n ≤ cs.length ∧ K (st.set id (.box t' (splice cs off y.cells)))
      | _ => False
    | .rptr id ver off => match st[id]? with
      | some (.arr e sz v es) => ver = v ∧ n = sz ∧ off % sz = 0 ∧ off / sz < es.length ∧ y.cells.length = n ∧ y.cells.all V.one = true ∧ (∀ c ∈ y.cells, PureV c) ∧ K (st.set id (.arr e sz v (es.set (off / sz) y.bare)))
      | _ => False
    | _ => False
/-- A field's place and cells. -/
def fld (P : Program) (s : TypeId) (f : Nat) : Option (Nat × Nat × Bool) :=
  match P.underlying s with
  | some (.struct fs) => (fs[f]?).bind fun f => (lay P f.type).map fun n => (f.offset, n)
  | _ => none
/-- An element's type, cells and bytes. -/
def elt (P : Program) (t : TypeId) : Option (TypeId × Nat × Nat) :=
  match P.underlying t with
  | some (.slice e) => (P.info? e).bind fun i => i.zero.bind fun z => if z.cells.size = i.size ∧ 0 < i.size then some (e, i.size, i.bytes) else none
  | _ => none
/-- An array's length and an element's cells. -/
def arr (P : Program) (t : TypeId) : Option (Nat × Nat × Bool) :=
  match P.underlying t with
  | some (.array n e) => (lay P e).map fun m => (n, m)
  | _ => none
def zro (P : Program) (t : TypeId) : Option (List V) := ((P.info? t).bind (·.zero)).map fun z => z.cells.toList.map V.ofConst
def intP (op : BinOp) (k : IntKind) (a : Int) (k' : IntKind) (b : Int) (K : V → Prop) : Prop :=
  match op with
  | .add => k = k' ∧ K (.int k (k.wrap (a + b)))
  | .sub => k = k' ∧ K (.int k (k.wrap (a - b)))
  | .mul => k = k' ∧ K (.int k (k.wrap (a * b)))
  | .quo => k = k' ∧ b ≠ 0 ∧ K (.int k (k.wrap (a.tdiv b)))
  | .rem => k = k' ∧ b ≠ 0 ∧ K (.int k (a.tmod b))
  | .eql => k = k' ∧ K (.bool (decide (a = b)))
  | .neq => k = k' ∧ K (.bool (decide (a ≠ b)))
  | .lss => k = k' ∧ K (.bool (decide (a < b)))
  | .leq => k = k' ∧ K (.bool (decide (a ≤ b)))
  | .gtr => k = k' ∧ K (.bool (decide (b < a)))
  | .geq => k = k' ∧ K (.bool (decide (b ≤ a)))
  | .shl => 0 ≤ b ∧ K (.int k (k.wrap (a * 2 ^ (min b.toNat k.bits))))
  | .shr => 0 ≤ b ∧ K (.int k (a.fdiv (2 ^ (min b.toNat k.bits))))
  | .and => k = k' ∧ K (.int k (k.wrap ((BitVec.ofInt k.bits a &&& BitVec.ofInt k.bits b).toNat)))
  | .or => k = k' ∧ K (.int k (k.wrap ((BitVec.ofInt k.bits a ||| BitVec.ofInt k.bits b).toNat)))
  | _ => False
def strP (op : BinOp) (a b : List UInt8) (K : V → Prop) : Prop :=
  match op with
  | .add => a.length + b.length ≤ 9223372036854775807 ∧ K (.str (a ++ b))
  | .eql => K (.bool (decide (a = b)))
  | .neq => K (.bool (decide (a ≠ b)))
  | .lss => K (.bool (Op.bytesLess a b))
  | _ => False
/-- The kinds of a plain struct's fields, one cell each: 0 a number, 1 a string, 2 a bool. -/
def sKinds (P : Program) : Nat → List Field → Option (List Nat)
  | _, [] => some []
  | i, f :: fs => if (f.name == "_") = false ∧ f.offset = i ∧ lay P f.type = some (1, false) then
      match P.underlying f.type with
      | some (.int _) => (sKinds P (i + 1) fs).map (0 :: ·)
      | some .string => (sKinds P (i + 1) fs).map (1 :: ·)
      | some .bool => (sKinds P (i + 1) fs).map (2 :: ·)
      | _ => none
    else none
def sEq (P : Program) (t : TypeId) : Option (List Nat) :=
  match P.underlying t with
  | some (.struct fs) => if P.eqGuardType P.depth t = false ∧ P.stoodInHeld t = false then sKinds P 0 fs.toList else none
  | some (.array n e) => if P.eqGuardType P.depth t = false ∧ lay P e = some (1, false) then match P.underlying e with
      | some (.int _) => some (List.replicate n 0)
      | some .string => some (List.replicate n 1)
      | some .bool => some (List.replicate n 2)
      | _ => none
    else none
  | _ => none
def cmpV : Nat → V → V → Option Bool
  | 0, .int k a, .int k' b => if k = k' then some (decide (a = b)) else none
  | 1, .str a, .str b => some (decide (a = b))
  | 2, .bool a, .bool b => some (decide (a = b))
  | _, _, _ => none
def cmpL : List Nat → List V → List V → Option Bool
  | [], [], [] => some true
  | k :: ks, x :: xs, y :: ys => match cmpV k x y, cmpL ks xs ys with
    | some a, some b => some (a && b)
    | _, _ => none
  | _, _, _ => none
def eqP (P : Program) (xt : TypeId) (op : BinOp) (a b : List V) (K : V → Prop) : Prop :=
  match sEq P xt with
  | some ks => match cmpL ks a b with
    | some r => match op with
      | .eql => K (.bool r)
      | .neq => K (.bool (!r))
      | _ => False
    | none => False
  | none => False
def binP (P : Program) (xt : TypeId) (op : BinOp) (x y : V) (K : V → Prop) : Prop :=
  match x, y with
  | .int k a, .int k' b => intP op k a k' b K
  | .bool a, .bool b => match op with
    | .eql => P.underlying xt = some .bool ∧ K (.bool (decide (a = b)))
    | .neq => P.underlying xt = some .bool ∧ K (.bool (decide (a ≠ b)))
    | _ => False
  | .str a, .str b => strP op a b K
  | .agg a, .agg b => eqP P xt op a b K
  | _, _ => False
def unP (op : UnOp) (x : V) (K : V → Prop) : Prop :=
  match op, x with
  | .not, .bool b => K (.bool (!b))
  | .neg, .int k n => K (.int k (k.wrap (0 - n)))
  | _, _ => False
section
variable {P : Program} {w : World} {s : S} {x y : Value} {a b : V} {K : V → Prop}
theorem toList_mk (l : List UInt8) : (⟨l.toArray⟩ : ByteArray).toList = l := by
  rw [ByteArray.toList_eq]
theorem int_sound {op : BinOp} {k k' : IntKind} {m n : Int} {xt : TypeId} (h : intP op k m k' n K) : ∃ v z, (binOp op xt (.int k m) (.int k' n)).run P w = .ok z w ∧ Rep w s v z ∧ K v := by
  cases op <;> simp only [intP] at h
  case shl =>
    obtain ⟨h0, h⟩ := h
    refine ⟨_, _, ?_, .pure _ _ (.int _ _), h⟩
    simp only [binOp, Op.shift]
    rw [if_neg (by omega)]
    rfl
  case shr =>
    obtain ⟨h0, h⟩ := h
    refine ⟨_, _, ?_, .pure _ _ (.int _ _), h⟩
    simp only [binOp, Op.shift]
    rw [if_neg (by omega)]
    rfl
  case quo =>
    obtain ⟨rfl, h0, h⟩ := h
    refine ⟨_, _, ?_, .pure _ _ (.int _ _), h⟩
    simp [binOp, Op.intDiv, h0]
  case rem =>
    obtain ⟨rfl, h0, h⟩ := h
    refine ⟨_, _, ?_, .pure _ _ (.int _ _), h⟩
    simp [binOp, Op.intDiv, h0]
  case and =>
    obtain ⟨rfl, h⟩ := h
    refine ⟨_, _, ?_, .pure _ _ (.int _ _), h⟩
    simp [binOp, Op.intBits]
  case or =>
    obtain ⟨rfl, h⟩ := h
    refine ⟨_, _, ?_, .pure _ _ (.int _ _), h⟩
    simp [binOp, Op.intBits]
  all_goals (first
    | (obtain ⟨rfl, h⟩ := h; refine ⟨_, _, ?_, .pure _ _ (.int _ _), h⟩; simp [binOp, Op.intArith]; done)
    | (obtain ⟨rfl, h⟩ := h; refine ⟨_, _, ?_, .pure _ _ (.bool _), h⟩; simp [binOp, Op.intCmp]; done)
    | (obtain ⟨rfl, h⟩ := h; refine ⟨_, _, ?_, .pure _ _ (.bool _), h⟩; simp [binOp, Op.intCmp]; by_cases e : m = n <;> simp [e]; done))
theorem str_sound {op : BinOp} {m n : List UInt8} {xt : TypeId} (h : strP op m n K) : ∃ v z, (binOp op xt (.string ⟨m.toArray⟩) (.string ⟨n.toArray⟩)).run P w = .ok z w ∧ Rep w s v z ∧ K v := by
  cases op <;> simp only [strP] at h
  case add =>
    obtain ⟨h0, h⟩ := h
    refine ⟨_, _, ?_, .pure _ _ (.str _), h⟩
    have hs : ((ByteArray.mk m.toArray).size : Nat) = m.length := by simp [ByteArray.size]
    have hs' : ((ByteArray.mk n.toArray).size : Nat) = n.length := by simp [ByteArray.size]
    simp only [binOp, Op.stringOp, hs, hs']
    rw [if_neg (by simp [IntKind.max, IntKind.signed, IntKind.bits]; omega)]
    show Result.ok _ _ = _
    congr 2
  all_goals (refine ⟨_, _, ?_, .pure _ _ (.bool _), h⟩; simp only [binOp, Op.stringOp, toList_mk, Sem.run_pure]; try (by_cases e : m = n <;> simp [e]))
theorem eqGuard_calm (op : BinOp) (t : TypeId) (ox oy : Operand) (hx : (∀ cs, x ≠ .agg cs) ∧ x ≠ .nilIface) : (eqGuard op t ox oy x y).run P w = .ok () w := by
  unfold eqGuard
  cases op <;> first | rfl | (cases x <;> first | rfl | exact absurd rfl (hx.1 _) | exact absurd rfl hx.2)
theorem run_equal_bool {xt : TypeId} (p q : Bool) (h : P.underlying xt = some .bool) : (Op.equal xt (.bool p) (.bool q)).run P w = .ok (p == q) w := by
  unfold Op.equal
  rw [show Op.maxDepth = 9999 + 1 from rfl]
  unfold Op.equalIn
  rw [Sem.run_bind, run_underlying h]
  rfl
theorem lay_runs {t : TypeId} {n : Nat} {g : Bool} (h : lay P t = some (n, g)) (w : World) : (sizeOf t).run P w = .ok n w ∧ (isAgg t).run P w = .ok g w ∧ (g = false → n = 1) := by
  unfold lay at h
  cases hi : P.info? t with
  | none => simp [hi] at h
  | some i =>
    cases hd : P.underlying t with
    | none => simp [hi, hd] at h
    | some d =>
      rw [hi, hd] at h
      have hs : ∀ m, i.size = m → (sizeOf t).run P w = .ok m w := fun m hm => by simp [sizeOf, typeInfo, hi, hm]
      have ha : ∀ b, (match d with | .struct _ | .array _ _ => true | _ => false) = b → (isAgg t).run P w = .ok b w := fun b hb => by
        unfold isAgg
        rw [Sem.run_bind, run_underlying hd]
        subst hb
        cases d <;> rfl
      cases d <;> simp only [Option.some.injEq, Prod.mk.injEq] at h
      case struct => obtain ⟨rfl, rfl⟩ := h; exact ⟨hs _ rfl, ha _ rfl, fun e => by cases e⟩
      case array => obtain ⟨rfl, rfl⟩ := h; exact ⟨hs _ rfl, ha _ rfl, fun e => by cases e⟩
      all_goals
        split at h
        · simp only [Option.some.injEq, Prod.mk.injEq] at h
          obtain ⟨rfl, rfl⟩ := h
          exact ⟨hs _ (by assumption), ha _ rfl, fun _ => rfl⟩
        · cases h
theorem run_part {t : TypeId} {n : Nat} {g : Bool} (hl : lay P t = some (n, g)) {xs : List Value} {off : Nat} (hoff : off + n ≤ xs.length) : (part t xs.toArray off).run P w = .ok (if g then .agg ((xs.drop off).take n).toArray else ((xs.drop off).take n).headD undef) w := by
  obtain ⟨h1, h2, h3⟩ := lay_runs hl w
  unfold part
  rw [Sem.run_bind, h2, Result.andThen_ok]
  cases g with
  | true =>
    simp only [if_true]
    rw [Sem.run_bind, h1, Result.andThen_ok]
    simp only [Sem.run_pure, Result.ok.injEq, Value.agg.injEq, and_true]
    apply Array.ext'
    simp
  | false =>
    obtain rfl := h3 rfl
    have hlt : off < xs.length := by omega
    simp only [Bool.false_eq_true, if_false, List.getElem?_toArray, List.getElem?_eq_getElem hlt, Sem.run_pure]
    rw [List.drop_eq_getElem_cons hlt]
    rfl
theorem cmpV_sound {d k : Nat} {f : Field} {c e : V} {x y : Value} {r : Bool} (hk : match P.underlying f.type with | some (.int _) => k = 0 | some .string => k = 1 | some .bool => k = 2 | _ => False) (hx : Rep w s c x) (hy : Rep w s e y) (h : cmpV k c e = some r) : (Op.equalIn (d + 1) f.type x y).run P w = .ok r w := by
  cases hu : P.underlying f.type with
  | none => simp [hu] at hk
  | some u =>
    rw [hu] at hk
    cases u <;> simp only at hk <;> subst hk
    case bool =>
      cases c <;> cases e <;> simp only [cmpV, Option.some.injEq, reduceCtorEq] at h
      cases hx.bool_inv
      cases hy.bool_inv
      rw [run_equalIn_bool' w d _ _ _ hu, ← h]
      rename_i p q
      cases p <;> cases q <;> rfl
    case int =>
      cases c <;> cases e <;> simp only [cmpV, reduceCtorEq] at h
      cases hx.int_inv
      cases hy.int_inv
      split at h
      · subst_vars
        simp only [Option.some.injEq] at h
        rw [run_equalIn_int w d _ _ _ _ _ hu, ← h]
        rfl
      · cases h
    case string =>
      cases c <;> cases e <;> simp only [cmpV, Option.some.injEq, reduceCtorEq] at h
      cases hx.str_inv
      cases hy.str_inv
      rw [run_equalIn_string w d _ _ _ hu, ← h]
      rename_i p q
      congr 1
      rw [ByteArray.toList_eq, ByteArray.toList_eq]
      show (p.toArray.toList == q.toArray.toList) = decide (p = q)
      simp only [List.toList_toArray]
      by_cases e : p = q
      · subst e; simp
      · rw [decide_eq_false e]; exact beq_false_of_ne e
theorem eqFields_sound {d : Nat} {X Y : List Value} : ∀ (fs : List Field) (i : Nat) (ks : List Nat) (a b : List V) (r : Bool), sKinds P i fs = some ks → cmpL ks a b = some r → i + a.length ≤ X.length → i + b.length ≤ Y.length →
    (∀ (j : Nat) (c : V) (x : Value), a[j]? = some c → X[i + j]? = some x → Rep w s c x) → (∀ (j : Nat) (c : V) (x : Value), b[j]? = some c → Y[i + j]? = some x → Rep w s c x) → (Op.eqFields (d + 1) X.toArray Y.toArray fs).run P w = .ok r w := by
  intro fs
  induction fs with
  | nil =>
    intro i ks a b r hk hc _ _ _ _
    simp only [sKinds, Option.some.injEq] at hk
    subst hk
    cases a <;> cases b <;> simp only [cmpL, Option.some.injEq, reduceCtorEq] at hc
    subst hc
    simp [Op.eqFields]
  | cons f fs ih =>
    intro i ks a b r hk hc hla hlb ha hb
    unfold sKinds at hk
    split at hk
    · rename_i hcond
      obtain ⟨hn, ho, hl⟩ := hcond
      have hk' : ∃ k ks', ks = k :: ks' ∧ sKinds P (i + 1) fs = some ks' ∧ (match P.underlying f.type with | some (.int _) => k = 0 | some .string => k = 1 | some .bool => k = 2 | _ => False) := by
        cases hu : P.underlying f.type with
        | none => simp [hu] at hk
        | some u =>
          rw [hu] at hk
          cases u <;> simp only [reduceCtorEq, Option.map_eq_some_iff] at hk <;> (obtain ⟨ks', h1, rfl⟩ := hk; exact ⟨_, ks', rfl, h1, rfl⟩)
      obtain ⟨k, ks', rfl, hks, hkk⟩ := hk'
      cases a with
      | nil => cases b <;> simp [cmpL] at hc
      | cons c a =>
        cases b with
        | nil => simp [cmpL] at hc
        | cons e b =>
          simp only [cmpL] at hc
          cases hv : cmpV k c e with
          | none => simp [hv] at hc
          | some p =>
            cases hq : cmpL ks' a b with
            | none => simp [hv, hq] at hc
            | some q =>
              rw [hv, hq] at hc
              simp only [Option.some.injEq] at hc
              subst hc
              simp only [List.length_cons] at hla hlb
              have hx : (part f.type X.toArray f.offset).run P w = .ok (((X.drop i).take 1).headD undef) w := by rw [ho]; exact run_part hl (by omega)
              have hy : (part f.type Y.toArray f.offset).run P w = .ok (((Y.drop i).take 1).headD undef) w := by rw [ho]; exact run_part hl (by omega)
              have hX : ((X.drop i).take 1).headD undef = X[i]'(by omega) := by rw [List.drop_eq_getElem_cons (by omega)]; rfl
              have hY : ((Y.drop i).take 1).headD undef = Y[i]'(by omega) := by rw [List.drop_eq_getElem_cons (by omega)]; rfl
              rw [hX] at hx
              rw [hY] at hy
              have he := cmpV_sound (d := d) (f := f) hkk (ha 0 c _ rfl (List.getElem?_eq_getElem (by omega))) (hb 0 e _ rfl (List.getElem?_eq_getElem (by omega))) hv
              have hr := ih (i + 1) ks' a b q hks hq (by omega) (by omega) (fun j c x hc hx => ha (j + 1) c x (by simpa using hc) (by rw [show i + (j + 1) = i + 1 + j by omega]; exact hx)) (fun j c x hc hx => hb (j + 1) c x (by simpa using hc) (by rw [show i + (j + 1) = i + 1 + j by omega]; exact hx))
              have hn' : f.name ≠ "_" := by simpa using hn
              rw [Op.eqFields]
              simp only [if_pos hn', Sem.run_bind, hx, hy, Result.andThen_ok]
              simp only [Nat.add_zero] at he
              rw [he]
              simp only [Result.andThen_ok]
              cases p
              · simp
              · simpa using hr
    · cases hk
theorem eqItems_sound {d k : Nat} {e : TypeId} {X Y : List Value} (hl : lay P e = some (1, false)) (hk : match P.underlying e with | some (.int _) => k = 0 | some .string => k = 1 | some .bool => k = 2 | _ => False) :
    ∀ (m i : Nat) (a b : List V) (r : Bool), cmpL (List.replicate m k) a b = some r → i + a.length ≤ X.length → i + b.length ≤ Y.length →
    (∀ (j : Nat) (c : V) (x : Value), a[j]? = some c → X[i + j]? = some x → Rep w s c x) → (∀ (j : Nat) (c : V) (x : Value), b[j]? = some c → Y[i + j]? = some x → Rep w s c x) → (Op.eqItems (d + 1) e 1 X.toArray Y.toArray (List.range' i m)).run P w = .ok r w := by
  intro m
  induction m with
  | zero =>
    intro i a b r hc _ _ _ _
    cases a <;> cases b <;> simp only [List.replicate_zero, cmpL, Option.some.injEq, reduceCtorEq] at hc
    subst hc
    simp [Op.eqItems]
  | succ m ih =>
    intro i a b r hc hla hlb ha hb
    rw [List.replicate_succ] at hc
    cases a with
    | nil => cases b <;> simp [cmpL] at hc
    | cons c a =>
      cases b with
      | nil => simp [cmpL] at hc
      | cons e' b =>
        simp only [cmpL] at hc
        cases hv : cmpV k c e' with
        | none => simp [hv] at hc
        | some p =>
          cases hq : cmpL (List.replicate m k) a b with
          | none => simp [hv, hq] at hc
          | some q =>
            rw [hv, hq] at hc
            simp only [Option.some.injEq] at hc
            subst hc
            simp only [List.length_cons] at hla hlb
            have hx : (part e X.toArray (i * 1)).run P w = .ok (((X.drop i).take 1).headD undef) w := by rw [Nat.mul_one]; exact run_part hl (by omega)
            have hy : (part e Y.toArray (i * 1)).run P w = .ok (((Y.drop i).take 1).headD undef) w := by rw [Nat.mul_one]; exact run_part hl (by omega)
            have hX : ((X.drop i).take 1).headD undef = X[i]'(by omega) := by rw [List.drop_eq_getElem_cons (by omega)]; rfl
            have hY : ((Y.drop i).take 1).headD undef = Y[i]'(by omega) := by rw [List.drop_eq_getElem_cons (by omega)]; rfl
            rw [hX] at hx
            rw [hY] at hy
            have he := cmpV_sound (d := d) (f := { (default : Field) with type := e }) hk (ha 0 c _ rfl (List.getElem?_eq_getElem (by omega))) (hb 0 e' _ rfl (List.getElem?_eq_getElem (by omega))) hv
            have hr := ih (i + 1) a b q hq (by omega) (by omega) (fun j c x hc hx => ha (j + 1) c x (by simpa using hc) (by rw [show i + (j + 1) = i + 1 + j by omega]; exact hx)) (fun j c x hc hx => hb (j + 1) c x (by simpa using hc) (by rw [show i + (j + 1) = i + 1 + j by omega]; exact hx))
            rw [List.range'_succ, Op.eqItems]
            simp only [Sem.run_bind, hx, hy, Result.andThen_ok]
            simp only [Nat.add_zero] at he
            rw [he]
            simp only [Result.andThen_ok]
            cases p
            · simp
            · simpa using hr
theorem bin_sound {op : BinOp} {xt : TypeId} {ox oy : Operand} (hx : Rep w s a x) (hy : Rep w s b y) (h : binP P xt op a b K) :
    ∃ v z, (do eqGuard op xt ox oy x y; binOp op xt x y : Sem Value).run P w = .ok z w ∧ Rep w s v z ∧ K v := by
  cases a with
  | int k m =>
    cases b with
    | int k' n =>
      cases hx.int_inv
      cases hy.int_inv
      obtain ⟨v, z, h1, h2, h3⟩ := int_sound (P := P) (w := w) (s := s) (xt := xt) h
      refine ⟨v, z, ?_, h2, h3⟩
      rw [Sem.run_bind, eqGuard_calm _ _ _ _ ⟨fun _ => by simp, by simp⟩]
      exact h1
    | _ => exact h.elim
  | str m =>
    cases b with
    | str n =>
      cases hx.str_inv
      cases hy.str_inv
      obtain ⟨v, z, h1, h2, h3⟩ := str_sound (P := P) (w := w) (s := s) (xt := xt) h
      refine ⟨v, z, ?_, h2, h3⟩
      rw [Sem.run_bind, eqGuard_calm _ _ _ _ ⟨fun _ => by simp, by simp⟩]
      exact h1
    | _ => exact h.elim
  | bool p =>
    cases b with
    | bool q =>
      cases hx.bool_inv
      cases hy.bool_inv
      cases op with
      | eql =>
        refine ⟨_, .bool (p == q), ?_, ?_, h.2⟩
        · rw [Sem.run_bind, eqGuard_calm _ _ _ _ ⟨fun _ => by simp, by simp⟩]
          show (Sem.run P (do pure (.bool (← Op.equal xt (.bool p) (.bool q))) : Sem Value) w) = _
          rw [Sem.run_bind, run_equal_bool p q h.1]
          rfl
        · cases p <;> cases q <;> exact .pure _ _ (.bool _)
      | neq =>
        refine ⟨_, .bool (!(p == q)), ?_, ?_, h.2⟩
        · rw [Sem.run_bind, eqGuard_calm _ _ _ _ ⟨fun _ => by simp, by simp⟩]
          show (Sem.run P (do pure (.bool (!(← Op.equal xt (.bool p) (.bool q)))) : Sem Value) w) = _
          rw [Sem.run_bind, run_equal_bool p q h.1]
          rfl
        · cases p <;> cases q <;> exact .pure _ _ (.bool _)
      | _ => exact h.elim
    | _ => exact h.elim
  | agg p =>
    cases b with
    | agg q =>
      obtain ⟨xs, rfl, hl1, hr1⟩ := hx.agg_inv
      obtain ⟨ys, rfl, hl2, hr2⟩ := hy.agg_inv
      unfold binP eqP at h
      cases hse : sEq P xt with
      | none => simp [hse] at h
      | some ks =>
        cases hcm : cmpL ks p q with
        | none => simp [hse, hcm] at h
        | some r =>
          simp only [hse, hcm] at h
          unfold sEq at hse
          split at hse
          · rename_i fs hu
            split at hse
            · rename_i hcond
              have hf : P.fieldsOf xt = fs := by simp [Program.fieldsOf, hu]
              have hrun : (Op.equalIn 10000 xt (.agg xs.toArray) (.agg ys.toArray)).run P w = .ok r w := by
                rw [run_equalIn_struct (P := P) w 9999 xt _ _ (by rw [hf]; exact hu) hcond.2, hf]
                exact eqFields_sound (d := 9998) fs.toList 0 ks p q r hse hcm (by omega) (by omega) (fun j c x hc hx => hr1 j c x hc (by simpa using hx)) (fun j c x hc hx => hr2 j c x hc (by simpa using hx))
              cases op with
              | eql => exact ⟨_, .bool r, by rw [Sem.run_bind, run_eqGuard_agg w _ _ _ _ _ _ hcond.1, Result.andThen_ok, run_eql_struct, hrun]; rfl, .pure _ _ (.bool _), h⟩
              | neq => exact ⟨_, .bool (!r), by rw [Sem.run_bind, run_eqGuard_agg w _ _ _ _ _ _ hcond.1, Result.andThen_ok, run_neq_struct, hrun]; rfl, .pure _ _ (.bool _), h⟩
              | _ => exact h.elim
            · cases hse
          · rename_i n e hu
            split at hse
            · rename_i hcond
              obtain ⟨k, rfl, hk⟩ : ∃ k, ks = List.replicate n k ∧ (match P.underlying e with | some (.int _) => k = 0 | some .string => k = 1 | some .bool => k = 2 | _ => False) := by
                cases hue : P.underlying e with
                | none => rw [hue] at hse; cases hse
                | some u => rw [hue] at hse; cases u <;> simp only [Option.some.injEq, reduceCtorEq] at hse <;> exact ⟨_, hse.symm, rfl⟩
              obtain ⟨i, hi, hsz⟩ : ∃ i, P.info? e = some i ∧ P.cellsOf e = 1 := by
                have hlay := hcond.2
                unfold lay at hlay
                split at hlay
                · rename_i i d hi hd
                  have hc : P.cellsOf e = i.size := by simp [Program.cellsOf, hi]
                  split at hlay
                  · simp at hlay
                  · simp at hlay
                  · split at hlay
                    · rename_i h1; exact ⟨i, hi, hc.trans h1⟩
                    · cases hlay
                · cases hlay
              have hrun : (Op.equalIn 10000 xt (.agg xs.toArray) (.agg ys.toArray)).run P w = .ok r w := by
                rw [run_equalIn_array w 9999 _ _ hu hi, hsz, List.range_eq_range']
                exact eqItems_sound (d := 9998) hcond.2 hk n 0 p q r hcm (by omega) (by omega) (fun j c x hc hx => hr1 j c x hc (by simpa using hx)) (fun j c x hc hx => hr2 j c x hc (by simpa using hx))
              cases op with
              | eql => exact ⟨_, .bool r, by rw [Sem.run_bind, run_eqGuard_agg w _ _ _ _ _ _ hcond.1, Result.andThen_ok, run_eql_struct, hrun]; rfl, .pure _ _ (.bool _), h⟩
              | neq => exact ⟨_, .bool (!r), by rw [Sem.run_bind, run_eqGuard_agg w _ _ _ _ _ _ hcond.1, Result.andThen_ok, run_neq_struct, hrun]; rfl, .pure _ _ (.bool _), h⟩
              | _ => exact h.elim
            · cases hse
          · cases hse
    | _ => exact h.elim
  | _ => exact h.elim
theorem un_sound {op : UnOp} (hx : Rep w s a x) (h : unP op a K) : ∃ v z, (Op.unary op x).run P w = .ok z w ∧ Rep w s v z ∧ K v := by
  unfold unP at h
  split at h
  · cases hx.bool_inv
    exact ⟨_, _, rfl, .pure _ _ (.bool _), h⟩
  · cases hx.int_inv
    exact ⟨_, _, rfl, .pure _ _ (.int _ _), h⟩
  · exact h.elim
theorem run_loadVar {t : TypeId} {n : Nat} {g : Bool} (hl : lay P t = some (n, g)) {ad : Addr} {xs : List Value} (hn : xs.length = n) (hc : ∀ j v, xs[j]? = some v → w.cell? (ad.add j) = some v) :
    (loadVar t ad).run P w = .ok (if g then .agg xs.toArray else xs.headD undef) w := by
  obtain ⟨h1, h2, h3⟩ := lay_runs hl w
  unfold loadVar
  rw [Sem.run_bind, h2, Result.andThen_ok]
  cases g with
  | true =>
    simp only [if_true]
    rw [Sem.run_bind, h1, Result.andThen_ok, Sem.run_bind, ← hn, run_loadCells_list w ad xs hc]
    rfl
  | false =>
    obtain rfl := h3 rfl
    match xs, hn with
    | [v], _ =>
      have := hc 0 v rfl
      simp only [Addr.add, if_true] at this
      simp [this]
theorem addr_add (b o j : Nat) : (⟨b, o, none⟩ : Addr).add j = ⟨b, o + j, none⟩ := by
  unfold Addr.add
  split <;> simp_all
theorem rep_pack {n : Nat} {g : Bool} {cs : List V} {xs : List Value} (hg : g = false → n = 1) (hn : n ≤ cs.length) (hx : xs.length = n) (h : ∀ (j : Nat) (c : V) (z : Value), j < n → cs[j]? = some c → xs[j]? = some z → Rep w s c z) :
    Rep w s (pack g n cs) (if g then .agg xs.toArray else xs.headD undef) := by
  cases g with
  | true =>
    simp only [pack, if_true]
    refine .agg _ _ (by simp; omega) fun i c z hc hz => ?_
    have hi : i < n := hx ▸ (List.getElem?_eq_some_iff.1 hz).1
    rw [List.getElem?_take_of_lt hi] at hc
    exact h i c z hi hc hz
  | false =>
    obtain rfl := hg rfl
    match xs, hx, cs, hn with
    | [z], _, c :: cs, _ => exact h 0 c z (by omega) rfl rfl
theorem load_sound {gl : Nat → V} (hs : Sim P gl w s) {t : TypeId} (hx : Rep w s a x) (h : loadP P t s.st a K) : ∃ v z, (Instr.loadAt t x).run P w = .ok z w ∧ Rep w s v z ∧ K v := by
  unfold loadP at h
  cases hl : lay P t with
  | none => simp [hl] at h
  | some ng =>
    obtain ⟨n, g⟩ := ng
    rw [hl] at h
    simp only at h
    have h3 := (lay_runs hl w).2.2
    cases a with
    | ptr id off =>
      simp only at h
      obtain ⟨b, rfl, hg⟩ := hx.ptr_inv
      cases ho : s.st[id]? with
      | none => simp [ho] at h
      | some o =>
        rw [ho] at h
        cases o with
        | box t' cs =>
          simp only at h
          obtain ⟨hn, hK⟩ := h
          obtain ⟨arr, harr, hsz, hrep⟩ := hs.obj id _ _ ho hg
          have hsz' : arr.toList.length = cs.length := by simpa using hsz
          refine ⟨_, _, ?_, rep_pack (xs := (arr.toList.drop off).take n) h3 (by simp; omega) (by simp; omega) (fun j c z hj hc hz => ?_), hK⟩
          · show (loadVar t ⟨b, off, none⟩).run P w = _
            refine run_loadVar hl (by simp; omega) fun j v hj => ?_
            have hjn : j < n := by have := (List.getElem?_eq_some_iff.1 hj).1; simp at this; omega
            rw [List.getElem?_take_of_lt hjn, List.getElem?_drop] at hj
            rw [addr_add, cell_of_row w b (off + j) arr t' (0, 0) harr]
            simpa using hj
          · rw [List.getElem?_take_of_lt hj, List.getElem?_drop] at hz
            rw [List.getElem?_drop] at hc
            exact hrep _ c z hc (by simpa using hz)
        | _ => exact h.elim
    | dptr cs =>
      simp only at h
      obtain ⟨hn, hK⟩ := h
      obtain ⟨b, o, rfl, y, hy⟩ := hx.dptr_inv
      have hcs : ∀ j, j < n → ∃ c, cs[j]? = some c := fun j hj => ⟨cs[j]'(by omega), by rw [List.getElem?_eq_getElem]⟩
      refine ⟨_, _, ?_, rep_pack (xs := (List.range n).map y) h3 hn (by simp) (fun j c z hj hc hz => ?_), hK⟩
      · show (loadVar t ⟨b, o, none⟩).run P w = _
        refine run_loadVar hl (by simp) fun j v hj => ?_
        have hjn : j < n := by have := (List.getElem?_eq_some_iff.1 hj).1; simpa using this
        obtain ⟨c, hc⟩ := hcs j hjn
        rw [List.getElem?_map, List.getElem?_range hjn] at hj
        simp only [Option.map_some, Option.some.injEq] at hj
        subst hj
        rw [addr_add]
        exact (hy j c hc).1.1
      · rw [List.getElem?_map, List.getElem?_range hj] at hz
        simp only [Option.map_some, Option.some.injEq] at hz
        subst hz
        exact .pure _ _ (hy j c hc).2
    | rptr id ver off =>
      simp only at h
      have hr : RptrOK s id ver off x := by cases hx with | pure _ _ h => cases h | rptr _ _ _ _ _ h => exact h
      obtain ⟨o', ho, hm⟩ := hr
      rw [ho] at h
      cases o' with
      | arr e' sz' v es =>
        obtain ⟨rfl, hn, hK⟩ := h
        obtain ⟨y, b, hg, hb, rfl⟩ := hm.2 rfl
        obtain ⟨xs, hown, hsz, h1, hxl, hpr⟩ := hs.obj id _ _ ho hg
        refine ⟨_, _, ?_, rep_pack (xs := (xs.drop off).take n) h3 (by simp; omega) (by simp; omega) (fun j c z hj hc hz => ?_), hK⟩
        · show (loadVar t ⟨b, off, none⟩).run P w = _
          refine run_loadVar hl (by simp; omega) fun j v hj => ?_
          have hjn : j < n := by have := (List.getElem?_eq_some_iff.1 hj).1; simp at this; omega
          rw [List.getElem?_take_of_lt hjn, List.getElem?_drop] at hj
          have := hown.cells hb (off + j) v hj
          rw [addr_add] at this ⊢
          rwa [Nat.zero_add] at this
        · rw [List.getElem?_take_of_lt hj, List.getElem?_drop] at hz
          rw [List.getElem?_drop] at hc
          exact .pure _ _ (hpr _ c z hc hz)
      | _ => exact h.elim
    | _ => exact h.elim
theorem cells_rep (h : Rep w s a x) (h1 : a.cells.all V.one = true) : ∃ xs : List Value, x.cells.toList = xs ∧ a.cells.length = xs.length ∧ (∀ (j : Nat) (c : V) (z : Value), a.cells[j]? = some c → xs[j]? = some z → Rep w s c z) ∧ ∀ z ∈ xs, z.oneCell' = true := by
  cases a with
  | agg cs =>
    obtain ⟨xs, rfl, hl, hr⟩ := h.agg_inv
    refine ⟨xs, by simp [Value.cells], hl, hr, fun z hz => ?_⟩
    obtain ⟨i, hi, rfl⟩ := List.mem_iff_getElem.1 hz
    refine (hr i (cs[i]'(by omega)) xs[i] (by rw [List.getElem?_eq_getElem]) (by rw [List.getElem?_eq_getElem])).oneCell ?_
    simp only [V.cells, List.all_eq_true] at h1
    exact h1 _ (List.getElem_mem _)
  | _ =>
    have ho := h.oneCell (by simpa [V.cells] using h1)
    refine ⟨[x], ?_, by simp [V.cells], fun j c z hc hz => ?_, by simpa using ho⟩
    · cases x <;> first | rfl | simp [Value.oneCell'] at ho
    · cases j with
      | zero => simp [V.cells] at hc hz; subst hc hz; exact h
      | succ j => simp at hz
theorem splice_get {α : Type} (A ys : List α) (a j : Nat) (h : a + ys.length ≤ A.length) : (A.take a ++ ys ++ A.drop (a + ys.length))[j]? = if j < a then A[j]? else if j < a + ys.length then ys[j - a]? else A[j]? := by
  have hl : (A.take a).length = a := by rw [List.length_take]; omega
  by_cases h1 : j < a
  · rw [if_pos h1, List.append_assoc, List.getElem?_append_left (by omega), List.getElem?_take_of_lt h1]
  · rw [if_neg h1]
    by_cases h2 : j < a + ys.length
    · rw [if_pos h2, List.append_assoc, List.getElem?_append_right (by omega), List.getElem?_append_left (by omega), hl]
    · rw [if_neg h2, List.getElem?_append_right (by rw [List.length_append]; omega), List.getElem?_drop, List.length_append, hl]
      congr 1
      omega
theorem take_splice {α : Type} (A ys : List α) (a N : Nat) (h1 : a + ys.length ≤ N) (h2 : N ≤ A.length) : (A.take a ++ ys ++ A.drop (a + ys.length)).take N = (A.take N).take a ++ ys ++ (A.take N).drop (a + ys.length) := by
  apply List.ext_getElem?
  intro j
  rw [splice_get (A.take N) ys a j (by rw [List.length_take]; omega)]
  by_cases hj : j < N
  · rw [List.getElem?_take_of_lt hj, splice_get A ys a j (by omega), List.getElem?_take_of_lt hj]
  · rw [List.getElem?_eq_none (by rw [List.length_take]; omega), if_neg (by omega), if_neg (by omega), List.getElem?_eq_none (by rw [List.length_take]; omega)]
/-- A store of a whole element into a row of one's own. -/
theorem store_row {gl : Nat → V} (h : Sim P gl w s) {i b k sz v : Nat} {e : TypeId} {es : List V} {x : Value} {el : V} {ys : List Value} (ho : s.st[i]? = some (.arr e sz v es)) (hg : s.g[i]? = some (.row x)) (hb : x.ownBlock = some b) (hk : k < es.length)
    (hel : el.cells.length = sz) (hone : ∀ c ∈ el.cells, c.one = true) (hl : el.cells.length = ys.length) (hr : ∀ (j : Nat) (c : V) (y : Value), el.cells[j]? = some c → ys[j]? = some y → PR w s.K c y) :
    ∃ arr, w.heap[b]? = some (.cells arr e (0, 0)) ∧ k * sz + sz ≤ arr.size ∧
      Evolve w s (w.setRow b (arr.toList.take (k * sz) ++ ys ++ arr.toList.drop (k * sz + ys.length)).toArray) (s.turn s.K i (.arr e sz v (es.set k el)) (.row x)) ∧
      Sim P gl (w.setRow b (arr.toList.take (k * sz) ++ ys ++ arr.toList.drop (k * sz + ys.length)).toArray) (s.turn s.K i (.arr e sz v (es.set k el)) (.row x)) := by
  have hob := h.obj i _ _ ho hg
  obtain ⟨xs, hown, hsz, h1, hxl, hpr⟩ := hob
  rcases hown.2 with ⟨rfl, _⟩ | ⟨g, cap, arr, rfl, _, harr, hnc, hcm, hcs, htake⟩
  · simp [Value.ownBlock] at hb
  simp only [Value.ownBlock, Option.some.injEq] at hb
  subst hb
  have hlt : g < w.heap.size := (Array.getElem?_eq_some_iff.1 harr).1
  have hnk : ∀ o, ¬ s.K g o := fun o => h.kout i g o _ ⟨_, _, ho, rfl, hg, rfl⟩ ho trivial
  have hks : k * sz + sz ≤ es.length * sz := by rw [← Nat.succ_mul]; exact Nat.mul_le_mul_right _ hk
  have hes : es.length * sz ≤ arr.size := by rw [hcs]; exact Nat.mul_le_mul_right _ hnc
  refine ⟨arr, harr, by omega, ?_⟩
  generalize hw' : w.setRow g (arr.toList.take (k * sz) ++ ys ++ arr.toList.drop (k * sz + ys.length)).toArray = w'
  have hheap : ∀ k', k' ≠ g → w'.heap[k']? = w.heap[k']? := fun k' hk' => by rw [← hw']; exact setRow_other w g k' _ hk'
  have hself : w'.heap[g]? = some (.cells (arr.toList.take (k * sz) ++ ys ++ arr.toList.drop (k * sz + ys.length)).toArray e (0, 0)) := by rw [← hw']; exact setRow_heap w g arr _ e (0, 0) harr
  have hsize : w'.heap.size = w.heap.size := by rw [← hw']; simp [World.setRow]
  have hfs := flat_set hsz hk el
  have hsz' : ∀ e' ∈ es.set k el, e'.cells.length = sz := fun e' he' => by
    rcases List.mem_or_eq_of_mem_set he' with h | h
    · exact hsz e' h
    · rw [h]; exact hel
  have hxs : (xs.take (k * sz) ++ ys ++ xs.drop (k * sz + sz)).length = es.length * sz := by
    have := hown.1
    simp only [List.length_append, List.length_take, List.length_drop]; omega
  refine turn h ho hg rfl (by rw [← hw']; rfl) (by rw [← hw']; rfl) (by rw [← hw']; rfl) (by omega) (fun k' _ hne => hheap k' (fun e => hne (by subst e; rfl))) ⟨fun _ _ hk => hk, fun k' o x hk' hx => ?_, fun k' es' c hk' hx => ?_, fun k' o n hk' hx => ?_⟩ (fun _ _ hk => .inl hk)
    (fun k' o hk' => by have := h.kin k' o hk'; omega) (.inr ⟨v, _, rfl, Nat.le_refl _, fun _ => ⟨rfl, by simp⟩, fun b hb => .inl hb⟩) rfl (fun k' o hk' _ => ?_) (fun hE => ?_)
  · have hkb : k' ≠ g := fun e => hnk o (e ▸ hk')
    rw [World.cell?_of_block (w := w) (hheap k' hkb)]
    exact hx
  · have hkb : k' ≠ g := fun e => hnk 0 (e ▸ hk')
    rw [hheap k' hkb]
    exact hx
  · have hkb : k' ≠ g := fun e => hnk o (e ▸ hk')
    exact hx.same (hheap k' hkb)
  · simp only [Gh.at, Value.ownBlock, Option.some.injEq] at hk'
    subst hk'
    exact hnk o
  · refine ⟨xs.take (k * sz) ++ ys ++ xs.drop (k * sz + sz), ⟨by simpa using hxs, .inr ⟨g, cap, _, by simp, Nat.zero_le _, hself, by simpa using hnc, hcm, ?_, ?_⟩⟩, hsz', ?_, by rw [hxs, flat_length hsz', List.length_set], fun j c y hc hy => ?_⟩
    · simp only [List.size_toArray, List.length_append, List.length_take, List.length_drop, Array.length_toList]; omega
    · have hta : arr.toList.take (es.length * sz) = xs := htake
      simp only [List.length_set]
      have e1 : ys.length = sz := by omega
      rw [e1, ← hta]
      have := take_splice arr.toList ys (k * sz) (es.length * sz) (by omega) (by simpa using hes)
      rw [e1] at this
      exact this
    · intro c hc
      rw [hfs] at hc
      rcases List.mem_append.1 hc with hc | hc
      · rcases List.mem_append.1 hc with hc | hc
        · exact h1 c (List.mem_of_mem_take hc)
        · exact hone c hc
      · exact h1 c (List.mem_of_mem_drop hc)
    · rw [hfs] at hc
      have hfl := flat_length hsz
      have hxl' := hown.1
      by_cases hj1 : j < k * sz
      · rw [List.append_assoc, List.getElem?_append_left (by simp; omega), List.getElem?_take_of_lt hj1] at hc hy
        exact (hpr j c y hc hy).keeps hE.keeps
      · by_cases hj2 : j < k * sz + sz
        · rw [List.append_assoc, List.getElem?_append_right (by simp; omega), List.getElem?_append_left (by simp; omega)] at hc hy
          simp only [List.length_take] at hc hy
          rw [show min (k * sz) (flat es).length = k * sz by omega] at hc
          rw [show min (k * sz) xs.length = k * sz by omega] at hy
          exact (hr _ c y hc hy).keeps hE.keeps
        · rw [List.getElem?_append_right (by simp; omega), List.getElem?_drop] at hc hy
          simp only [List.length_append, List.length_take] at hc hy
          rw [show k * sz + sz + (j - (min (k * sz) (flat es).length + el.cells.length)) = j by omega] at hc
          rw [show k * sz + sz + (j - (min (k * sz) xs.length + ys.length)) = j by omega] at hy
          exact (hpr j c y hc hy).keeps hE.keeps
theorem store_sound {gl : Nat → V} (hs : Sim P gl w s) {t : TypeId} {K : List O → Prop} (hx : Rep w s a x) (hy : Rep w s b y) (h : storeP P t s.st a b K) :
    ∃ w' s', (Instr.storeAt t x y).run P w = .ok () w' ∧ Sim P gl w' s' ∧ Evolve w s w' s' ∧ K s'.st := by
  unfold storeP at h
  cases hl : lay P t with
  | none => simp [hl] at h
  | some ng =>
    obtain ⟨n, g⟩ := ng
    rw [hl] at h
    simp only at h
    cases a with
    | ptr id off =>
      simp only at h
      obtain ⟨bk, rfl, hg⟩ := hx.ptr_inv
      cases ho : s.st[id]? with
      | none => simp [ho] at h
      | some o =>
        rw [ho] at h
        cases o with
        | box t' cs =>
          simp only at h
          obtain ⟨hn, h1, hoff, hK⟩ := h
          obtain ⟨arr, harr, hsz, hrep⟩ := hs.obj id _ _ ho hg
          have hsz' : arr.toList.length = cs.length := by simpa using hsz
          obtain ⟨xs, hxs, hlen, hr, hone⟩ := cells_rep hy h1
          obtain ⟨hE, hS⟩ := store_box hs (off := off) (ys := b.cells) (xs := xs) ho hg harr hlen (by omega) hr
          refine ⟨_, _, ?_, hS, hE, hK⟩
          show (storeVar t ⟨bk, off, none⟩ y).run P w = _
          unfold storeVar
          have hcs : y.cells.size = xs.length := by rw [← hxs]; simp
          rw [Sem.run_bind, (lay_runs hl w).1, Result.andThen_ok]
          rw [if_neg (by rw [hcs]; omega), hxs]
          have hst := run_storeCells_at (P := P) bk off t' xs 0 arr w harr (by have : arr.size = cs.length := hsz; omega) hone
          simp only [Nat.add_zero] at hst
          exact hst
        | _ => exact h.elim
    | rptr id ver off =>
      simp only at h
      have hr : RptrOK s id ver off x := by cases hx with | pure _ _ h => cases h | rptr _ _ _ _ _ h => exact h
      obtain ⟨o', ho, hm⟩ := hr
      rw [ho] at h
      cases o' with
      | arr e' sz' v es =>
        obtain ⟨rfl, rfl, hmod, hlt, hn, h1, hpure, hK⟩ := h
        obtain ⟨y0, bk, hg, hb, rfl⟩ := hm.2 rfl
        obtain ⟨xs, hxs, hlen, hrep, hone⟩ := cells_rep hy h1
        have hoff : off = off / n * n := by have := Nat.div_add_mod off n; rw [hmod] at this; rw [Nat.mul_comm]; omega
        obtain ⟨arr, harr, hfit, hE, hS⟩ := store_row hs (k := off / n) (el := b.bare) (ys := xs) ho hg hb hlt (by rw [V.bare_cells, List.length_map]; exact hn) (fun c hc => List.all_eq_true.1 (V.bare_all h1) c hc) (by rw [V.bare_cells, List.length_map]; exact hlen) (fun j c y hc hy => by
          rw [V.bare_cells, List.getElem?_map] at hc
          cases hv : b.cells[j]? with
          | none => simp [hv] at hc
          | some c0 =>
            simp only [hv, Option.map_some, Option.some.injEq] at hc
            subst hc
            exact hpure c0 (List.mem_iff_getElem?.2 ⟨j, hv⟩) w s y (hrep j c0 y hv hy))
        refine ⟨_, _, ?_, hS, hE, hK⟩
        show (storeVar t ⟨bk, off, none⟩ y).run P w = _
        unfold storeVar
        have hcs : y.cells.size = xs.length := by rw [← hxs]; simp
        rw [Sem.run_bind, (lay_runs hl w).1, Result.andThen_ok]
        rw [if_neg (by rw [hcs]; omega), hxs]
        have hst := run_storeCells_at (P := P) bk off e' xs 0 arr w harr (by omega) hone
        simp only [Nat.add_zero] at hst
        rw [← hoff]
        exact hst
      | _ => exact h.elim
    | _ => exact h.elim
/-- A new box. -/
theorem new_box {gl : Nat → V} (hs : Sim P gl w s) (t : TypeId) {cs : List V} {xs : List Value} (hl : cs.length = xs.length) (hr : ∀ (j : Nat) (c : V) (z : Value), cs[j]? = some c → xs[j]? = some z → Rep w s c z) :
    let w' := w.alloc (.cells xs.toArray t)
    let s' := s.push (.box t cs) (.blk w.heap.size)
    Sim P gl w' s' ∧ Evolve w s w' s' ∧ Rep w' s' (.ptr s.st.length 0) (.pointer (some ⟨w.heap.size, 0, none⟩)) := by
  intro w' s'
  have hE0 := Evolve.alloc hs.wf (w := w) (.cells xs.toArray t) (fun _ => False)
  have hS0 := hs.alloc (.cells xs.toArray t) (fun _ => False)
  have hK : (fun b o => s.K b o ∨ (b = w.heap.size ∧ False)) = s.K := by funext b o; simp
  rw [hK] at hE0 hS0
  have hE : Evolve w s w' s' := Evolve.push hs.wf hE0 (.box t cs) (.blk w.heap.size) (fun _ b hb => by simp only [Gh.at, Option.some.injEq] at hb; omega) (fun _ _ _ => by simp)
  have hlt : ∀ i, ¬ s.own i w.heap.size := fun i hi => by have := hs.mine_lt ⟨i, hi⟩; omega
  have hok : ObjOK P w' s' (.box t cs) (.blk w.heap.size) := ⟨xs.toArray, heap_alloc_new w _, by simp [hl], fun j c z hc hz => ((hr j c z hc (by simpa using hz)).evolve hE0 hs.wf).push⟩
  refine ⟨hS0.push (fun i b _ hb hi => ?_) (fun b x _ hb _ hk => ?_) (fun b _ hb hf => ?_) (fun _ _ _ => by simp) hok (fun b _ hb => by simp only [Gh.at, Option.some.injEq] at hb; subst hb; exact (show s.late _ from hs.late (Nat.le_refl _))), hE, .ptr _ _ _ (by simp [s', S.push, hs.len])⟩
  · simp only [Gh.at, Option.some.injEq] at hb
    subst hb
    exact hlt i hi
  · simp only [Gh.at, Option.some.injEq] at hb
    subst hb
    have := hs.kin _ _ hk
    omega
  · simp only [Gh.at, Option.some.injEq] at hb
    subst hb
    have := (hs.fgn _ hf).1
    omega
end
end Go.Duo
