/-
  A part of the proof.
-/
import Derived.Test.YtmjngcfigfkafaaDoorDSim
import Derived.Laws.Cells
import Derived.Laws.Entries
set_option linter.all false
namespace Go.Duo
open Go
/-- Known temporaries: the latest first; n: there are at least so many. -/
structure Env where
  n : Nat
  m : List (Nat × V)
def getM : List (Nat × V) → Nat → V
  | [], _ => .undef
  | (a, v) :: m, t => if a = t then v else getM m t
def Env.get (e : Env) (t : Nat) : V := getM e.m t
def Env.put (e : Env) (d : Option Tmp) (v : V) : Env :=
  match d with
  | none => e
  | some d => ⟨e.n, (d, v) :: e.m⟩
def Env.fits (e : Env) : Option Tmp → Prop
  | none => True
  | some d => d < e.n
def V.ofConst : Value → V
  | .int k n => .int k n
  | .bool b => .bool b
  | .string s => .str s.data.toList
  | .slice none 0 0 => .nil
  | .pointer none => .nilptr
  | .nilFunc => .nilfunc
  | .nilIface => .niliface
  | _ => .undef
def Env.ev (gl : Nat → V) (e : Env) : Operand → V
  | .tmp t => e.get t
  | .const v => V.ofConst v
  | .global g => gl g
  | .func f => .func (.func f) [] []
/-- The marks of loops over functions among the deferred calls. -/
def Marks (w : World) (s : S) (n0 : Nat) (ds : List Deferred) : Prop :=
  (∀ d ∈ ds, ∃ r, d.target = .collected r ∧ n0 ≤ r ∧ w.heap[r]? = some (.deferred (some [])) ∧ ¬ s.mine r ∧ ¬ s.foreign r) ∧ ds.Pairwise (fun d d' => ∀ r, d.target = .collected r → d'.target ≠ .collected r)
structure ActOK (w : World) (s : S) (n0 : Nat) (e : Env) (a : Act) : Prop where
  n : e.n ≤ a.tmps.size
  get : ∀ t, Rep w s (e.get t) (a.tmps.getD t undef)
  marks : Marks w s n0 a.defers
theorem V.ofConst_rep {w : World} {s : S} (v : Value) : Rep w s (V.ofConst v) v := by
  unfold V.ofConst
  split
  · exact .pure _ _ (.int _ _)
  · exact .pure _ _ (.bool _)
  · rename_i s'
    have : Value.string s' = .string ⟨s'.data.toList.toArray⟩ := by simp
    rw [this]
    exact .pure _ _ (.str _)
  · exact .pure _ _ (.nil _)
  · exact .pure _ _ .nilptr
  · exact .pure _ _ .nilfunc
  · exact .pure _ _ .niliface
  · exact .undef _
section
variable {P : Program} {gl : Nat → V} {w w' : World} {s s' : S} {n0 : Nat} {e : Env} {a : Act}
theorem ActOK.ev (h : ActOK w s n0 e a) (hs : Sim P gl w s) (x : Operand) : Rep w s (e.ev gl x) (a.eval x) := by
  cases x with
  | tmp t => exact h.get t
  | const v => exact V.ofConst_rep v
  | global g =>
    rcases hs.glob g with hg | hg
    · simp only [Env.ev, hg]
      exact .undef _
    · exact .pure _ _ hg.1
  | func f => exact .pure _ _ (.func (.func f) [] [] [] [] rfl rfl (by simp) (by simp))
theorem Marks.evolve (h : Evolve w s w' s') (hs : s.Wf) {ds : List Deferred} (hm : Marks w s n0 ds) : Marks w' s' n0 ds := by
  refine ⟨fun d hd => ?_, hm.2⟩
  obtain ⟨r, h1, h2, h3, h4, h5⟩ := hm.1 d hd
  have hlt : r < w.heap.size := (Array.getElem?_eq_some_iff.1 h3).1
  refine ⟨r, h1, h2, (h.block r hlt h4 h5).trans h3, fun hh => ?_, fun hh => ?_⟩
  · rcases h.mine hs.len hh with hh | hh
    · exact h4 hh
    · omega
  · rcases h.foreign hs.len hh with hh | hh
    · exact h5 hh
    · omega
theorem ActOK.evolve (h : Evolve w s w' s') (hs : s.Wf) (ha : ActOK w s n0 e a) : ActOK w' s' n0 e a :=
  ⟨ha.n, fun t => (ha.get t).evolve h hs, ha.marks.evolve h hs⟩
theorem ActOK.put (ha : ActOK w s n0 e a) {d : Option Tmp} (hd : e.fits d) {v : V} {x : Value} (hr : Rep w s v x) : ActOK w s n0 (e.put d v) (a.put d x) := by
  cases d with
  | none => exact ha
  | some d =>
    refine ⟨by simp only [Env.put, Act.put, Array.size_setIfInBounds]; exact ha.n, fun t => ?_, ha.marks⟩
    simp only [Env.put, Act.put, Env.get, getM]
    have hd' : d < a.tmps.size := Nat.lt_of_lt_of_le hd ha.n
    by_cases ht : d = t
    · subst ht
      rw [if_pos rfl, Array.getD_eq_getD_getElem?, Array.getElem?_setIfInBounds_self_of_lt hd', Option.getD_some]
      exact hr
    · rw [if_neg ht, Array.getD_eq_getD_getElem?, Array.getElem?_setIfInBounds_ne ht, ← Array.getD_eq_getD_getElem?]
      exact ha.get t
end
/-- The fence of our walks: none; only that the code may run in a round of a loop. -/
def Fr (r : Option Nat) : Fence := { Fence.wide with round := r }
/-- The code does what is said: it ends in one of the ways Q, and the world is still as the activation knows it. -/
def AW (P : Program) (gl : Nat → V) (r : Option Nat) (c : Code) (Q : Exit → Env → List O → Prop) (e : Env) (st : List O) : Prop :=
  ∀ (n0 : Nat) (w : World) (s : S) (a : Act), n0 ≤ w.heap.size → s.st = st → Sim P gl w s → ActOK w s n0 e a →
    c.wpIn (Fr r) 0 P (fun x a' w' => ∃ e' s', Sim P gl w' s' ∧ Evolve w s w' s' ∧ ActOK w' s' n0 e' a' ∧ Q x e' s'.st) a w
/-- One operation does what is said. -/
def AO (P : Program) (gl : Nat → V) (r : Option Nat) (o : Oper) (e : Env) (st : List O) (K : V → List O → Prop) : Prop :=
  ∀ (n0 : Nat) (w : World) (s : S) (a : Act) (next : Act → World → Prop) (Q : Exit → Act → World → Prop), n0 ≤ w.heap.size → s.st = st → Sim P gl w s → ActOK w s n0 e a →
    (∀ v x w' s', Sim P gl w' s' → Evolve w s w' s' → Rep w' s' v x → K v s'.st → next (a.put o.dst x) w') → o.wpIn (Fr r) 0 P a w next Q
section
variable {P : Program} {gl : Nat → V} {r : Option Nat} {e : Env} {st : List O}
/-- An operation that gives a value at once. -/
theorem AO.of_run {o : Oper} {K : V → List O → Prop} (hd : ∀ c, o.op ≠ .defer c)
    (h : ∀ (n0 : Nat) (w : World) (s : S) (a : Act), n0 ≤ w.heap.size → s.st = st → Sim P gl w s → ActOK w s n0 e a → (∀ x, Rep w s (e.ev gl x) (a.eval x)) →
      ∃ v w' s', (∃ x, (execOp a.eval o).run P w = .ok (.value x) w' ∧ Rep w' s' v x ∨ (execOp a.eval o).run P w = .ok .skip w' ∧ v = .undef) ∧ Sim P gl w' s' ∧ Evolve w s w' s' ∧ K v s'.st) : AO P gl r o e st K := by
  intro n0 w s a next Q hn hst hs ha hk
  obtain ⟨v, w', s', hrun, hs', hE, hK⟩ := h n0 w s a hn hst hs ha (fun x => ha.ev hs x)
  refine ⟨fun _ _ => trivial, ?_⟩
  rw [Oper.semAt_eq _ _ _ hd]
  rcases hrun with ⟨x, ⟨hrun, hrep⟩ | ⟨hrun, rfl⟩⟩
  · rw [hrun]
    exact hk v x w' s' hs' hE hrep hK
  · rw [hrun]
    exact hk .undef undef w' s' hs' hE (.undef _) hK
/-- An operation that leaves the world alone. -/
theorem AO.of_calm {o : Oper} {K : V → List O → Prop} (hd : ∀ c, o.op ≠ .defer c)
    (h : ∀ (w : World) (s : S) (ρ : Operand → Value), s.st = st → Sim P gl w s → (∀ x, Rep w s (e.ev gl x) (ρ x)) → ∃ v x, (execOp ρ o).run P w = .ok (.value x) w ∧ Rep w s v x ∧ K v st) : AO P gl r o e st K := by
  refine AO.of_run hd fun n0 w s a _ hst hs ha hev => ?_
  obtain ⟨v, x, hrun, hrep, hK⟩ := h w s a.eval hst hs hev
  exact ⟨v, w, s, ⟨x, .inl ⟨hrun, hrep⟩⟩, hs, Evolve.refl hs.wf, hst ▸ hK⟩
end
section
variable {w : World} {s : S} {x : Value}
theorem Rep.int_inv {k : IntKind} {n : Int} (h : Rep w s (.int k n) x) : x = .int k n := by
  cases h with | pure _ _ h => cases h; rfl
theorem Rep.bool_inv {b : Bool} (h : Rep w s (.bool b) x) : x = .bool b := by
  cases h with | pure _ _ h => cases h; rfl
theorem Rep.str_inv {l : List UInt8} (h : Rep w s (.str l) x) : x = .string ⟨l.toArray⟩ := by
  cases h with | pure _ _ h => cases h; rfl
theorem Rep.agg_inv {cs : List V} (h : Rep w s (.agg cs) x) : ∃ xs : List Value, x = .agg xs.toArray ∧ cs.length = xs.length ∧ ∀ (i : Nat) (c : V) (y : Value), cs[i]? = some c → xs[i]? = some y → Rep w s c y := by
  cases h with
  | pure _ _ h => cases h with | agg _ xs hl h => exact ⟨xs, rfl, hl, fun i c y hc hy => .pure _ _ (h i c y hc hy)⟩
  | agg _ xs hl h => exact ⟨xs, rfl, hl, h⟩
theorem Rep.tuple_inv {cs : List V} (h : Rep w s (.tuple cs) x) : ∃ xs : List Value, x = .tuple xs.toArray ∧ cs.length = xs.length ∧ ∀ (i : Nat) (c : V) (y : Value), cs[i]? = some c → xs[i]? = some y → Rep w s c y := by
  cases h with
  | pure _ _ h => cases h with | tuple _ xs hl h => exact ⟨xs, rfl, hl, fun i c y hc hy => .pure _ _ (h i c y hc hy)⟩
  | tuple _ xs hl h => exact ⟨xs, rfl, hl, h⟩
theorem Rep.func_inv {fn : Fn} {fs cs : List V} (h : Rep w s (.func fn fs cs) x) : ∃ xs ys : List Value, x = .func fn xs.toArray ys.toArray ∧ fs.length = xs.length ∧ cs.length = ys.length ∧
    (∀ (i : Nat) (c : V) (y : Value), fs[i]? = some c → xs[i]? = some y → Rep w s c y) ∧ ∀ (i : Nat) (c : V) (y : Value), cs[i]? = some c → ys[i]? = some y → Rep w s c y := by
  cases h with
  | pure _ _ h => cases h with | func _ _ _ xs ys hl hl' h h' => exact ⟨xs, ys, rfl, hl, hl', fun i c y hc hy => .pure _ _ (h i c y hc hy), fun i c y hc hy => .pure _ _ (h' i c y hc hy)⟩
  | func _ _ _ xs ys hl hl' h h' => exact ⟨xs, ys, rfl, hl, hl', h, h'⟩
theorem Rep.ptr_inv {id off : Nat} (h : Rep w s (.ptr id off) x) : ∃ b, x = .pointer (some ⟨b, off, none⟩) ∧ s.g[id]? = some (.blk b) := by
  cases h with
  | pure _ _ h => cases h
  | ptr _ _ b h => exact ⟨b, rfl, h⟩
theorem Rep.dptr_inv {cs : List V} (h : Rep w s (.dptr cs) x) : ∃ b o, x = .pointer (some ⟨b, o, none⟩) ∧ ∃ y : Nat → Value, ∀ (j : Nat) (c : V), cs[j]? = some c → Cell w s.K b (o + j) (y j) ∧ PR w s.K c (y j) := by
  cases h with
  | pure _ _ h => cases h with | dptr _ b o y hc h => exact ⟨b, o, rfl, y, fun j c hj => ⟨hc j c hj, h j c hj⟩⟩
theorem Rep.sl_inv {es : List V} {t : Option Nat} (h : Rep w s (.sl es t) x) : PR w s.K (.sl es none) x := by
  cases h with
  | pure _ _ h => cases h; constructor <;> assumption
  | tok _ _ _ h _ => exact h
theorem Rep.nil_inv (h : Rep w s .nil x) : ∃ a, x = .slice a 0 0 := by
  cases h with | pure _ _ h => cases h; exact ⟨_, rfl⟩
theorem PR.sl_inv {K : Nat → Nat → Prop} {es : List V} (h : PR w K (.sl es none) x) : ∃ a cap sz, ∃ y : Nat → Value, x = .slice a es.length cap ∧ es.length ≤ cap ∧ cap ≤ maxLen ∧ (∀ e ∈ es, e.cells.length = sz) ∧ (∀ c ∈ flat es, c.one = true) ∧
    ∀ (j : Nat) (c : V), (flat es)[j]? = some c → CellAt w K a j (y j) ∧ PR w K c (y j) := by
  cases h with
  | sl _ a cap sz y h1 h2 h3 h4 h5 h6 => exact ⟨a, cap, sz, y, rfl, h1, h2, h3, h4, fun j c hj => ⟨h5 j c hj, h6 j c hj⟩⟩
end
section
variable {w : World} {s : S} {x : Value}
theorem Rep.dptr_pr {cs : List V} (h : Rep w s (.dptr cs) x) : PR w s.K (.dptr cs) x := by
  cases h with | pure _ _ h => exact h
/-- A value without the rights to append that lie in it. -/
def V.bare : V → V
  | .agg cs => .agg (bareL cs)
  | .sl es _ => .sl es none
  | .nil => .sl [] none
  | v => v
where bareL : List V → List V
  | [] => []
  | c :: cs => c.bare :: bareL cs
theorem bareL_eq (cs : List V) : V.bare.bareL cs = cs.map V.bare := by
  induction cs with
  | nil => rfl
  | cons c cs ih => simp [V.bare.bareL, ih]
@[simp] theorem V.bare_agg (cs : List V) : (V.agg cs).bare = .agg (cs.map V.bare) := by rw [V.bare, bareL_eq]
@[simp] theorem V.bare_sl (es : List V) (t : Option Nat) : (V.sl es t).bare = .sl es none := by rw [V.bare]
/-- It leads to nothing of one's own. -/
def PureV (v : V) : Prop := ∀ (w : World) (s : S) (x : Value), Rep w s v x → PR w s.K v.bare x
theorem PureV.agg {cs : List V} (h : ∀ c ∈ cs, PureV c) : PureV (.agg cs) := fun w s x hx => by
  obtain ⟨xs, rfl, hl, hr⟩ := hx.agg_inv
  rw [V.bare_agg]
  refine .agg _ xs (by simpa using hl) fun i c x hc hx => ?_
  rw [List.getElem?_map] at hc
  cases hci : cs[i]? with
  | none => simp [hci] at hc
  | some c0 =>
    simp only [hci, Option.map_some, Option.some.injEq] at hc
    subst hc
    exact h c0 (List.mem_iff_getElem?.2 ⟨i, hci⟩) w s x (hr i c0 x hci hx)
theorem PureV.sl (es : List V) (t : Option Nat) : PureV (.sl es t) := fun _ _ _ hx => by rw [V.bare_sl]; exact hx.sl_inv
theorem PureV.int (k : IntKind) (n : Int) : PureV (.int k n) := fun w s x hx => by cases hx with | pure _ _ h => exact h
theorem PureV.bool (b : Bool) : PureV (.bool b) := fun w s x hx => by cases hx with | pure _ _ h => exact h
theorem PureV.str (l : List UInt8) : PureV (.str l) := fun w s x hx => by cases hx with | pure _ _ h => exact h
theorem PR.nil_sl {w : World} {K : Nat → Nat → Prop} (a : Option Addr) : PR w K (.sl [] none) (.slice a 0 0) :=
  .sl [] a 0 0 (fun _ => undef) (Nat.le_refl _) (Nat.zero_le _) (by simp) (by simp) (by simp) (by simp)
theorem PureV.nil : PureV .nil := fun w s x hx => by obtain ⟨a, rfl⟩ := hx.nil_inv; exact PR.nil_sl a
theorem PureV.nilptr : PureV .nilptr := fun w s x hx => by cases hx with | pure _ _ h => exact h
theorem PureV.nilfunc : PureV .nilfunc := fun w s x hx => by cases hx with | pure _ _ h => exact h
theorem PureV.niliface : PureV .niliface := fun w s x hx => by cases hx with | pure _ _ h => exact h
theorem PureV.dptr (cs : List V) : PureV (.dptr cs) := fun w s x hx => hx.dptr_pr
theorem PureV.pmap (ks vs : List V) : PureV (.pmap ks vs) := fun w s x hx => by cases hx with | pure _ _ h => exact h
theorem V.bare_one {v : V} (h : v.one = true) : v.bare.one = true ∧ v.bare.cells = [v.bare] ∧ v.cells = [v] := by
  cases v <;> first | exact ⟨rfl, rfl, rfl⟩ | simp [V.one] at h
theorem V.bare_cells (v : V) : v.bare.cells = v.cells.map V.bare := by
  cases v <;> first | rfl | simp [V.cells]
theorem V.bare_all {v : V} (h : v.cells.all V.one = true) : v.bare.cells.all V.one = true := by
  rw [V.bare_cells]
  simp only [List.all_map, List.all_eq_true, Function.comp] at h ⊢
  exact fun c hc => (V.bare_one (h c hc)).1
end
theorem flat_length {es : List V} {sz : Nat} (h : ∀ e ∈ es, e.cells.length = sz) : (flat es).length = es.length * sz := by
  induction es with
  | nil => simp
  | cons e es ih =>
    rw [flat_cons, List.length_append, ih (fun e he => h e (List.mem_cons_of_mem _ he)), h e (by simp), List.length_cons, Nat.add_mul]
    omega
theorem flat_set {es : List V} {sz : Nat} (h : ∀ e ∈ es, e.cells.length = sz) : ∀ {k : Nat}, k < es.length → ∀ el : V, flat (es.set k el) = (flat es).take (k * sz) ++ el.cells ++ (flat es).drop (k * sz + sz) := by
  induction es with
  | nil => intro k hk; simp at hk
  | cons e es ih =>
    intro k hk el
    have he := h e (by simp)
    cases k with
    | zero =>
      simp only [List.set_cons_zero, flat_cons, Nat.zero_mul, List.take_zero, List.nil_append, Nat.zero_add]
      rw [← he, List.drop_left]
    | succ k =>
      have hk' : k < es.length := by simpa using hk
      simp only [List.set_cons_succ, flat_cons, ih (fun e he => h e (List.mem_cons_of_mem _ he)) hk' el]
      have e1 : (k + 1) * sz = e.cells.length + k * sz := by rw [he, Nat.add_mul]; omega
      rw [e1, Nat.add_assoc, List.take_length_add_append, List.drop_length_add_append]
      simp only [List.append_assoc]
end Go.Duo
