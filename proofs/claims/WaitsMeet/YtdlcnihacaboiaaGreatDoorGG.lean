/-
  A part of the proof.
-/
import Derived.Test.YtdlcnihacaboiaaGreatDoorGF
set_option linter.all false
namespace Go.Duo
open Go
section
variable {P : Program} {gl : Nat → V} {r : Option Nat} {e : Env} {st : List O} {w w' : World} {s s' : S}
/-- An object that is there, but is not yet counted. -/
def Pend (P : Program) (w : World) (s : S) (f : Nat → V) (o : O) (x : Value) (b : Nat) : Prop :=
  ∃ g : Gh, g.at = some b ∧ o.lives = true ∧ b < w.heap.size ∧ ¬ s.mine b ∧ ¬ s.foreign b ∧ (∀ y, o.writes y → ¬ s.K b y) ∧ ObjOK P w s o g ∧ s.late b ∧
    ∀ (w2 : World) (s2 : S) (i : Nat), Keeps w s.K w2 s2.K → s2.st[i]? = some o → s2.g[i]? = some g → Rep w2 s2 (f i) x
theorem O.lives_yld {o : O} (h : o.lives = true) : ∀ xs k go, o ≠ .yld xs k go := fun xs k go he => by subst he; cases h
theorem Pend.evolve {f : Nat → V} {o : O} {x : Value} {b : Nat} (hs : Sim P gl w s) (hE : Evolve w s w' s') (h : Pend P w s f o x b) : Pend P w' s' f o x b := by
  obtain ⟨g, h1, h2, h3, h4, h5, h6, h7, hlate, h8⟩ := h
  refine ⟨g, h1, h2, Nat.lt_of_lt_of_le h3 hE.size, fun hm => ?_, fun hf => ?_, fun y hy hk => ?_, h7.keep hE hs.wf (fun _ b' hb' => ?_) (fun l F J Jx xs i go _ ho => absurd ho (O.lives_yld h2 xs i go)), hlate.evolve hE hs.len, fun w2 s2 i hk => h8 w2 s2 i (hE.keeps.trans hk)⟩
  · rcases hE.mine hs.len hm with hm | hm
    · exact h4 hm
    · omega
  · rcases hE.foreign hs.len hf with hf | hf
    · exact h5 hf
    · omega
  · rcases hE.knew b y hk with hk | hk | hk | hk
    · exact h6 y hy hk
    · omega
    · exact h4 hk
    · exact h5 hk
  · rw [h1] at hb'
    simp only [Option.some.injEq] at hb'
    subst hb'
    exact hE.block b h3 h4 h5
theorem Pend.pushed {f : Nat → V} {o o' : O} {g' : Gh} {x : Value} {b : Nat} (hs : Sim P gl w s) (hl : o'.lives = true) (hne : g'.at ≠ some b) (h : Pend P w s f o x b) : Pend P w (s.push o' g') f o x b := by
  obtain ⟨g, h1, h2, h3, h4, h5, h6, h7, hlate, h8⟩ := h
  refine ⟨g, h1, h2, h3, fun ⟨i, hm⟩ => ?_, fun hf => h5 (foreign_push hs.len (O.lives_yld hl) hf), h6, h7.push hs.len (fun _ _ _ _ _ ⟨xs, k, go, he⟩ => absurd he (O.lives_yld h2 xs k go)), fun i xs k l go F J Jx ho hg => ?_, h8⟩
  · rcases own_push hs.len hm with hm | ⟨_, _, hm⟩
    · exact h4 ⟨i, hm⟩
    · exact hne hm
  · simp only [S.push] at ho hg
    rcases getElem?_snoc ho with ho | ⟨_, he⟩
    · rcases getElem?_snoc hg with hg | ⟨rfl, _⟩
      · exact hlate i xs k l go F J Jx ho hg
      · have := (List.getElem?_eq_some_iff.1 ho).1
        have := hs.len
        omega
    · exact absurd he.symm (O.lives_yld hl xs k go)
theorem ObjOK.no_mark {o : O} {g : Gh} {b : Nat} (h : ObjOK P w s o g) (hl : o.lives = true) (hg : g.at = some b) {ds : Option (List Deferred)} : w.heap[b]? ≠ some (.deferred ds) := by
  intro hd
  cases o <;> cases g <;> simp only [ObjOK] at h <;> simp only [Gh.at, Option.some.injEq] at hg <;> try (cases hl; done)
  · subst hg; obtain ⟨_, h, _⟩ := h; rw [hd] at h; simp at h
  · subst hg; obtain ⟨_, _, h, _⟩ := h; rw [hd] at h; simp at h
  · obtain ⟨_, _, h | ⟨_, _, _, rfl, _, h, _⟩⟩ := h
    · rw [h.1] at hg; simp [Value.ownBlock] at hg
    · simp only [Value.ownBlock, Option.some.injEq] at hg; subst hg; rw [hd] at h; simp at h
  · obtain ⟨_, ⟨_, h | ⟨_, _, _, rfl, _, h, _⟩⟩, _⟩ := h
    · rw [h.1] at hg; simp [Value.ownBlock] at hg
    · simp only [Value.ownBlock, Option.some.injEq] at hg; subst hg; rw [hd] at h; simp at h
/-- What is counted at the end: the temporary, its value by the object's number, the object. -/
abbrev Up := Nat × (Nat → V) × O
def applyUps : List Up → Env → List O → Env × List O
  | [], e, st => (e, st)
  | (d, f, o) :: l, e, st => applyUps l (e.put (some d) (f st.length)) (st ++ [o])
theorem register {w0 : World} {s0 : S} {n0 : Nat} {a : Act} : ∀ (ups : List Up) (bs : List Nat) (s : S) (e : Env), Sim P gl w s → Evolve w0 s0 w s → s0.st.length ≤ s.st.length → ActOK w s n0 e a → ups.length = bs.length → bs.Nodup →
    (∀ (i : Nat) (u : Up) (b : Nat), ups[i]? = some u → bs[i]? = some b → w0.heap.size ≤ b ∧ Pend P w s u.2.1 u.2.2 (a.tmps.getD u.1 undef) b) →
    ∃ s', Sim P gl w s' ∧ Evolve w0 s0 w s' ∧ ActOK w s' n0 (applyUps ups e s.st).1 a ∧ s'.st = (applyUps ups e s.st).2 := by
  intro ups
  induction ups with
  | nil => intro bs s e h1 h2 _ h3 _ _ _; exact ⟨s, h1, h2, h3, rfl⟩
  | cons u ups ih =>
    intro bs s e h1 h2 h20 h3 hl hnd hp
    obtain ⟨d, f, o⟩ := u
    cases bs with
    | nil => simp at hl
    | cons b bs =>
      obtain ⟨hb0, g, k1, k2, k3, k4, k5, k6, k7, klate, k8⟩ := hp 0 _ _ rfl rfl
      have hS : Sim P gl w (s.push o g) := h1.push (fun i b' _ hb' hi => by rw [k1] at hb'; simp only [Option.some.injEq] at hb'; subst hb'; exact k4 ⟨i, hi⟩)
        (fun b' y _ hb' hy => by rw [k1] at hb'; simp only [Option.some.injEq] at hb'; subst hb'; exact k6 y hy) (fun b' _ hb' => by rw [k1] at hb'; simp only [Option.some.injEq] at hb'; subst hb'; exact k5) (O.lives_yld k2) (k7.push h1.len (fun _ _ _ _ _ ⟨xs, k, go, he⟩ => absurd he (O.lives_yld k2 xs k go))) (fun b' _ hb' => by rw [k1] at hb'; simp only [Option.some.injEq] at hb'; subst hb'; exact klate)
      have hE : Evolve w0 s0 w (s.push o g) := by
        refine ⟨h2.os, h2.tape, h2.output, h2.size, h2.keeps, h2.knew, h2.block, by have := h2.len; simp [S.push]; omega, fun i o' g' ho hg => ?_, fun i o' g' b' hi ho hlv hg hat => ?_, fun i xs n go hi ho => ?_⟩
        · obtain ⟨o1, g1, q1, q2, t⟩ := h2.objs i o' g' ho hg
          exact ⟨o1, g1, push_st q1, push_g q2, t⟩
        · simp only [S.push] at ho hg
          rcases getElem?_snoc ho with ho | ⟨rfl, rfl⟩
          · rcases getElem?_snoc hg with hg | ⟨rfl, rfl⟩
            · exact h2.fresh i o' g' b' hi ho hlv hg hat
            · have := (List.getElem?_eq_some_iff.1 ho).1
              have := h1.len
              omega
          · rcases getElem?_snoc hg with hg | ⟨_, rfl⟩
            · have := (List.getElem?_eq_some_iff.1 hg).1
              have := h1.len
              omega
            · rw [k1] at hat
              simp only [Option.some.injEq] at hat
              omega
        · simp only [S.push] at ho
          rcases getElem?_snoc ho with ho | ⟨_, he⟩
          · exact h2.noyld i xs n go hi ho
          · exact O.lives_yld k2 xs n go he.symm
      have hA : ActOK w (s.push o g) n0 (e.put (some d) (f s.st.length)) a := by
        refine ⟨h3.n, fun t => ?_, ⟨fun m hm => ?_, h3.marks.2⟩⟩
        · simp only [Env.put, Env.get, getM]
          split
          · rename_i hd
            subst hd
            exact k8 w (s.push o g) s.st.length (Keeps.refl _ _) (by simp [S.push]) (by simp [S.push, ← h1.len])
          · exact (h3.get t).push
        · obtain ⟨r, q1, q2, q3, q4, q5⟩ := h3.marks.1 m hm
          refine ⟨r, q1, q2, q3, fun ⟨i, hi⟩ => ?_, fun hf => q5 (foreign_push h1.len (O.lives_yld k2) hf)⟩
          rcases own_push h1.len hi with hi | ⟨_, _, hi⟩
          · exact q4 ⟨i, hi⟩
          · exact k7.no_mark k2 hi q3
      obtain ⟨s', q1, q2, q3, q4⟩ := ih bs (s.push o g) _ hS hE (by simp [S.push]; omega) hA (by simpa using hl) (List.nodup_cons.1 hnd).2 fun i u b' hu hb' => by
        obtain ⟨j1, j2⟩ := hp (i + 1) u b' hu hb'
        refine ⟨j1, j2.pushed h1 k2 fun he => ?_⟩
        rw [k1] at he
        simp only [Option.some.injEq] at he
        subst he
        exact (List.nodup_cons.1 hnd).1 (List.mem_iff_getElem?.2 ⟨i, hb'⟩)
      exact ⟨s', q1, q2, q3, q4⟩
theorem pend_of_own {e : TypeId} {sz : Nat} {es : List V} {xs : List Value} {v : Value} {b : Nat} (hown : w.ownsRow 0 e sz v es.length xs) (hb : v.ownBlock = some b) (hlt : b < w.heap.size) (h1 : ¬ s.mine b) (h2 : ¬ s.foreign b) (h3 : ∀ y, es.length * sz ≤ y → ¬ s.K b y)
    (hpr : PR w s.K (.sl es none) v) (hsz : ∀ el ∈ es, el.cells.length = sz) (hlate : s.late b) : Pend P w s (fun i => .sl es (some i)) (.tok e sz es.length) v b :=
  ⟨.row v, hb, rfl, hlt, h1, h2, h3, ⟨xs, hown⟩, hlate, fun _ _ _ hk ho hg => .tok _ _ _ (hpr.keeps hk) ⟨_, ho, Nat.le_refl _, fun _ => .inl hg, hsz⟩⟩
/-- A new row in a block of its own, not yet counted. -/
theorem pend_row (hs : Sim P gl w s) (e : TypeId) {sz cap : Nat} {es : List V} {xs : List Value} {arr : Array Value} (hpos : 0 < es.length) (hsz : ∀ el ∈ es, el.cells.length = sz) (h1 : ∀ c ∈ flat es, c.one = true) (hcap : es.length ≤ cap) (hmax : cap ≤ maxLen)
    (harr : arr.size = cap * sz) (htake : arr.toList.take (es.length * sz) = xs) (hr : ∀ (j : Nat) (c : V) (x : Value), (flat es)[j]? = some c → xs[j]? = some x → PR w s.K c x) :
    let w' := w.alloc (.cells arr e)
    let v := Value.slice (some ⟨w.heap.size, 0, none⟩) es.length cap
    let s' : S := { s with K := fun b o => s.K b o ∨ (b = w.heap.size ∧ o < es.length * sz) }
    Sim P gl w' s' ∧ Evolve w s w' s' ∧ Rep w' s' (.sl es none) v ∧ Pend P w' s' (fun i => .sl es (some i)) (.tok e sz es.length) v w.heap.size := by
  intro w' v s'
  have hE0 := Evolve.alloc hs.wf (w := w) (.cells arr e) (fun o => o < es.length * sz)
  have hS0 := hs.alloc (.cells arr e) (fun o => o < es.length * sz)
  have hle : es.length * sz ≤ arr.size := by rw [harr]; exact Nat.mul_le_mul_right _ hcap
  have hxl : xs.length = es.length * sz := by rw [← htake]; simp; omega
  have hown : w'.ownsRow 0 e sz v es.length xs := ⟨hxl, .inr ⟨w.heap.size, cap, arr, rfl, Nat.zero_le _, heap_alloc_new w _, hcap, hmax, harr, htake⟩⟩
  have hpr := pr_of_own (K := fun b o => s.K b o ∨ (b = w.heap.size ∧ o < es.length * sz)) hown rfl hpos hsz h1 (fun b j hb hj => by simp only [v, Value.ownBlock, Option.some.injEq] at hb; exact .inr ⟨hb.symm, hj⟩) (fun j c u hc hu => (hr j c u hc hu).keeps hE0.keeps)
  refine ⟨hS0, hE0, .pure _ _ hpr, pend_of_own hown rfl (by simp [w']) (fun hm => ?_) (fun hf => ?_) (fun y hy hk => ?_) hpr hsz (show s.late _ from hs.late (Nat.le_refl _))⟩
  · have : s.mine w.heap.size := hm
    have := hs.mine_lt this
    omega
  · have : s.foreign w.heap.size := hf
    have := (hs.fgn _ this).1
    omega
  · rcases hk with hk | ⟨_, hk⟩
    · have := hs.kin _ _ hk
      omega
    · omega
theorem pend_box (hs : Sim P gl w s) (t : TypeId) {cs : List V} {xs : List Value} (hl : cs.length = xs.length) (hr : ∀ (j : Nat) (c : V) (z : Value), cs[j]? = some c → xs[j]? = some z → Rep w s c z) :
    let w' := w.alloc (.cells xs.toArray t)
    Sim P gl w' s ∧ Evolve w s w' s ∧ Pend P w' s (fun i => .ptr i 0) (.box t cs) (.pointer (some ⟨w.heap.size, 0, none⟩)) w.heap.size := by
  intro w'
  have hE0 := Evolve.alloc hs.wf (w := w) (.cells xs.toArray t) (fun _ => False)
  have hS0 := hs.alloc (.cells xs.toArray t) (fun _ => False)
  have hK : (fun b o => s.K b o ∨ (b = w.heap.size ∧ False)) = s.K := by funext b o; simp
  rw [hK] at hE0 hS0
  refine ⟨hS0, hE0, .blk w.heap.size, rfl, rfl, by simp [w'], fun hm => ?_, fun hf => ?_, fun y _ hk => ?_, ⟨xs.toArray, heap_alloc_new w _, by simp [hl], fun j c z hc hz => (hr j c z hc (by simpa using hz)).evolve hE0 hs.wf⟩, hs.late (Nat.le_refl _), fun _ _ _ _ _ hg => .ptr _ _ _ hg⟩
  · have := hs.mine_lt hm
    omega
  · have := (hs.fgn _ hf).1
    omega
  · have := hs.kin _ _ hk
    omega
def buildSliceA (P : Program) (t : TypeId) (len : Nat) (parts : List (Nat × V)) (K : V → Option ((Nat → V) × O) → Prop) : Prop :=
  match elt P t with
  | none => False
  | some (e, sz, _) => if len = 0 then K .nil none else
      parts.map (·.1) = List.range len ∧ len * sz ≤ 16777216 ∧ (∀ p ∈ parts, p.2.cells.length = sz ∧ p.2.cells.all V.one = true ∧ ∀ c ∈ p.2.cells, PureV c) ∧ K (.sl (parts.map (·.2.bare)) none) (some (fun i => .sl (parts.map (·.2.bare)) (some i), .tok e sz len))
def appendA (P : Program) (t : TypeId) (x y : V) (K : V → Option ((Nat → V) × O) → Prop) : Prop :=
  match elt P t, rowOf y with
  | some (e, sz, by_), some es2 => (∀ el ∈ es2, el.cells.length = sz) ∧ match x with
    | .nil => es2.length * by_ ≤ 140737488355328 ∧ es2.length ≤ maxLen ∧ (K (.sl es2 none) none ∨ ((es2 = [] → K .nil none) ∧ (es2 ≠ [] → K (.sl es2 none) (some (fun i => .sl es2 (some i), .tok e sz es2.length)))))
    | _ => False
  | _, _ => False
/-- What an operation gives that may come in whatever order. -/
def stepA (P : Program) (gl : Nat → V) (ρ : Operand → V) (st : List O) (op : Op) (K : V → Option ((Nat → V) × O) → Prop) : Prop :=
  match op with
  | .alloc t => match zro P t with
    | some z => K .undef (some (fun i => .ptr i 0, .box t z))
    | none => False
  | .buildSlice t len parts => (len = 0 → parts.size = 0) ∧ buildSliceA P t len (parts.toList.map fun p => (p.1, ρ p.2)) K
  | .call c => match c.callee with
    | .value f => match ρ f with
      | .func (.func k) fs cs => ent P k = true ∧ ∃ v, Call P gl k (fs ++ c.args.toList.map ρ ++ cs) st (fun v' st' => v' = v ∧ st' = st) ∧ K v none
      | _ => False
    | .builtin .append => match c.args.toList, c.argTypes.toList with
      | [x, y], [t, u] => t = u ∧ appendA P t (ρ x) (ρ y) K
      | _, _ => False
    | _ => if calm op then step1 P gl ρ st op (fun v _ => K v none) else False
  | op => if calm op then step1 P gl ρ st op (fun v _ => K v none) else False
theorem buildSliceA_sound (hs : Sim P gl w s) {t : TypeId} {len : Nat} {parts : List (Nat × V)} {ps : Array (Nat × Value)} {K : V → Option ((Nat → V) × O) → Prop} (hl : parts.length = ps.size)
    (hp : ∀ (i : Nat) (p : Nat × V) (q : Nat × Value), parts[i]? = some p → ps[i]? = some q → p.1 = q.1 ∧ Rep w s p.2 q.2) (h : buildSliceA P t len parts K) (hlen : len = 0 → ps.size = 0) :
    ∃ v u z w' s', (Instr.buildSlice t len ps).run P w = .ok z w' ∧ Sim P gl w' s' ∧ Evolve w s w' s' ∧ s'.st = s.st ∧ Rep w' s' v z ∧ K v u ∧ ∀ f o, u = some (f, o) → ∃ b, w.heap.size ≤ b ∧ Pend P w' s' f o z b := by
  unfold buildSliceA at h
  cases he : elt P t with
  | none => simp [he] at h
  | some o =>
    obtain ⟨e, sz, by_⟩ := o
    rw [he] at h
    simp only at h
    obtain ⟨hu, hsize⟩ := elt_lay he w
    obtain ⟨_, i, z, hi, hz, rfl, _, hzs, hpos⟩ := elt_runs he
    split at h
    · rename_i h0
      subst h0
      have hps : ps = #[] := Array.eq_empty_of_size_eq_zero (hlen rfl)
      subst hps
      have hrun : (Instr.buildSlice t 0 #[]).run P w = .ok (.slice (some ⟨w.heap.size, 0, none⟩) 0 0) (w.alloc (.cells #[] e)) := by
        simp [Instr.buildSlice, run_underlying hu, hsize, Instr.fill, newRow, Array.range_zero']
      have hK : (fun b o => s.K b o ∨ (b = w.heap.size ∧ False)) = s.K := by funext b o; simp
      have hE := Evolve.alloc hs.wf (w := w) (.cells #[] e) (fun _ => False)
      have hS := hs.alloc (.cells #[] e) (fun _ => False)
      rw [hK] at hE hS
      exact ⟨.nil, none, _, _, _, hrun, hS, hE, rfl, .pure _ _ (.nil _), h, by simp⟩
    · rename_i h0
      obtain ⟨hr, hbig, hparts, hK⟩ := h
      have hpl : parts.length = len := by have := congrArg List.length hr; simpa using this
      obtain ⟨hm, hq, hrep⟩ := flat_map_cells (ps := ps.toList) (by simpa using hl) (fun p hp => ⟨(hparts p hp).1, (hparts p hp).2.1⟩) (fun i p q h1 h2 => hp i p q h1 (by simpa using h2))
      have hpsl : ps.toList.length = len := by simp; omega
      let zero : Array Value := (Array.range (len * i.size)).map (z.cells[· % z.cells.size]!)
      have hzsz : zero.size = len * i.size := by simp [zero]
      have hfill := flat_fill (sz := i.size) ps.toList 0 zero (by rw [← hm, hr, hpsl, range'_zero]) (fun q hq' => (hq q hq').1) (by rw [hpsl, Nat.zero_add, hzsz]; exact Nat.le_refl _)
      rw [hpsl, Nat.zero_mul, List.take_zero, List.nil_append, Nat.zero_add, ← hzsz, List.drop_of_length_le (by simp), List.append_nil] at hfill
      have hne : len * i.size ≠ 0 := Nat.ne_of_gt (Nat.mul_pos (by omega) hpos)
      have hrun : (Instr.buildSlice t len ps).run P w = .ok (.slice (some ⟨w.heap.size, 0, none⟩) len len) (w.alloc (.cells (ps.toList.flatMap (fun p => p.2.cells.toList)).toArray e)) := by
        have hn : ¬ (16777216 < len * i.size) := by omega
        simp only [Instr.buildSlice, Sem.run_bind, run_underlying hu, Result.andThen_ok, hsize, Sem.run_ite, show (2 ^ 24 : Nat) = 16777216 from rfl, gt_iff_lt, if_neg hn, if_neg hne, zeroValue, typeInfo, run_program, hi, hz, Sem.run_pure]
        have hfill' : Instr.fill (fun k => some (k * i.size, i.size)) ((Array.range (len * i.size)).map (z.cells[· % z.cells.size]!)) ps.toList = some (ps.toList.flatMap (fun p => p.2.cells.toList)).toArray := hfill
        simp only [hfill', newRow, Sem.run_bind, run_newObj, Result.andThen_ok, Sem.run_pure]
        rfl
      have hsl : ∀ el ∈ parts.map (·.2.bare), el.cells.length = i.size := fun el hel => by
        obtain ⟨p, hp, rfl⟩ := List.mem_map.1 hel
        rw [V.bare_cells, List.length_map]
        exact (hparts p hp).1
      have hfb : flat (parts.map (·.2.bare)) = (flat (parts.map (·.2))).map V.bare := by
        clear hr hpl hm hrep hsl hK hparts hp hl
        induction parts with
        | nil => rfl
        | cons p parts ih => simp only [List.map_cons, flat_cons, List.map_append, V.bare_cells, ih]
      have hlenM : (parts.map (·.2.bare)).length = len := by simp [hpl]
      obtain ⟨hS, hE, hR, hPd⟩ := pend_row hs e (sz := i.size) (cap := len) (es := parts.map (·.2.bare)) (xs := ps.toList.flatMap (fun p => p.2.cells.toList)) (arr := (ps.toList.flatMap (fun p => p.2.cells.toList)).toArray) (by omega) hsl
        (fun c hc => by
          obtain ⟨el, hel, hc⟩ := List.mem_flatMap.1 hc
          obtain ⟨p, hp, rfl⟩ := List.mem_map.1 hel
          exact List.all_eq_true.1 (V.bare_all (hparts p hp).2.1) c hc)
        (by omega) (by simp only [maxLen]; have := Nat.le_mul_of_pos_right len hpos; omega)
        (by
          have h1 := hrep.1
          have h2 := flat_length hsl
          rw [hfb, List.length_map, h1] at h2
          simp only [List.size_toArray]
          rw [h2, hlenM])
        (by
          have h1 := hrep.1
          have h2 := flat_length hsl
          rw [hfb, List.length_map, h1] at h2
          rw [List.take_of_length_le (by show (ps.toList.flatMap _).length ≤ _; rw [h2]; exact Nat.le_refl _)])
        (fun j c x hc hx => by
          rw [hfb, List.getElem?_map] at hc
          cases hcj : (flat (parts.map (·.2)))[j]? with
          | none => simp [hcj] at hc
          | some c0 =>
            simp only [hcj, Option.map_some, Option.some.injEq] at hc
            subst hc
            have hx' := hrep.2 j c0 x hcj hx
            obtain ⟨el, hel, hc0⟩ := List.mem_flatMap.1 (List.mem_iff_getElem?.2 ⟨j, hcj⟩)
            obtain ⟨p, hp', rfl⟩ := List.mem_map.1 hel
            exact (hparts p hp').2.2 c0 hc0 w s x hx')
      rw [hlenM] at hS hE hR hPd
      exact ⟨_, _, _, _, _, hrun, hS, hE, rfl, hR, hK, fun f o ho => by
        simp only [Option.some.injEq, Prod.mk.injEq] at ho
        obtain ⟨rfl, rfl⟩ := ho
        exact ⟨_, Nat.le_refl _, hPd⟩⟩
theorem appendA_sound (hs : Sim P gl w s) {t ty : TypeId} {a b : V} {x y : Value} {K : V → Option ((Nat → V) × O) → Prop} (hx : Rep w s a x) (hy : Rep w s b y) (h : appendA P t a b K) :
    ∃ v u z w' s', (Builtin.append_ #[t, t] ty #[x, y]).run P w = .ok z w' ∧ Sim P gl w' s' ∧ Evolve w s w' s' ∧ s'.st = s.st ∧ Rep w' s' v z ∧ K v u ∧ ∀ f o, u = some (f, o) → ∃ b, w.heap.size ≤ b ∧ Pend P w' s' f o z b := by
  unfold appendA at h
  cases he : elt P t with
  | none => simp [he] at h
  | some esb =>
    obtain ⟨e, sz, by_⟩ := esb
    cases hr : rowOf b with
    | none => simp [he, hr] at h
    | some es2 =>
      rw [he, hr] at h
      simp only at h
      obtain ⟨hsz2, h⟩ := h
      obtain ⟨ad, cap, news, rfl, hnl, hn1, hncell, hnrep, _, _⟩ := row_cells hr hy
      have hfl2 := flat_length hsz2
      have hone2 : ∀ c ∈ flat es2, c.one = true := by
        cases b with
        | sl es' t' =>
          simp only [rowOf, Option.some.injEq] at hr
          subst hr
          obtain ⟨_, _, _, _, _, _, _, _, h1, _⟩ := hy.sl_inv.sl_inv
          exact h1
        | nil => simp only [rowOf, Option.some.injEq] at hr; subst hr; simp
        | _ => simp [rowOf] at hr
      have hnc' : ∀ j u, news[j]? = some u → ∃ b o, ad = some ⟨b, o, none⟩ ∧ w.cell? ⟨b, o + j, none⟩ = some u := fun j u hu => by
        obtain ⟨b, o, h1, h2, _⟩ := hncell j u hu
        exact ⟨b, o, h1, h2⟩
      cases a with
      | nil =>
        simp only at h
        obtain ⟨hb1, hb2, hK⟩ := h
        obtain ⟨ax, rfl⟩ := hx.nil_inv
        rcases run_app (ty := ty) (n := 0) (xs := []) he (.inr ⟨ax, rfl, rfl, rfl⟩) (hnl.trans hfl2) hnc' hn1 (by omega) (by simpa using hb1) with ⟨h0, hrun⟩ | ⟨hpos, v', w', hrun, hown, f1, f2, f3, f4, hwhere⟩
        · obtain rfl := List.eq_nil_of_length_eq_zero h0
          rcases hK with hK | ⟨hK0, _⟩
          · exact ⟨.sl [] none, none, _, w, s, hrun, hs, Evolve.refl hs.wf, rfl, .pure _ _ (PR.nil_sl ax), hK, by simp⟩
          · exact ⟨.nil, none, _, w, s, hrun, hs, Evolve.refl hs.wf, rfl, .pure _ _ (.nil ax), hK0 rfl, by simp⟩
        · have hne : es2 ≠ [] := fun h => by rw [h] at hpos; simp at hpos
          rcases hwhere with ⟨_, ⟨_, _, hno, hle, _⟩, _⟩ | ⟨hat, hold⟩
          · simp only [Value.slice.injEq] at hno
            omega
          · have hN : ∀ b j, (b = w.heap.size ∧ j < es2.length * sz) → w.heap.size ≤ b ∧ b < w'.heap.size := fun b j hb => by
              have := (hown.lt _ hat).2
              omega
            have hE0 := Evolve.grow hs.wf f1 f2 f3 f4 hold (fun b j => b = w.heap.size ∧ j < es2.length * sz) hN
            have hS0 := hs.grow f1 f2 f3 f4 hold (fun b j => b = w.heap.size ∧ j < es2.length * sz) hN
            have hpr := pr_of_own (K := fun b j => s.K b j ∨ (b = w.heap.size ∧ j < es2.length * sz)) hown (by omega) (by omega) hsz2 hone2 (fun b j hb hj => by rw [hat] at hb; simp only [Option.some.injEq] at hb; exact .inr ⟨hb.symm, by simpa using hj⟩)
              (fun j c u hc hu => (hnrep j c u hc (by simpa using hu)).keeps hE0.keeps)
            have hnm : ¬ s.mine w.heap.size := fun hm => by have := hs.mine_lt hm; omega
            have hnf : ¬ s.foreign w.heap.size := fun hf => by have := (hs.fgn _ hf).1; omega
            rcases hK with hK | ⟨_, hK1⟩
            · exact ⟨.sl es2 none, none, v', w', _, hrun, hS0, hE0, rfl, .pure _ _ hpr, hK, by simp⟩
            refine ⟨.sl es2 none, some (fun i => .sl es2 (some i), .tok e sz es2.length), v', w', _, hrun, hS0, hE0, rfl, .pure _ _ hpr, hK1 hne, fun f o ho => ?_⟩
            simp only [Option.some.injEq, Prod.mk.injEq] at ho
            obtain ⟨rfl, rfl⟩ := ho
            refine ⟨w.heap.size, Nat.le_refl _, pend_of_own (s := { s with K := fun b j => s.K b j ∨ (b = w.heap.size ∧ j < es2.length * sz) }) (by simpa using hown) hat (hown.lt _ hat).2 hnm hnf (fun y hy hk => ?_) hpr hsz2 (show s.late _ from hs.late (Nat.le_refl _))⟩
            rcases hk with hk | ⟨_, hk⟩
            · have := hs.kin _ _ hk
              omega
            · omega
      | _ => exact h.elim
theorem stepA_congr {ρ ρ' : Operand → V} {op : Op} {K : V → Option ((Nat → V) × O) → Prop} (he : ∀ x ∈ op.operands, ρ x = ρ' x) (h : stepA P gl ρ st op K) : stepA P gl ρ' st op K := by
  have hl : ∀ (l : List Operand), (∀ x ∈ l, ρ x = ρ' x) → l.map ρ = l.map ρ' := fun l hl => List.map_congr_left hl
  have gen : (if calm op = true then step1 P gl ρ st op (fun v _ => K v none) else False) → if calm op = true then step1 P gl ρ' st op (fun v _ => K v none) else False := fun h => by
    split at h
    · rw [if_pos (by assumption)]; exact step1_congr he h
    · exact h.elim
  unfold stepA at h ⊢
  cases op
  case alloc => exact h
  case buildSlice t len parts =>
    simp only at h ⊢
    have : (parts.toList.map fun p => (p.1, ρ p.2)) = parts.toList.map fun p => (p.1, ρ' p.2) := List.map_congr_left fun p hp => by rw [he p.2 (by simp only [Op.operands, List.mem_toArray, List.mem_map]; exact ⟨p, hp, rfl⟩)]
    rw [← this]; exact h
  case call c =>
    simp only at h ⊢
    have hargs : ∀ x ∈ c.args.toList, ρ x = ρ' x := fun x hx => he x (by simp only [Op.operands, Call.operands, Array.mem_append]; exact .inr (by simpa using hx))
    cases hcal : c.callee with
    | value f =>
      rw [hcal] at h
      simp only at h ⊢
      rw [← he f (by simp [Op.operands, Call.operands, hcal]), ← hl _ hargs]
      exact h
    | invoke r m => rw [hcal] at h; exact gen h
    | builtin b =>
      rw [hcal] at h
      cases b <;> first
        | exact gen h
        | (simp only at h ⊢
           split at h
           · rename_i x y t u h1 h2
             rw [h1] at hargs
             rw [← hargs x (by simp), ← hargs y (by simp)]
             exact h
           · exact h.elim)
  all_goals exact gen h
/-- What it is that an operation gives this value, whatever came before. -/
def OpA (P : Program) (gl : Nat → V) (r : Option Nat) (o : Oper) (e : Env) (st : List O) (v : V) (u : Option ((Nat → V) × O)) : Prop :=
  ∀ (n0 : Nat) (w : World) (s : S) (a : Act) (next : Act → World → Prop) (Q : Exit → Act → World → Prop), n0 ≤ w.heap.size → s.st = st → Sim P gl w s → ActOK w s n0 e a →
    (∀ x w' s', Sim P gl w' s' → Evolve w s w' s' → s'.st = st → Rep w' s' v x → (∀ f o, u = some (f, o) → ∃ b, w.heap.size ≤ b ∧ Pend P w' s' f o x b) → next (a.put o.dst x) w') → o.wpIn (Fr r) 0 P a w next Q
theorem stepA_sound {o : Oper} {K : V → Option ((Nat → V) × O) → Prop} (h : stepA P gl (e.ev gl) st o.op K) : ∃ v u, K v u ∧ OpA P gl r o e st v u := by
  have vrun : ∀ {w w' : World} {m : Sem Value} {z : Value}, m.run P w = .ok z w' → (do pure (Next.value (← m)) : Sem Next).run P w = .ok (.value z) w' := fun {w w' m z} hm => by
    rw [Sem.run_bind, hm]; rfl
  have gen : (if calm o.op = true then step1 P gl (e.ev gl) st o.op (fun v _ => K v none) else False) → ∃ v u, K v u ∧ OpA P gl r o e st v u := fun h => by
    split at h
    · rename_i hc
      obtain ⟨v, h1, h2⟩ := step1_det hc h
      refine ⟨v, none, h2, fun n0 w s a next Q hn hst hs ha hk => step1_sound (h1 (fun v' st' => v' = v ∧ st' = st) ⟨rfl, rfl⟩) n0 w s a next Q hn hst hs ha fun v' x w' s' hs' hE hr hK => ?_⟩
      obtain ⟨rfl, hst'⟩ := hK
      exact hk x w' s' hs' hE hst' hr (by simp)
    · exact h.elim
  have run : ∀ (v : V) (u : Option ((Nat → V) × O)), (∀ c, o.op ≠ .defer c) → (∀ (w : World) (s : S) (a : Act), s.st = st → Sim P gl w s → (∀ x, Rep w s (e.ev gl x) (a.eval x)) → ∃ x w' s', (execOp a.eval o).run P w = .ok (.value x) w' ∧ Sim P gl w' s' ∧ Evolve w s w' s' ∧ s'.st = st ∧ Rep w' s' v x ∧
      ∀ f o, u = some (f, o) → ∃ b, w.heap.size ≤ b ∧ Pend P w' s' f o x b) → OpA P gl r o e st v u := fun v u hd h n0 w s a next Q hn hst hs ha hk => by
    obtain ⟨x, w', s', hrun, h1, h2, h3, h4, h5⟩ := h w s a hst hs (fun x => ha.ev hs x)
    refine ⟨fun _ _ => trivial, ?_⟩
    rw [Oper.semAt_eq _ _ _ hd, hrun]
    exact hk x w' s' h1 h2 h3 h4 h5
  unfold stepA at h
  cases ho : o.op <;> rw [ho] at h
  case alloc t =>
    simp only at h
    cases hz : zro P t with
    | none => simp [hz] at h
    | some z =>
      rw [hz] at h
      refine ⟨_, _, h, run _ _ (fun c => by rw [ho]; simp) fun w s a hst hs hr => ?_⟩
      obtain ⟨i, zv, hi, hzv, hlen, hrep⟩ := zro_rep (w := w) (s := s) hz
      obtain ⟨hS, hE, hPd⟩ := pend_box hs t hlen hrep
      refine ⟨.pointer (some ⟨w.heap.size, 0, none⟩), _, _, ?_, hS, hE, hst, .undef _, fun f o hf => ?_⟩
      · simp only [execOp, ho]
        refine vrun ?_
        simp [Instr.alloc, newVar, newRow, zeroValue, typeInfo, hi, hzv]
      · simp only [Option.some.injEq, Prod.mk.injEq] at hf
        obtain ⟨rfl, rfl⟩ := hf
        exact ⟨_, Nat.le_refl _, hPd⟩
  case buildSlice t len parts =>
    simp only at h
    have h0 : ∃ v u, K v u ∧ buildSliceA P t len (parts.toList.map fun p => (p.1, e.ev gl p.2)) (fun v' u' => v' = v ∧ u' = u) := by
      obtain ⟨_, h⟩ := h
      unfold buildSliceA at h ⊢
      cases he : elt P t with
      | none => simp [he] at h
      | some o =>
        obtain ⟨e, sz, by_⟩ := o
        rw [he] at h
        simp only at h ⊢
        split at h
        · exact ⟨_, _, h, by rw [if_pos (by assumption)]; exact ⟨rfl, rfl⟩⟩
        · exact ⟨_, _, h.2.2.2, by rw [if_neg (by assumption)]; exact ⟨h.1, h.2.1, h.2.2.1, rfl, rfl⟩⟩
    obtain ⟨v, u, hK, hA⟩ := h0
    refine ⟨v, u, hK, run _ _ (fun c => by rw [ho]; simp) fun w s a hst hs hr => ?_⟩
    obtain ⟨hp1, hp2⟩ := parts_rep hr parts
    obtain ⟨v', u', z, w', s', h1, h2, h3, h4, h5, ⟨rfl, rfl⟩, h7⟩ := buildSliceA_sound hs hp1 hp2 hA (fun h0 => by simpa using h.1 h0)
    exact ⟨z, w', s', by simp only [execOp, ho]; exact vrun h1, h2, h3, h4.trans hst, h5, h7⟩
  case call c =>
    simp only at h
    cases hcal : c.callee with
    | value f =>
      rw [hcal] at h
      simp only at h
      cases hf : e.ev gl f <;> rw [hf] at h <;> try exact h.elim
      rename_i fn fs cs
      cases fn <;> try exact h.elim
      obtain ⟨hent, v, hcall, hK⟩ := h
      refine ⟨v, none, hK, fun n0 w s a next Q hn hst hs ha hk => call_sound ho hcal hf hent hcall n0 w s a next Q hn hst hs ha fun v' x w' s' hs' hE hr hK => ?_⟩
      obtain ⟨rfl, hst'⟩ := hK
      exact hk x w' s' hs' hE hst' hr (by simp)
    | invoke rc m => rw [hcal] at h; exact gen (by rw [ho]; exact h)
    | builtin b =>
      rw [hcal] at h
      cases b <;> first
        | exact gen (by rw [ho]; exact h)
        | skip
      simp only at h
      split at h
      · rename_i x y t u h1 h2
        obtain ⟨rfl, h⟩ := h
        have h0 : ∃ v u, K v u ∧ appendA P t (e.ev gl x) (e.ev gl y) (fun v' u' => v' = v ∧ u' = u) := by
          unfold appendA at h ⊢
          cases he : elt P t with
          | none => simp [he] at h
          | some o =>
            obtain ⟨e', sz, by_⟩ := o
            cases hr : rowOf (e.ev gl y) with
            | none => simp [he, hr] at h
            | some es2 =>
              rw [he, hr] at h
              simp only at h ⊢
              cases hx : e.ev gl x <;> rw [hx] at h <;> try exact h.2.elim
              obtain ⟨q1, q2, q3, q | ⟨q4, q5⟩⟩ := h
              · exact ⟨_, _, q, q1, q2, q3, .inl ⟨rfl, rfl⟩⟩
              by_cases hne : es2 = []
              · exact ⟨_, _, q4 hne, q1, q2, q3, .inr ⟨fun _ => ⟨rfl, rfl⟩, fun h => absurd hne h⟩⟩
              · exact ⟨_, _, q5 hne, q1, q2, q3, .inr ⟨fun h => absurd h hne, fun _ => ⟨rfl, rfl⟩⟩⟩
        obtain ⟨v, u, hK, hA⟩ := h0
        refine ⟨v, u, hK, run _ _ (fun c => by rw [ho]; simp) fun w s a hst hs hr => ?_⟩
        obtain ⟨v', u', z, w', s', k1, k2, k3, k4, k5, ⟨rfl, rfl⟩, k7⟩ := appendA_sound (ty := o.type) hs (hr x) (hr y) hA
        have ea : c.args = #[x, y] := by apply Array.ext'; simpa using h1
        have et : c.argTypes = #[t, t] := by apply Array.ext'; simpa using h2
        refine ⟨z, w', s', ?_, k2, k3, k4.trans hst, k5, k7⟩
        have hrun : ∃ consts, (execOp a.eval o).run P w = (builtin .append c.argTypes o.type consts (c.args.map a.eval)).run P w := by
          simp only [execOp, ho, resolve, hcal, Sem.run_bind, Sem.run_pure, Result.andThen_ok, invoke]
          exact ⟨_, rfl⟩
        obtain ⟨_, hrun⟩ := hrun
        rw [hrun, ea, et]
        exact vrun (by simpa using k1)
      · exact h.elim
  all_goals exact gen (by rw [ho]; exact h)
theorem stepA_det {ρ : Operand → V} {op : Op} {K : V → Option ((Nat → V) × O) → Prop} (h : stepA P gl ρ st op K) : ∃ v u, K v u ∧ ∀ K', K' v u → stepA P gl ρ st op K' := by
  have gen : (if calm op = true then step1 P gl ρ st op (fun v _ => K v none) else False) → ∃ v u, K v u ∧ ∀ K' : V → Option ((Nat → V) × O) → Prop, K' v u → (if calm op = true then step1 P gl ρ st op (fun v _ => K' v none) else False) := fun h => by
    split at h
    · rename_i hc
      obtain ⟨v, h1, h2⟩ := step1_det hc h
      exact ⟨v, none, h2, fun K' hK => by rw [if_pos hc]; exact h1 _ hK⟩
    · exact h.elim
  unfold stepA at h ⊢
  cases op
  case alloc t =>
    simp only at h ⊢
    cases hz : zro P t with
    | none => simp [hz] at h
    | some z => rw [hz] at h; exact ⟨_, _, h, fun _ hk => hk⟩
  case buildSlice t len parts =>
    simp only at h ⊢
    obtain ⟨h0, h⟩ := h
    unfold buildSliceA at h ⊢
    cases he : elt P t with
    | none => simp [he] at h
    | some o =>
      obtain ⟨e, sz, by_⟩ := o
      rw [he] at h
      simp only at h ⊢
      split at h
      · exact ⟨_, _, h, fun _ hk => ⟨h0, by rw [if_pos (by assumption)]; exact hk⟩⟩
      · exact ⟨_, _, h.2.2.2, fun _ hk => ⟨h0, by rw [if_neg (by assumption)]; exact ⟨h.1, h.2.1, h.2.2.1, hk⟩⟩⟩
  case call c =>
    simp only at h ⊢
    cases hcal : c.callee with
    | value f =>
      rw [hcal] at h
      simp only at h ⊢
      cases hf : ρ f <;> rw [hf] at h <;> try exact h.elim
      rename_i fn fs cs
      cases fn <;> try exact h.elim
      obtain ⟨hent, v, hcall, hK⟩ := h
      exact ⟨v, none, hK, fun _ hk => ⟨hent, v, hcall, hk⟩⟩
    | invoke rc m => rw [hcal] at h; exact gen h
    | builtin b =>
      rw [hcal] at h
      cases b <;> first
        | exact gen h
        | skip
      simp only at h ⊢
      split at h
      · rename_i x y t u h1 h2
        obtain ⟨rfl, h⟩ := h
        unfold appendA at h ⊢
        cases he : elt P t with
        | none => simp [he] at h
        | some o =>
          obtain ⟨e', sz, by_⟩ := o
          cases hr : rowOf (ρ y) with
          | none => simp [he, hr] at h
          | some es2 =>
            rw [he, hr] at h
            simp only at h ⊢
            cases hx : ρ x <;> rw [hx] at h <;> try exact h.2.elim
            obtain ⟨q1, q2, q3, q | ⟨q4, q5⟩⟩ := h
            · exact ⟨_, _, q, fun _ hk => ⟨trivial, q1, q2, q3, .inl hk⟩⟩
            by_cases hne : es2 = []
            · exact ⟨_, _, q4 hne, fun _ hk => ⟨trivial, q1, q2, q3, .inr ⟨fun _ => hk, fun h => absurd hne h⟩⟩⟩
            · exact ⟨_, _, q5 hne, fun _ hk => ⟨trivial, q1, q2, q3, .inr ⟨fun h => absurd h hne, fun _ => hk⟩⟩⟩
      · exact h.elim
  all_goals exact gen h
theorem stepA_full {o : Oper} {K : V → Option ((Nat → V) × O) → Prop} (h : stepA P gl (e.ev gl) st o.op K) : ∃ v u, K v u ∧ ∀ e' : Env, (∀ x ∈ o.op.operands, e.ev gl x = e'.ev gl x) → OpA P gl r o e' st v u := by
  obtain ⟨v, u, hK, hall⟩ := stepA_det h
  refine ⟨v, u, hK, fun e' he => ?_⟩
  obtain ⟨v', u', ⟨rfl, rfl⟩, hA⟩ := stepA_sound (r := r) (stepA_congr he (hall (fun v' u' => v' = v ∧ u' = u) ⟨rfl, rfl⟩))
  exact hA
def dstAt (ops : Array Oper) (i : Nat) : Option Tmp := (ops[i]?).bind (·.dst)
def dep (ops : Array Oper) (i j : Nat) : Bool := match ops[i]? with
  | some o => o.after.toList.any fun e => Region.binds .any e && e.on == j
  | none => false
/-- The first m operations may come in whatever order; the rest are a chain behind them. -/
def anyOK (ops : Array Oper) (m : Nat) : Bool :=
  decide (m ≤ ops.size) &&
  (List.range ops.size).all (fun i => match ops[i]? with | some o => o.after.toList.all (fun e => !(Region.binds .any e) || decide (e.on < i)) | none => true) &&
  (List.range m).all (fun i => match ops[i]? with | some o => (o.looksAt ops).all (fun t => (List.range m).all (fun j => !(dstAt ops j == some t) || dep ops i j)) | none => true) &&
  (List.range m).all (fun i => (List.range i).all (fun j => dstAt ops i == none || !(dstAt ops i == dstAt ops j))) &&
  (decide (m = ops.size) || ((List.range m).all (fun j => (List.range (m + 1)).any (fun j' => decide (j < j') && dep ops j' j)) && (List.range ops.size).all (fun i => decide (i ≤ m) || dep ops i (i - 1))))
/-- The first operations of a region. -/
def awA (P : Program) (gl : Nat → V) (ops : Array Oper) : List Oper → Env → List O → List Up → (Env → List O → Prop) → Prop
  | [], e, st, ups, K => K (applyUps ups e st).1 (applyUps ups e st).2
  | o :: rest, e, st, ups, K => e.fits o.dst ∧ match o.guard with
    | none => stepA P gl (e.ev gl) st o.op fun v u => match u, o.dst with
      | none, _ => awA P gl ops rest (e.put o.dst v) st ups K
      | some (f, ob), some d => awA P gl ops rest (e.put o.dst v) st (ups ++ [(d, f, ob)]) K
      | some _, none => False
    | some (j, want) => match (ops[j]?).bind (·.dst) with
      | none => False
      | some d => match e.get d with
        | .bool b => if b = want then stepA P gl (e.ev gl) st o.op fun v u => match u, o.dst with
            | none, _ => awA P gl ops rest (e.put o.dst v) st ups K
            | some (f, ob), some d => awA P gl ops rest (e.put o.dst v) st (ups ++ [(d, f, ob)]) K
            | some _, none => False
          else awA P gl ops rest (e.put o.dst (.tuple [])) st ups K
        | .tuple [] => awA P gl ops rest (e.put o.dst (.tuple [])) st ups K
        | _ => False
/-- What an operation gives, guard and all, whatever came before. -/
def OpB (P : Program) (gl : Nat → V) (r : Option Nat) (ops : Array Oper) (o : Oper) (e : Env) (st : List O) (v : V) (u : Option ((Nat → V) × O)) : Prop :=
  ∀ e' : Env, (∀ t ∈ o.looksAt ops, e'.get t = e.get t) → ∀ (n0 : Nat) (w : World) (s : S) (a : Act) (next : Act → World → Prop) (Q : Exit → Act → World → Prop), n0 ≤ w.heap.size → s.st = st → Sim P gl w s → ActOK w s n0 e' a →
    (∀ x w' s', Sim P gl w' s' → Evolve w s w' s' → s'.st = st → Rep w' s' v x → (∀ f o, u = some (f, o) → ∃ b, w.heap.size ≤ b ∧ Pend P w' s' f o x b) → next (a.put o.dst x) w') →
    if Region.wanted o (yielded ops a.tmps) = true then o.wpIn (Fr r) 0 P a w next Q else (∀ f, o.about P w a.eval = some f → (Fr r).fn f) ∧ next (a.put o.dst undef) w
def upOf (d : Option Tmp) (u : Option ((Nat → V) × O)) : List Up := match u, d with
  | some (f, ob), some d => [(d, f, ob)]
  | _, _ => []
def upsOf : List Oper → List (V × Option ((Nat → V) × O)) → List Up
  | o :: l, (_, u) :: res => upOf o.dst u ++ upsOf l res
  | _, _ => []
def envOf : List Oper → List (V × Option ((Nat → V) × O)) → Env → Env
  | o :: l, (v, _) :: res, e => envOf l res (e.put o.dst v)
  | _, _, e => e
def RunA (P : Program) (gl : Nat → V) (r : Option Nat) (ops : Array Oper) (st : List O) : List Oper → List (V × Option ((Nat → V) × O)) → Env → Prop
  | [], [], _ => True
  | o :: l, (v, u) :: res, e => e.fits o.dst ∧ (u.isSome = true → o.dst.isSome = true) ∧ OpB P gl r ops o e st v u ∧ RunA P gl r ops st l res (e.put o.dst v)
  | _, _, _ => False
theorem ev_of_get {o : Oper} {e' : Env} {ops : Array Oper} (h : ∀ t ∈ o.looksAt ops, e'.get t = e.get t) : ∀ x ∈ o.op.operands, e.ev gl x = e'.ev gl x := fun x hx => by
  cases x with
  | tmp t => exact (h t (List.mem_append_left _ (List.mem_filterMap.2 ⟨.tmp t, by simpa using hx, rfl⟩))).symm
  | _ => rfl
theorem awA_run {ops : Array Oper} {K : Env → List O → Prop} : ∀ (l : List Oper) (e : Env) (ups : List Up), awA P gl ops l e st ups K →
    ∃ res, RunA P gl r ops st l res e ∧ K (applyUps (ups ++ upsOf l res) (envOf l res e) st).1 (applyUps (ups ++ upsOf l res) (envOf l res e) st).2 := by
  intro l
  induction l with
  | nil => intro e ups h; exact ⟨[], trivial, by simpa [upsOf, upOf, envOf, awA] using h⟩
  | cons o l ih =>
    intro e ups h
    unfold awA at h
    obtain ⟨hfit, h⟩ := h
    have yes : ∀ (hw : ∀ (e' : Env) (w : World) (s : S) (n0 : Nat) (a : Act), (∀ t ∈ o.looksAt ops, e'.get t = e.get t) → ActOK w s n0 e' a → Region.wanted o (yielded ops a.tmps) = true), (stepA P gl (e.ev gl) st o.op fun v u => match u, o.dst with
      | none, _ => awA P gl ops l (e.put o.dst v) st ups K
      | some (f, ob), some d => awA P gl ops l (e.put o.dst v) st (ups ++ [(d, f, ob)]) K
      | some _, none => False) → ∃ res, RunA P gl r ops st (o :: l) res e ∧ K (applyUps (ups ++ upsOf (o :: l) res) (envOf (o :: l) res e) st).1 (applyUps (ups ++ upsOf (o :: l) res) (envOf (o :: l) res e) st).2 := fun hw h => by
      obtain ⟨v, u, hK, hA⟩ := stepA_full (r := r) h
      have hB : OpB P gl r ops o e st v u := fun e' he n0 w s a next Q hn hst hs ha hk => by
        rw [if_pos (hw e' w s n0 a he ha)]
        exact hA e' (ev_of_get he) n0 w s a next Q hn hst hs ha hk
      cases u with
      | none =>
        obtain ⟨res, h1, h2⟩ := ih _ _ hK
        exact ⟨(v, none) :: res, ⟨hfit, by simp, hB, h1⟩, by simpa [upsOf, upOf, envOf] using h2⟩
      | some fo =>
        obtain ⟨f, ob⟩ := fo
        cases hd : o.dst with
        | none => rw [hd] at hK; exact hK.elim
        | some d =>
          rw [hd] at hK
          obtain ⟨res, h1, h2⟩ := ih _ _ hK
          rw [← hd] at h1
          exact ⟨(v, some (f, ob)) :: res, ⟨hfit, by simp [hd], hB, h1⟩, by simpa [upsOf, upOf, envOf, hd] using h2⟩
    cases hg : o.guard with
    | none =>
      rw [hg] at h
      exact yes (fun _ _ _ _ _ _ _ => by simp [Region.wanted, hg]) h
    | some jw =>
      obtain ⟨j, want⟩ := jw
      rw [hg] at h
      simp only at h
      cases hd : (ops[j]?).bind (·.dst) with
      | none => rw [hd] at h; exact h.elim
      | some d =>
        rw [hd] at h
        simp only at h
        have hlk : d ∈ o.looksAt ops := List.mem_append_right _ (by simp [hg, hd])
        cases hv : e.get d <;> rw [hv] at h <;> try exact h.elim
        case tuple cs =>
          cases cs with
          | cons c cs => exact h.elim
          | nil =>
            obtain ⟨res, h1, h2⟩ := ih _ _ h
            refine ⟨(.tuple [], none) :: res, ⟨hfit, by simp, fun e' he n0 w s a next Q hn hst hs ha hk => ?_, h1⟩, by simpa [upsOf, upOf, envOf] using h2⟩
            rw [if_neg (by simp [Region.wanted, hg, yielded_hole ha hd ((he d hlk).trans hv)])]
            exact ⟨fun _ _ => trivial, hk undef w s hs (Evolve.refl hs.wf) hst (rep_hole _ _) (by simp)⟩
        rename_i b
        have hw : ∀ (e' : Env) (w : World) (s : S) (n0 : Nat) (a : Act), (∀ t ∈ o.looksAt ops, e'.get t = e.get t) → ActOK w s n0 e' a → Region.wanted o (yielded ops a.tmps) = (b == want) := fun e' w s n0 a he ha => by
          have hy := yielded_of (ops := ops) (j := j) ha hd ((he d hlk).trans hv)
          simp only [Region.wanted, hg, hy]
          cases b <;> cases want <;> rfl
        simp only at h
        split at h
        · rename_i hbw
          exact yes (fun e' w s n0 a he ha => by rw [hw e' w s n0 a he ha]; simpa using hbw) h
        · rename_i hbw
          obtain ⟨res, h1, h2⟩ := ih _ _ h
          refine ⟨(.tuple [], none) :: res, ⟨hfit, by simp, fun e' he n0 w s a next Q hn hst hs ha hk => ?_, h1⟩, by simpa [upsOf, upOf, envOf] using h2⟩
          rw [if_neg (by rw [hw e' w s n0 a he ha]; simpa using hbw)]
          exact ⟨fun _ _ => trivial, hk undef w s hs (Evolve.refl hs.wf) hst (rep_hole _ _) (by simp)⟩
end
end Go.Duo
