/-
  A part of the proof.
-/
import Derived.Test.YtdlcnihacaboiaaGreatDoorGE
import Derived.RangeFuncRecord
import Derived.Sort.LoopGhostIn
set_option linter.all false
namespace Go.Duo
open Go
section
variable {P : Program} {gl : Nat → V} {r : Option Nat} {e : Env} {st : List O} {w w' : World} {s s' : S} {Q : Exit → Env → List O → Prop}
theorem Evolve.trim (h : Evolve w s w' s') (hl : s.g.length = s.st.length) (hl' : s'.g.length = s'.st.length) {k : Nat} (hk : s.st.length ≤ k) : Evolve w s w' (s'.trim k) where
  os := h.os
  tape := h.tape
  output := h.output
  size := h.size
  keeps := h.keeps
  knew := h.knew
  block := h.block
  len := by
    have := h.len
    simp only [S.trim, List.length_take]
    omega
  objs := fun i o g ho hg => by
    obtain ⟨o', g', h1, h2, t⟩ := h.objs i o g ho hg
    have hi : i < k := by
      have := (List.getElem?_eq_some_iff.1 ho).1
      omega
    refine ⟨o'.trim k, g', trim_st' h1 hi, trim_g' h2 hi, ?_⟩
    cases o with
    | box t' cs =>
      obtain ⟨rfl, rfl | ⟨cs', rfl, hc⟩⟩ := t
      · exact ⟨rfl, .inl rfl⟩
      · exact ⟨rfl, .inr ⟨_, rfl, by simpa using hc⟩⟩
    | map ks vs =>
      obtain ⟨rfl, rfl | ⟨ks', vs', rfl⟩⟩ := t
      · exact ⟨rfl, .inl rfl⟩
      · exact ⟨rfl, .inr ⟨_, _, rfl⟩⟩
    | tok e sz m =>
      rcases t with rfl | ⟨m', rfl, t⟩
      · exact .inl rfl
      · exact .inr ⟨m', rfl, t⟩
    | arr e sz v es =>
      rcases t with rfl | ⟨m', es', rfl, t⟩
      · exact .inl rfl
      · exact .inr ⟨m', es', rfl, t⟩
    | yld xs j go =>
      obtain ⟨t1, rfl | ⟨j', go', rfl, t2⟩⟩ := t
      · exact ⟨t1, .inl rfl⟩
      · exact ⟨t1, .inr ⟨j', go', rfl, t2⟩⟩
    | dead => obtain ⟨rfl, rfl⟩ := t; exact ⟨rfl, rfl⟩
  fresh := fun i o g b hi ho hlv hg hat => by
    obtain ⟨o', h1, rfl, _⟩ := trim_get ho
    exact h.fresh i o' g b hi h1 (by rw [O.trim_lives] at hlv; exact hlv) (trim_g hg).1 hat
  noyld := fun i xs n go hi ho => by
    obtain ⟨o', h1, he, _⟩ := trim_get ho
    cases o' <;> simp only [O.trim] at he <;> try cases he
    exact h.noyld i _ _ _ hi h1
def Env.trim (k : Nat) (e : Env) : Env := ⟨e.n, e.m.map fun p => (p.1, p.2.trim k)⟩
def trimS (k : Nat) (st : List O) : List O := (st.take k).map (O.trim k)
theorem Env.trim_get (k : Nat) (e : Env) (t : Nat) : (e.trim k).get t = (e.get t).trim k := by
  obtain ⟨n, m⟩ := e
  simp only [Env.trim, Env.get]
  induction m with
  | nil => rfl
  | cons p m ih =>
    obtain ⟨a, v⟩ := p
    simp only [List.map_cons, getM]
    split
    · rfl
    · exact ih
theorem Marks.trim {n0 : Nat} {ds : List Deferred} (h : Marks w s n0 ds) (k : Nat) : Marks w (s.trim k) n0 ds := by
  refine ⟨fun d hd => ?_, h.2⟩
  obtain ⟨r, h1, h2, h3, h4, h5⟩ := h.1 d hd
  exact ⟨r, h1, h2, h3, fun ⟨i, hi⟩ => h4 ⟨i, own_trim hi⟩, fun hf => h5 (foreign_trim hf)⟩
theorem ActOK.trim {n0 : Nat} {a : Act} (h : ActOK w s n0 e a) (k : Nat) : ActOK w (s.trim k) n0 (e.trim k) a :=
  ⟨h.n, fun t => by rw [Env.trim_get]; exact (h.get t).trim, h.marks.trim k⟩
/-- Whatever is a is b as well, where the objects are so. -/
def V.le (st : List O) (a b : V) : Prop := ∀ (w : World) (s : S) (x : Value), s.st = st → Rep w s a x → Rep w s b x
theorem V.le_refl (st : List O) (a : V) : V.le st a a := fun _ _ _ _ h => h
theorem V.le_of_eq {st : List O} {a b : V} (h : a = b) : V.le st a b := h ▸ V.le_refl st a
theorem V.le_trans {st : List O} {a b c : V} (h : V.le st a b) (k : V.le st b c) : V.le st a c := fun w s x hs hx => k w s x hs (h w s x hs hx)
theorem V.le_undef (st : List O) (a : V) : V.le st a .undef := fun _ _ _ _ _ => .undef _
theorem V.le_nil (st : List O) : V.le st .nil (.sl [] none) := fun _ _ _ _ h => by
  obtain ⟨a, rfl⟩ := h.nil_inv
  exact .pure _ _ (PR.nil_sl a)
theorem V.le_nil_tok {st : List O} {k : Nat} {e : TypeId} {sz : Nat} (h : st[k]? = some (.tok e sz 0)) : V.le st .nil (.sl [] (some k)) := fun w s x hs hx => by
  obtain ⟨a, rfl⟩ := hx.nil_inv
  exact .tok [] k _ (PR.nil_sl a) ⟨.tok e sz 0, hs ▸ h, Nat.zero_le _, fun _ => .inr ⟨rfl, a, rfl⟩, by simp⟩
theorem V.le_sl (st : List O) (es : List V) (t : Option Nat) : V.le st (.sl es t) (.sl es none) := fun _ _ _ _ h => .pure _ _ h.sl_inv
theorem V.le_agg {st : List O} {cs ds : List V} (hl : cs.length = ds.length) (h : ∀ (i : Nat) (c d : V), cs[i]? = some c → ds[i]? = some d → V.le st c d) : V.le st (.agg cs) (.agg ds) := fun w s x hs hx => by
  obtain ⟨xs, rfl, hlx, hr⟩ := hx.agg_inv
  refine .agg _ xs (by omega) fun i d y hd hy => ?_
  have hi : i < cs.length := by have := (List.getElem?_eq_some_iff.1 hd).1; omega
  exact h i cs[i] d (List.getElem?_eq_getElem hi) hd w s y hs (hr i _ y (List.getElem?_eq_getElem hi) hy)
theorem V.le_tuple {st : List O} {cs ds : List V} (hl : cs.length = ds.length) (h : ∀ (i : Nat) (c d : V), cs[i]? = some c → ds[i]? = some d → V.le st c d) : V.le st (.tuple cs) (.tuple ds) := fun w s x hs hx => by
  obtain ⟨xs, rfl, hlx, hr⟩ := hx.tuple_inv
  refine .tuple _ xs (by omega) fun i d y hd hy => ?_
  have hi : i < cs.length := by have := (List.getElem?_eq_some_iff.1 hd).1; omega
  exact h i cs[i] d (List.getElem?_eq_getElem hi) hd w s y hs (hr i _ y (List.getElem?_eq_getElem hi) hy)
/-- What is known of fewer temporaries. -/
structure Env.le (st : List O) (e e' : Env) : Prop where
  n : e'.n ≤ e.n
  get : ∀ t, V.le st (e.get t) (e'.get t)
theorem Env.le_refl (st : List O) (e : Env) : Env.le st e e := ⟨Nat.le_refl _, fun _ => V.le_refl _ _⟩
theorem ActOK.le {n0 : Nat} {a : Act} {e' : Env} (h : ActOK w s n0 e a) (hle : Env.le s.st e e') : ActOK w s n0 e' a :=
  ⟨Nat.le_trans hle.n h.n, fun t => hle.get t w s _ rfl (h.get t), h.marks⟩
/-- All that the list names is so. -/
def Env.has (st : List O) (e : Env) : List (Nat × V) → Prop
  | [] => True
  | (t, v) :: m => V.le st (e.get t) v ∧ e.has st m
theorem Env.le_of_has {e : Env} {n : Nat} {m : List (Nat × V)} (hn : n ≤ e.n) (h : e.has st m) : Env.le st e ⟨n, m⟩ := by
  refine ⟨hn, fun t => ?_⟩
  simp only [Env.get]
  clear hn
  induction m with
  | nil => exact V.le_undef _ _
  | cons p m ih =>
    obtain ⟨a, v⟩ := p
    obtain ⟨h1, h2⟩ := h
    simp only [getM]
    by_cases e1 : a = t
    · subst e1
      rw [if_pos rfl]
      exact h1
    · rw [if_neg e1]
      exact ih h2
/-- What is known of an object's cells. -/
def O.le (st : List O) : O → O → Prop
  | .box t cs, o' => ∃ cs', o' = .box t cs' ∧ cs.length = cs'.length ∧ ∀ (i : Nat) (c d : V), cs[i]? = some c → cs'[i]? = some d → V.le st c d
  | o, o' => o' = o
def StLe (st st' : List O) : Prop := st.length = st'.length ∧ ∀ (i : Nat) (o o' : O), st[i]? = some o → st'[i]? = some o' → O.le st o o'
theorem O.le_refl (st : List O) (o : O) : O.le st o o := by
  cases o with
  | box t cs => exact ⟨cs, rfl, rfl, fun i c d h h' => by rw [h] at h'; simp only [Option.some.injEq] at h'; subst h'; exact V.le_refl _ _⟩
  | _ => rfl
theorem StLe.refl (st : List O) : StLe st st := ⟨rfl, fun i o o' h h' => by rw [h] at h'; simp only [Option.some.injEq] at h'; subst h'; exact O.le_refl _ _⟩
theorem O.le_lives {st : List O} {o o' : O} (h : O.le st o o') : o'.lives = o.lives ∧ ∀ y, o'.writes y ↔ o.writes y := by
  cases o with
  | box t cs => obtain ⟨cs', rfl, _⟩ := h; exact ⟨rfl, fun _ => Iff.rfl⟩
  | _ => cases h; exact ⟨rfl, fun _ => Iff.rfl⟩
theorem StLe.back {st' : List O} (h : StLe s.st st') {i : Nat} {o' : O} (ho : st'[i]? = some o') : ∃ o, s.st[i]? = some o ∧ O.le s.st o o' := by
  have hi : i < s.st.length := by have := (List.getElem?_eq_some_iff.1 ho).1; have := h.1; omega
  exact ⟨s.st[i], List.getElem?_eq_getElem hi, h.2 i _ o' (List.getElem?_eq_getElem hi) ho⟩
theorem StLe.forth {st' : List O} (h : StLe s.st st') {i : Nat} {o : O} (ho : s.st[i]? = some o) : ∃ o', st'[i]? = some o' ∧ O.le s.st o o' := by
  have hi : i < st'.length := by have := (List.getElem?_eq_some_iff.1 ho).1; have := h.1; omega
  exact ⟨st'[i], List.getElem?_eq_getElem hi, h.2 i o _ ho (List.getElem?_eq_getElem hi)⟩
def S.wk (s : S) (st' : List O) : S := { s with st := st' }
theorem Rep.wk {st' : List O} (h : StLe s.st st') {v : V} {x : Value} (hr : Rep w s v x) : Rep w (s.wk st') v x := by
  induction hr with
  | pure v x hp => exact .pure v x hp
  | undef x => exact .undef x
  | agg cs xs hl _ ih => exact .agg cs xs hl ih
  | tuple cs xs hl _ ih => exact .tuple cs xs hl ih
  | func fn fs cs xs ys hl hl' _ _ ih ih' => exact .func fn fs cs xs ys hl hl' ih ih'
  | iface t v x _ ih => exact .iface t v x ih
  | tok es id x hp ht =>
    obtain ⟨o, ho, hm⟩ := ht
    obtain ⟨o', ho', hle⟩ := h.forth ho
    refine .tok es id x hp ⟨o', ho', ?_⟩
    cases o with
    | box => exact hm.elim
    | _ => cases hle; exact hm
  | ref id ver x h1 ht =>
    obtain ⟨o, ho, hm⟩ := ht
    obtain ⟨o', ho', hle⟩ := h.forth ho
    refine .ref id ver x h1 ⟨o', ho', ?_⟩
    cases o with
    | box => exact hm.elim
    | _ => cases hle; exact hm
  | rptr id ver off x h1 ht =>
    obtain ⟨o, ho, hm⟩ := ht
    obtain ⟨o', ho', hle⟩ := h.forth ho
    refine .rptr id ver off x h1 ⟨o', ho', ?_⟩
    cases o with
    | box => exact hm.elim
    | _ => cases hle; exact hm
  | ptr id off b hb => exact .ptr id off b hb
  | map id b hb => exact .map id b hb
  | yld id l F J Jx hb => exact .yld id l F J Jx hb
theorem own_wk {st' : List O} (h : StLe s.st st') (i b : Nat) : (s.wk st').own i b ↔ s.own i b := by
  constructor
  · rintro ⟨o', g, ho', hl, hg, hat⟩
    obtain ⟨o, ho, hle⟩ := h.back ho'
    exact ⟨o, g, ho, by rw [← (O.le_lives hle).1]; exact hl, hg, hat⟩
  · rintro ⟨o, g, ho, hl, hg, hat⟩
    obtain ⟨o', ho', hle⟩ := h.forth ho
    exact ⟨o', g, ho', by rw [(O.le_lives hle).1]; exact hl, hg, hat⟩
theorem mine_wk {st' : List O} (h : StLe s.st st') (b : Nat) : (s.wk st').mine b ↔ s.mine b := ⟨fun ⟨i, hi⟩ => ⟨i, (own_wk h i b).1 hi⟩, fun ⟨i, hi⟩ => ⟨i, (own_wk h i b).2 hi⟩⟩
theorem foreign_wk {st' : List O} (h : StLe s.st st') (b : Nat) : (s.wk st').foreign b ↔ s.foreign b := by
  constructor
  · rintro ⟨i, xs, k, l, go, F, J, Jx, ho', hg, hF⟩
    obtain ⟨o, ho, hle⟩ := h.back ho'
    cases o with
    | box => obtain ⟨_, h, _⟩ := hle; cases h
    | _ => cases hle <;> exact ⟨i, xs, k, l, go, F, J, Jx, ho, hg, hF⟩
  · rintro ⟨i, xs, k, l, go, F, J, Jx, ho, hg, hF⟩
    obtain ⟨o', ho', hle⟩ := h.forth ho
    cases hle
    exact ⟨i, xs, k, l, go, F, J, Jx, ho', hg, hF⟩
theorem Sim.wk {st' : List O} (hs : Sim P gl w s) (h : StLe s.st st') : Sim P gl w (s.wk st') where
  len := hs.len.trans h.1
  obj := fun i o' g ho' hg => by
    obtain ⟨o, ho, hle⟩ := h.back ho'
    have hk := hs.obj i o g ho hg
    cases o with
    | box t cs =>
      obtain ⟨cs', rfl, hl, hc⟩ := hle
      cases g <;> simp only [ObjOK] at hk ⊢
      obtain ⟨arr, h1, h2, h3⟩ := hk
      refine ⟨arr, h1, by omega, fun j d x hd hx => ?_⟩
      have hj : j < cs.length := by have := (List.getElem?_eq_some_iff.1 hd).1; omega
      exact (hc j _ d (List.getElem?_eq_getElem hj) hd w s x rfl (h3 j _ x (List.getElem?_eq_getElem hj) hx)).wk h
    | map ks vs =>
      cases hle
      cases g <;> simp only [ObjOK] at hk ⊢
      obtain ⟨es, clock, h1, h2, h3, h4, h5⟩ := hk
      exact ⟨es, clock, h1, h2, h3, h4, fun i c e hc he => (h5 i c e hc he).wk h⟩
    | yld => cases hle; cases g <;> first | exact hk.elim | (simp only [ObjOK] at hk ⊢; exact ⟨hk.1, hk.2.1, hk.2.2.1, fun b hb => hk.2.2.2 b ((mine_wk h b).1 hb)⟩)
    | _ => cases hle; cases g <;> first | exact hk | exact hk.elim
  inj := fun i j b hi hj => hs.inj i j b ((own_wk h i b).1 hi) ((own_wk h j b).1 hj)
  kout := fun i b o ob hi hob hwr => by
    obtain ⟨o0, ho0, hle⟩ := h.back hob
    exact hs.kout i b o o0 ((own_wk h i b).1 hi) ho0 (((O.le_lives hle).2 o).1 hwr)
  kin := hs.kin
  fgn := fun b hb => by
    obtain ⟨h1, h2⟩ := hs.fgn b ((foreign_wk h b).1 hb)
    exact ⟨h1, fun hm => h2 ((mine_wk h b).1 hm)⟩
  glob := hs.glob
theorem Evolve.wk {w0 : World} {s0 : S} {st' : List O} (hE : Evolve w0 s0 w s) (h : StLe s.st st') : Evolve w0 s0 w (s.wk st') where
  os := hE.os
  tape := hE.tape
  output := hE.output
  size := hE.size
  keeps := hE.keeps
  knew := hE.knew
  block := hE.block
  len := hE.len
  objs := fun i o g ho hg => by
    obtain ⟨o1, g1, h1, h2, t⟩ := hE.objs i o g ho hg
    obtain ⟨o2, h3, hle⟩ := h.forth h1
    refine ⟨o2, g1, h3, h2, ?_⟩
    cases o1 with
    | box t1 cs1 =>
      obtain ⟨cs2, rfl, hl, _⟩ := hle
      cases o with
      | box t0 cs0 =>
        obtain ⟨hg, hh | ⟨cs', hh, hc⟩⟩ := t
        · cases hh
        · cases hh; exact ⟨hg, .inr ⟨_, rfl, by omega⟩⟩
      | map ks vs => obtain ⟨_, hh | ⟨_, _, hh⟩⟩ := t <;> cases hh
      | tok e sz m => rcases t with hh | ⟨_, hh, _⟩ <;> cases hh
      | arr e sz v es => rcases t with hh | ⟨_, _, hh, _⟩ <;> cases hh
      | yld xs j go => obtain ⟨_, hh | ⟨_, _, hh, _⟩⟩ := t <;> cases hh
      | dead => cases t.1
    | _ => cases hle; exact t
  fresh := fun i o' g b hi ho' hlv hg hat => by
    obtain ⟨o, ho, hle⟩ := h.back ho'
    exact hE.fresh i o g b hi ho (by rw [← (O.le_lives hle).1]; exact hlv) hg hat
  noyld := fun i xs k go hi ho' => by
    obtain ⟨o, ho, hle⟩ := h.back ho'
    cases o with
    | box => obtain ⟨_, h, _⟩ := hle; cases h
    | _ => cases hle <;> exact hE.noyld i _ _ _ hi ho
theorem Marks.wk {n0 : Nat} {ds : List Deferred} {st' : List O} (hm : Marks w s n0 ds) (h : StLe s.st st') : Marks w (s.wk st') n0 ds := by
  refine ⟨fun d hd => ?_, hm.2⟩
  obtain ⟨r, h1, h2, h3, h4, h5⟩ := hm.1 d hd
  exact ⟨r, h1, h2, h3, fun hh => h4 ((mine_wk h r).1 hh), fun hh => h5 ((foreign_wk h r).1 hh)⟩
theorem ActOK.wk {n0 : Nat} {a : Act} {e' : Env} {st' : List O} (ha : ActOK w s n0 e a) (hle : Env.le s.st e e') (h : StLe s.st st') : ActOK w (s.wk st') n0 e' a :=
  ⟨(ha.le hle).n, fun t => ((ha.le hle).get t).wk h, ha.marks.wk h⟩
/-- Less may be taken for known. -/
theorem AW.pre {c : Code} {e' : Env} {st' : List O} (hle : Env.le st e e') (hst : StLe st st') (h : AW P gl r c Q e' st') : AW P gl r c Q e st := fun n0 w s a hn hs0 hs ha => by
  subst hs0
  refine wpIn_mono (h n0 w (s.wk st') a hn rfl (hs.wk hst) (ha.wk hle hst)) fun x a' w' ⟨e'', s', h1, h2, h3, hq⟩ => ?_
  exact ⟨e'', s', h1, ((Evolve.refl hs.wf).wk hst).trans hs.len (hs.wk hst).len h2, h3, hq⟩
/-- The right to append to a row that is empty still. -/
theorem AW.tok {c : Code} (el : TypeId) (sz : Nat) (h : AW P gl r c Q e (st ++ [.tok el sz 0])) : AW P gl r c Q e st := fun n0 w s a hn hst hs ha => by
  subst hst
  have hS : Sim P gl w (s.push (.tok el sz 0) (.row (.slice none 0 0))) := hs.push (fun _ _ _ h => by cases h) (fun _ _ _ h => by cases h) (fun _ _ h => by cases h) (fun _ _ _ => by simp) ⟨[], by simp, .inl ⟨rfl, rfl⟩⟩ (fun _ _ h => by cases h)
  have hE : Evolve w s w (s.push (.tok el sz 0) (.row (.slice none 0 0))) := Evolve.push hs.wf (Evolve.refl hs.wf) _ _ (fun _ _ h => by cases h) (fun _ _ _ => by simp)
  refine wpIn_mono (h n0 w _ a hn rfl hS (ha.evolve hE hs.wf)) fun x a' w' ⟨e'', s', h1, h2, h3, hq⟩ => ?_
  exact ⟨e'', s', h1, hE.trans hs.len hS.len h2, h3, hq⟩
/-- Behind a piece of code objects that have come since may be forgotten, and temporaries. -/
theorem AW.post {c : Code} (h : AW P gl r c (fun x e' st' => ∃ k e'' st'', st.length ≤ k ∧ Env.le (trimS k st') (e'.trim k) e'' ∧ StLe (trimS k st') st'' ∧ Q x e'' st'') e st) : AW P gl r c Q e st := fun n0 w s a hn hst hs ha => by
  refine wpIn_mono (h n0 w s a hn hst hs ha) fun x a' w' ⟨e', s', h1, h2, h3, k, e'', st'', hk, hle, hsl, hq⟩ => ?_
  exact ⟨e'', (s'.trim k).wk st'', (h1.trim k).wk hsl, (h2.trim hs.len h1.len (by rw [hst]; exact hk)).wk hsl, (h3.trim k).wk hle hsl, hq⟩
/-- A loop: the relation bears a number, which every round lowers. -/
theorem AW.loopN {c : Code} (I : Nat → Env → List O → Prop) (n : Nat) (h0 : I n e st)
    (round : ∀ n e st, I n e st → AW P gl r c (thenQ (fun e' st' => ∃ n', n' < n ∧ I n' e' st') Q) e st) : AW P gl r (.loop c) Q e st := fun n0 w s a hn hst hs ha => by
  refine wpIn_loop_ghost (fun k a' w' => ∃ e' s', Sim P gl w' s' ∧ Evolve w s w' s' ∧ ActOK w' s' n0 e' a' ∧ I k e' s'.st) n ⟨e, s, hs, Evolve.refl hs.wf, ha, hst ▸ h0⟩ fun k a' w' ⟨e', s', h1, h2, h3, h4⟩ => ?_
  refine wpIn_mono (round k e' s'.st h4 n0 w' s' a' (Nat.le_trans hn h2.size) rfl h1 h3) fun x a'' w'' ⟨e'', s'', k1, k2, k3, k4⟩ => ?_
  have hE := h2.trans hs.len h1.len k2
  cases x with
  | normal =>
    obtain ⟨n', hlt, hI⟩ := k4
    exact ⟨n', hlt, e'', s'', k1, hE, k3, hI⟩
  | _ => exact ⟨e'', s'', k1, hE, k3, k4⟩
/-- A loop over a family of states: what is known at its head is 'm a' of the temporaries, 'o a' of the objects; behind a round what has come since may be forgotten. -/
theorem AW.loop {α : Type} {c : Code} (n : Nat) (m : α → List (Nat × V)) (o : α → List O) (μ : α → Nat) (a0 : α) (hn : n ≤ e.n) (h0 : e.has st (m a0)) (hs : StLe st (o a0))
    (round : ∀ a, AW P gl r c (thenQ (fun e' st' => ∃ a', μ a' < μ a ∧ ∃ k, (o a).length ≤ k ∧ n ≤ e'.n ∧ (e'.trim k).has (trimS k st') (m a') ∧ StLe (trimS k st') (o a')) Q) ⟨n, m a⟩ (o a)) : AW P gl r (.loop c) Q e st := by
  refine .pre (Env.le_of_has hn h0) hs ?_
  refine AW.loopN (fun k e' st' => ∃ a, k = μ a ∧ e' = ⟨n, m a⟩ ∧ st' = o a) (μ a0) ⟨a0, rfl, rfl, rfl⟩ ?_
  rintro k e' st' ⟨a, rfl, rfl, rfl⟩
  refine fun n0 w s b hn0 hst hs' ha => wpIn_mono (round a n0 w s b hn0 hst hs' ha) fun x b' w' ⟨e', s', h1, h2, h3, h4⟩ => ?_
  cases x with
  | normal =>
    obtain ⟨a', hlt, k, hk, hn', hh, hs''⟩ := h4
    exact ⟨⟨n, m a'⟩, (s'.trim k).wk (o a'), (h1.trim k).wk hs'', (h2.trim hs'.len h1.len (by rw [hst]; exact hk)).wk hs'', (h3.trim k).wk (Env.le_of_has hn' hh) hs'', μ a', hlt, a', rfl, rfl, rfl⟩
  | _ => exact ⟨e', s', h1, h2, h3, h4⟩
theorem Rep.ofKeeps (hk : Keeps w s.K w' s.K) {v : V} {x : Value} (h : Rep w s v x) : Rep w' s v x := by
  induction h with
  | pure v x hp => exact .pure v x (hp.keeps hk)
  | undef x => exact .undef x
  | agg cs xs hl _ ih => exact .agg cs xs hl ih
  | tuple cs xs hl _ ih => exact .tuple cs xs hl ih
  | func fn fs cs xs ys hl hl' _ _ ih ih' => exact .func fn fs cs xs ys hl hl' ih ih'
  | iface t v x _ ih => exact .iface t v x ih
  | tok es id x hp ht => exact .tok es id x (hp.keeps hk) ht
  | ref id ver x h1 hr => exact .ref id ver x h1 hr
  | ptr id off b hb => exact .ptr id off b hb
  | rptr id ver off x h1 hr => exact .rptr id ver off x h1 hr
  | map id b hb => exact .map id b hb
  | yld id l F J Jx hb => exact .yld id l F J Jx hb
/-- A mark's block is shut. -/
theorem shut {w0 : World} {s0 : S} {n : Nat} {o o' : Obj} (hs : Sim P gl w s) (hE : Evolve w0 s0 w s) (hn : w.heap[n]? = some o) (hc : o.isCells = false) (hm : ∀ es c, o ≠ .map es c) (h0 : w0.heap.size ≤ n) (h1 : ¬ s.mine n) (h2 : ¬ s.foreign n) (hlate : s.late n) :
    Sim P gl (w.putObj n o') s ∧ Evolve w0 s0 (w.putObj n o') s ∧ Keeps w s.K (w.putObj n o') s.K := by
  have hsz : (w.putObj n o').heap.size = w.heap.size := World.putObj_size
  have hoth : ∀ b, b ≠ n → (w.putObj n o').heap[b]? = w.heap[b]? := fun b hb => World.putObj_heap_other hb
  have hk : Keeps w s.K (w.putObj n o') s.K := by
    refine ⟨fun _ _ h => h, fun b off x _ hx => ?_, fun b es c _ hx => ?_, fun b _ m _ hx => ?_⟩
    · by_cases hb : b = n
      · subst hb
        cases o <;> first | (cases hc; done) | (simp [World.cell?, hn] at hx; done)
      · rw [World.cell?_of_block (w := w) (hoth b hb)]
        exact hx
    · by_cases hb : b = n
      · subst hb
        rw [hn] at hx
        simp only [Option.some.injEq] at hx
        exact absurd hx (hm es c)
      · rw [hoth b hb]
        exact hx
    · by_cases hb : b = n
      · subst hb
        obtain ⟨cs, t, fr, q1, _⟩ := hx
        rw [hn] at q1
        simp only [Option.some.injEq] at q1
        subst q1
        cases hc
      · exact hx.same (hoth b hb)
  refine ⟨⟨hs.len, fun i ob g ho hg => ?_, hs.inj, hs.kout, fun b o hb => by rw [hsz]; exact hs.kin b o hb, fun b hb => by rw [hsz]; exact hs.fgn b hb, fun g => (hs.glob g).imp id fun k => globKeeps hk k⟩, ⟨hE.os, hE.tape, hE.output, by rw [hsz]; exact hE.size, hE.keeps.trans hk, hE.knew, fun b hb hm hf => by
    rw [hoth b (by omega)]; exact hE.block b hb hm hf, hE.len, hE.objs, hE.fresh, hE.noyld⟩, hk⟩
  have hh := hs.obj i ob g ho hg
  have hb : ob.lives = true → ∀ b, g.at = some b → (w.putObj n o').heap[b]? = w.heap[b]? := fun hl b hat => hoth b fun hb => h1 ⟨i, ob, g, ho, hl, hg, hb ▸ hat⟩
  cases ob <;> cases g <;> simp only [ObjOK] at hh ⊢
  · obtain ⟨arr, ha, hl, hr⟩ := hh
    exact ⟨arr, (hb rfl _ rfl).trans ha, hl, fun i c x hc hx => (hr i c x hc hx).ofKeeps hk⟩
  · obtain ⟨es, clock, ha, hk1, hv, h1, h2⟩ := hh
    exact ⟨es, clock, (hb rfl _ rfl).trans ha, hk1, hv, fun i c e hc he => (h1 i c e hc he).keeps hk, fun i c e hc he => (h2 i c e hc he).ofKeeps hk⟩
  · obtain ⟨xs, h1, h2⟩ := hh
    refine ⟨xs, h1, ?_⟩
    rcases h2 with h2 | ⟨g, cap, cur, rfl, h3, h4, h5⟩
    · exact .inl h2
    · exact .inr ⟨g, cap, cur, rfl, h3, (hb rfl g rfl).trans h4, h5⟩
  · obtain ⟨xs, ⟨h1, h2⟩, h6, h7, h8, h9⟩ := hh
    refine ⟨xs, ⟨h1, ?_⟩, h6, h7, h8, fun j c y hc hy => (h9 j c y hc hy).keeps hk⟩
    rcases h2 with h2 | ⟨g, cap, cur, rfl, h3, h4, h5⟩
    · exact .inl h2
    · exact .inr ⟨g, cap, cur, rfl, h3, (hb rfl g rfl).trans h4, h5⟩
  · obtain ⟨h3, h4, h5, h6⟩ := hh
    rename_i xs k go l F J Jx
    have hln := hlate i xs k l go F J Jx ho hg
    exact ⟨h4.stable _ _ _ _ _ _ _ h3 (fun b hF => hoth b fun hb => h2 (hb ▸ ⟨i, xs, k, l, go, F, J, Jx, ho, hg, hF⟩)) rfl rfl rfl (by rw [hsz]; exact Nat.le_refl _) hk (fun _ _ h => .inl h) (fun b hb => hoth b (by omega)) (fun b o hb => by rw [hsz]; exact hs.kin b o hb), h4, by rw [hsz]; exact h5, h6⟩
/-- All marks are shut; then what follows. -/
theorem leaves {fn : Func} {tmps : Array Value} {w0 : World} {s0 : S} {R : Ending → World → Prop} (hs0 : Sim P gl w0 s0) : ∀ (ds : List Deferred) (w : World), Sim P gl w s → Evolve w0 s0 w s → Marks w s w0.heap.size ds →
    (∀ w', Sim P gl w' s → Evolve w0 s0 w' s → Keeps w s.K w' s.K → ∃ v, (results fn tmps).run P w' = .ok v w' ∧ R (.returned v) w') → LeavesInM Fence.wide 0 P fn tmps R ds .returning w := by
  intro ds
  induction ds with
  | nil => intro w hs hE _ h; exact h w hs hE (Keeps.refl _ _)
  | cons d ds ih =>
    intro w hs hE hm h
    obtain ⟨r, h1, h2, h3, h4, h5⟩ := hm.1 d (by simp)
    obtain ⟨k1, k2, k3⟩ := shut (o' := .deferred none) hs hE h3 rfl (by simp) h2 h4 h5 ((hs0.late h2).evolve hE hs0.len)
    refine ⟨by simp, .inl ⟨r, w.putObj r (.deferred none), h1, run_takeDeferred h3, ih _ k1 k2 ⟨fun d' hd' => ?_, (List.pairwise_cons.1 hm.2).2⟩ fun w' a b c => h w' a b (k3.trans c)⟩⟩
    obtain ⟨r', g1, g2, g3, g4, g5⟩ := hm.1 d' (by simp [hd'])
    have hne : r' ≠ r := fun he => (List.pairwise_cons.1 hm.2).1 d' hd' r h1 (he ▸ g1)
    exact ⟨r', g1, g2, by rw [World.putObj_heap_other hne]; exact g3, g4, g5⟩
/-- What a function's result variable holds. -/
def resP (P : Program) (e : Env) (st : List O) : List ResultVar → (List V → Prop) → Prop
  | [], K => K []
  | .tmp t :: l, K => resP P e st l fun vs => K (e.get t :: vs)
  | .cell a t :: l, K => loadP P t st (e.get a) fun v => resP P e st l fun vs => K (v :: vs)
def resV (vs : List V) : V := match vs with
  | [v] => v
  | vs => .tuple vs
def resSem (tmps : Array Value) : ResultVar → Sem Value
  | .tmp t => pure (tmps.getD t undef)
  | .cell b t => do loadVar t (← asAddr (tmps.getD b undef))
theorem results_run {fn : Func} {tmps : Array Value} {xs : List Value} (h : (fn.results.toList.mapM (resSem tmps)).run P w = .ok xs w) : (results fn tmps).run P w = .ok (if h : xs.toArray.size = 1 then xs.toArray[0] else .tuple xs.toArray) w := by
  have he : results fn tmps = (do
    let vs ← fn.results.mapM (resSem tmps)
    pure (if h : vs.size = 1 then vs[0] else .tuple vs)) := by
    have : resSem tmps = (fun (x : ResultVar) => (match x with
      | .tmp t => pure (tmps.getD t undef)
      | .cell a t => do loadVar t (← asAddr (tmps.getD a undef)) : Sem Value)) := by
      funext x
      cases x <;> rfl
    rw [this]
    rfl
  have h2 : (fn.results.mapM (resSem tmps)).run P w = .ok xs.toArray w := by
    rw [Array.mapM_eq_mapM_toList]
    have : (List.toArray <$> fn.results.toList.mapM (resSem tmps)) = (fn.results.toList.mapM (resSem tmps)) >>= fun l => pure l.toArray := rfl
    rw [this, Sem.run_bind, h]
    rfl
  rw [he, Sem.run_bind, h2]
  rfl
theorem resP_sound {n0 : Nat} {a : Act} (hs : Sim P gl w s) (ha : ActOK w s n0 e a) : ∀ (l : List ResultVar) (K : List V → Prop), resP P e s.st l K →
    ∃ vs xs, (l.mapM (resSem a.tmps)).run P w = .ok xs w ∧ RepL w s vs xs ∧ K vs := by
  intro l
  induction l with
  | nil => intro K h; exact ⟨[], [], rfl, ⟨rfl, by simp⟩, h⟩
  | cons x l ih =>
    intro K h
    have fin : ∀ (v : V) (z : Value), (resSem a.tmps x).run P w = .ok z w → Rep w s v z → (resP P e s.st l fun vs => K (v :: vs)) →
      ∃ vs xs, ((x :: l).mapM (resSem a.tmps)).run P w = .ok xs w ∧ RepL w s vs xs ∧ K vs := fun v z hz hv h => by
      obtain ⟨vs, xs, h1, h2, h3⟩ := ih _ h
      refine ⟨v :: vs, z :: xs, ?_, ⟨by simp [h2.1], fun i c y hc hy => ?_⟩, h3⟩
      · rw [List.mapM_cons, Sem.run_bind, hz]
        simp only [Result.andThen_ok]
        rw [Sem.run_bind, h1]
        rfl
      · cases i with
        | zero => simp only [List.getElem?_cons_zero, Option.some.injEq] at hc hy; subst hc hy; exact hv
        | succ i => exact h2.2 i c y (by simpa using hc) (by simpa using hy)
    cases x with
    | tmp t => exact fin (e.get t) (a.tmps.getD t undef) rfl (ha.get t) h
    | cell b t =>
      obtain ⟨v, z, hz, hv, hK⟩ := load_sound hs (ha.get b) h
      refine fin v z ?_ hv hK
      unfold Instr.loadAt at hz
      show Sem.run P (do loadVar t (← asAddr (a.tmps.getD b undef))) w = _
      cases hx : a.tmps.getD b undef <;> rw [hx] at hz <;> try (simp [Instr.sureAddr, Sem.run_bind, stuck] at hz; done)
      rename_i p
      cases p with
      | none => simp [Instr.sureAddr, Sem.run_bind, stuck] at hz
      | some p => exact hz
/-- The frame that a function begins with. -/
def env0 (n : Nat) (args : List V) : Env := ⟨args.length + (n - args.length), (List.range args.length).zip args⟩
theorem getM_zip : ∀ (args : List V) (k : Nat) (t : Nat), getM ((List.range' k args.length).zip args) t = if k ≤ t then args.getD (t - k) .undef else .undef := by
  intro args
  induction args with
  | nil => intro k t; simp [getM]
  | cons v args ih =>
    intro k t
    simp only [List.length_cons, List.range'_succ, List.zip_cons_cons, getM]
    by_cases h : k = t
    · subst h; simp
    · rw [if_neg h, ih]
      by_cases h2 : k + 1 ≤ t
      · rw [if_pos h2, if_pos (by omega), show t - k = (t - (k + 1)) + 1 by omega]
        simp
      · rw [if_neg h2, if_neg (by omega)]
/-- **A function out of its body.** -/
theorem Call.of_body {k : FuncId} {fn : Func} {c : Code} {args : List V} {K : V → List O → Prop} (hf : P.funcs[k]? = some fn) (hb : fn.body = some c)
    (h : AW P gl none c (fun x e' st' => (x = .normal ∨ x = .ret) ∧ resP P e' st' fn.results.toList fun vs => ∃ j v st'', st.length ≤ j ∧ V.le (trimS j st') ((resV vs).trim j) v ∧ StLe (trimS j st') st'' ∧ K v st'') (env0 fn.ntmps args) st) : Call P gl k args st K := by
  intro w s xs hst hs hxs
  refine callsIn_of_wp_marks hf hb trivial ?_
  have h0 : ActOK w s w.heap.size (env0 fn.ntmps args) { tmps := xs.toArray ++ Array.replicate (fn.ntmps - xs.toArray.size) undef, defers := [] } := by
    refine ⟨?_, fun t => ?_, ⟨by simp, by simp⟩⟩
    · simp [env0, hxs.1]
    · simp only [env0, Env.get]
      rw [List.range_eq_range', getM_zip]
      simp only [Nat.zero_le, if_true, Nat.sub_zero]
      rw [List.getD_eq_getElem?_getD, Array.getD_eq_getD_getElem?]
      cases hc : args[t]? with
      | none => exact .undef _
      | some v =>
        have hlt : t < xs.length := by have := (List.getElem?_eq_some_iff.1 hc).1; rw [← hxs.1]; exact this
        rw [Array.getElem?_append_left (by simpa using hlt)]
        simp only [List.getElem?_toArray, List.getElem?_eq_getElem hlt, Option.getD_some]
        exact hxs.2 t v _ hc (List.getElem?_eq_getElem hlt)
  refine wpIn_mono (h w.heap.size w s _ (Nat.le_refl _) hst hs h0) fun x a' w' ⟨e', s', h1, h2, h3, hx, h4⟩ => ?_
  have hgoal : LeavesInM Fence.wide 0 P fn a'.tmps (fun e w' => ∃ v x s', e = .returned x ∧ Sim P gl w' s' ∧ Evolve w s w' s' ∧ Rep w' s' v x ∧ K v s'.st) a'.defers .returning w' := by
    refine leaves hs a'.defers w' h1 h2 h3.marks fun w2 g1 g2 g3 => ?_
    have ha2 : ActOK w2 s' 0 e' { a' with defers := [] } := ⟨h3.n, fun t => (h3.get t).ofKeeps g3, ⟨by simp, by simp⟩⟩
    obtain ⟨vs, ys, k1, k2, j, v, st'', hj, hvl, hsl, hK⟩ := resP_sound g1 ha2 fn.results.toList _ h4
    have hrun := results_run (fn := fn) k1
    refine ⟨_, hrun, v, _, (s'.trim j).wk st'', rfl, (g1.trim j).wk hsl, (g2.trim hs.len g1.len (by rw [hst]; exact hj)).wk hsl, ?_, hK⟩
    refine Rep.wk hsl (hvl w2 (s'.trim j) _ rfl (Rep.trim ?_))
    split
    · rename_i hy
      obtain ⟨y, rfl⟩ := List.length_eq_one_iff.1 (by simpa using hy)
      obtain ⟨v, rfl⟩ := List.length_eq_one_iff.1 (by rw [k2.1]; rfl : vs.length = 1)
      exact k2.2 0 v y rfl rfl
    · rename_i hy
      have : resV vs = .tuple vs := by
        unfold resV
        split
        · rename_i v
          exact absurd (by have := k2.1; simpa using this.symm) hy
        · rfl
      rw [this]
      exact .tuple _ _ k2.1 k2.2
  rcases hx with rfl | rfl
  · exact hgoal
  · exact hgoal
end
end Go.Duo

namespace Go.Duo
open Go
section
variable {P : Program} {gl : Nat → V} {K : V → Prop} {st : List O} {x y : V}
theorem loadP_det {t : TypeId} (h : loadP P t st x K) : ∃ v, (∀ K' : V → Prop, K' v → loadP P t st x K') ∧ K v := by
  unfold loadP at h ⊢
  cases hl : lay P t with
  | none => simp [hl] at h
  | some ng =>
    obtain ⟨n, g⟩ := ng
    rw [hl] at h
    cases x <;> try exact h.elim
    · rename_i id off
      simp only at h ⊢
      cases ho : st[id]? with
      | none => simp [ho] at h
      | some o =>
        rw [ho] at h
        cases o <;> try exact h.elim
        exact ⟨_, fun _ hk => ⟨h.1, hk⟩, h.2⟩
    · exact ⟨_, fun _ hk => ⟨h.1, hk⟩, h.2⟩
    · rename_i id ver off
      simp only at h ⊢
      cases ho : st[id]? with
      | none => simp [ho] at h
      | some o =>
        rw [ho] at h
        cases o <;> try exact h.elim
        exact ⟨_, fun _ hk => ⟨h.1, h.2.1, hk⟩, h.2.2⟩
theorem intP_det {op : BinOp} {k k' : IntKind} {a b : Int} (h : intP op k a k' b K) : ∃ v, (∀ K' : V → Prop, K' v → intP op k a k' b K') ∧ K v := by
  unfold intP at h ⊢
  cases op <;> first | exact h.elim | exact ⟨_, fun _ hk => ⟨h.1, hk⟩, h.2⟩ | exact ⟨_, fun _ hk => ⟨h.1, h.2.1, hk⟩, h.2.2⟩
theorem strP_det {op : BinOp} {a b : List UInt8} (h : strP op a b K) : ∃ v, (∀ K' : V → Prop, K' v → strP op a b K') ∧ K v := by
  unfold strP at h ⊢
  cases op <;> first | exact h.elim | exact ⟨_, fun _ hk => hk, h⟩ | exact ⟨_, fun _ hk => ⟨h.1, hk⟩, h.2⟩
theorem eqP_det {t : TypeId} {op : BinOp} {a b : List V} (h : eqP P t op a b K) : ∃ v, (∀ K' : V → Prop, K' v → eqP P t op a b K') ∧ K v := by
  unfold eqP at h ⊢
  cases hs : sEq P t with
  | none => simp [hs] at h
  | some ks =>
    rw [hs] at h
    simp only at h ⊢
    cases hc : cmpL ks a b with
    | none => simp [hc] at h
    | some r =>
      rw [hc] at h
      cases op <;> first | exact h.elim | exact ⟨_, fun _ hk => hk, h⟩
theorem binP_det {t : TypeId} {op : BinOp} (h : binP P t op x y K) : ∃ v, (∀ K' : V → Prop, K' v → binP P t op x y K') ∧ K v := by
  unfold binP at h ⊢
  cases x <;> cases y <;> first
    | exact h.elim
    | exact intP_det h
    | exact strP_det h
    | exact eqP_det h
    | (cases op <;> first | exact h.elim | exact ⟨_, fun _ hk => ⟨h.1, hk⟩, h.2⟩)
theorem unP_det {op : UnOp} (h : unP op x K) : ∃ v, (∀ K' : V → Prop, K' v → unP op x K') ∧ K v := by
  unfold unP at h ⊢
  cases op <;> cases x <;> first | exact h.elim | exact ⟨_, fun _ hk => hk, h⟩
theorem faP_det {t : TypeId} {f : Nat} (h : faP P t st f x K) : ∃ v, (∀ K' : V → Prop, K' v → faP P t st f x K') ∧ K v := by
  unfold faP at h ⊢
  cases hl : fld P t f with
  | none => simp [hl] at h
  | some ng =>
    obtain ⟨off, n, g⟩ := ng
    rw [hl] at h
    cases x <;> try exact h.2.elim
    · exact ⟨_, fun _ hk => ⟨h.1, hk⟩, h.2⟩
    · exact ⟨_, fun _ hk => ⟨h.1, hk⟩, h.2⟩
    · rename_i id ver o
      simp only at h ⊢
      cases ho : st[id]? with
      | none => simp [ho] at h
      | some o =>
        rw [ho] at h
        cases o <;> try exact h.2.elim
        exact ⟨_, fun _ hk => ⟨h.1, h.2.1, hk⟩, h.2.2⟩
theorem fieldP_det {t : TypeId} {f : Nat} (h : fieldP P t f x K) : ∃ v, (∀ K' : V → Prop, K' v → fieldP P t f x K') ∧ K v := by
  unfold fieldP at h ⊢
  cases hl : fld P t f with
  | none => simp [hl] at h
  | some ng =>
    obtain ⟨off, n, g⟩ := ng
    rw [hl] at h
    cases x <;> try exact h.elim
    exact ⟨_, fun _ hk => ⟨h.1, hk⟩, h.2⟩
theorem iaP_det {t : TypeId} (h : iaP P t st x y K) : ∃ v, (∀ K' : V → Prop, K' v → iaP P t st x y K') ∧ K v := by
  unfold iaP at h ⊢
  cases y <;> try exact h.elim
  simp only at h ⊢
  cases he : elt P t with
  | some z =>
    obtain ⟨e, sz, by_⟩ := z
    rw [he] at h
    cases x <;> try exact h.elim
    · exact ⟨_, fun _ hk => ⟨h.1, h.2.1, h.2.2.1, hk⟩, h.2.2.2⟩
    · rename_i id ver
      simp only at h ⊢
      cases ho : st[id]? with
      | none => simp [ho] at h
      | some o =>
        rw [ho] at h
        cases o <;> try exact h.elim
        exact ⟨_, fun _ hk => ⟨h.1, h.2.1, h.2.2.1, h.2.2.2.1, hk⟩, h.2.2.2.2⟩
  | none =>
    rw [he] at h
    simp only at h ⊢
    cases ha : arr P t with
    | none => simp [ha] at h
    | some z =>
      obtain ⟨len, sz, g⟩ := z
      rw [ha] at h
      cases x <;> try exact h.2.2.elim
      · exact ⟨_, fun _ hk => ⟨h.1, h.2.1, hk⟩, h.2.2⟩
      · exact ⟨_, fun _ hk => ⟨h.1, h.2.1, hk⟩, h.2.2⟩
theorem ixP_det {t : TypeId} (h : ixP P t x y K) : ∃ v, (∀ K' : V → Prop, K' v → ixP P t x y K') ∧ K v := by
  unfold ixP at h ⊢
  cases y <;> try exact h.elim
  cases x <;> try exact h.elim
  · exact ⟨_, fun _ hk => ⟨h.1, h.2.1, h.2.2.1, hk⟩, h.2.2.2⟩
  · simp only at h ⊢
    cases ha : arr P t with
    | none => simp [ha] at h
    | some z =>
      obtain ⟨len, sz, g⟩ := z
      rw [ha] at h
      exact ⟨_, fun _ hk => ⟨h.1, h.2.1, h.2.2.1, hk⟩, h.2.2.2⟩
theorem sliceP_det {t : TypeId} {lo hi mx : Option V} (h : sliceP P t x lo hi mx K) : ∃ v, (∀ K' : V → Prop, K' v → sliceP P t x lo hi mx K') ∧ K v := by
  unfold sliceP at h ⊢
  cases x <;> try exact h.elim
  · simp only at h ⊢
    obtain ⟨hu, h⟩ := h
    split at h
    · exact ⟨_, fun _ hk => ⟨hu, h.1, h.2.1, h.2.2.1, hk⟩, h.2.2.2⟩
    · exact h.elim
  · simp only at h ⊢
    cases he : elt P t with
    | none => simp [he] at h
    | some z =>
      obtain ⟨e, sz, by_⟩ := z
      rw [he] at h
      simp only at h ⊢
      split at h
      · exact ⟨_, fun _ hk => ⟨h.1, h.2.1, h.2.2.1, h.2.2.2.1, hk⟩, h.2.2.2.2⟩
      · exact ⟨_, fun _ hk => ⟨h.1, h.2.1, h.2.2.1, h.2.2.2.1, hk⟩, h.2.2.2.2⟩
      · exact h.elim
  · simp only at h ⊢
    cases he : elt P t with
    | none => simp [he] at h
    | some z =>
      rw [he] at h
      simp only at h ⊢
      split at h
      · exact ⟨_, fun _ hk => ⟨h.1, h.2.1, hk⟩, h.2.2⟩
      · exact ⟨_, fun _ hk => ⟨h.1, h.2.1, h.2.2.1, h.2.2.2.1, hk⟩, h.2.2.2.2⟩
      · exact h.elim
  · simp only at h ⊢
    split at h
    · exact ⟨_, fun _ hk => ⟨h.1, h.2.1, h.2.2.1, hk⟩, h.2.2.2⟩
    · exact h.elim
theorem buildP_det {t : TypeId} {ps : List (Nat × V)} (h : buildP P t ps K) : ∃ v, (∀ K' : V → Prop, K' v → buildP P t ps K') ∧ K v := by
  unfold buildP at h ⊢
  split at h
  · split at h
    · exact ⟨_, fun _ hk => hk, h⟩
    · exact h.elim
  · exact h.elim
theorem lenP_det {t : TypeId} (h : lenP st P t x K) : ∃ v, (∀ K' : V → Prop, K' v → lenP st P t x K') ∧ K v := by
  unfold lenP at h ⊢
  cases x <;> try exact h.elim
  · exact ⟨_, fun _ hk => ⟨h.1, hk⟩, h.2⟩
  · exact ⟨_, fun _ hk => ⟨h.1, hk⟩, h.2⟩
  · exact ⟨_, fun _ hk => ⟨h.1, hk⟩, h.2⟩
  · rename_i id ver
    simp only at h ⊢
    cases ho : st[id]? with
    | none => simp [ho] at h
    | some o =>
      rw [ho] at h
      cases o <;> try exact h.2.elim
      exact ⟨_, fun _ hk => ⟨h.1, h.2.1, hk⟩, h.2.2⟩
theorem lookP_det {t : TypeId} {k : V} {ok : Bool} (h : lookP P st t x k ok K) : ∃ v, (∀ K' : V → Prop, K' v → lookP P st t x k ok K') ∧ K v := by
  unfold lookP at h ⊢
  split at h
  · exact ⟨_, fun _ hk => hk, h⟩
  · exact h.elim
/-- Operations that change nothing. -/
def calm : Op → Bool
  | .move _ | .assign _ | .pick .. | .binOp .. | .unOp .. | .convert .. | .extract .. | .makeFunc .. | .nilCheck _ | .load .. | .fieldAddr .. | .field .. | .indexAddr .. | .index .. | .slice .. | .build .. | .lookup .. => true
  | .call c => match c.callee with
    | .builtin .len | .builtin .max | .builtin .min => true
    | _ => false
  | _ => false
theorem step1_det {ρ : Operand → V} {op : Op} {K : V → List O → Prop} (hc : calm op = true) (h : step1 P gl ρ st op K) : ∃ v, (∀ K' : V → List O → Prop, K' v st → step1 P gl ρ st op K') ∧ K v st := by
  cases op <;> simp only [calm, Bool.false_eq_true] at hc <;> simp only [step1] at h ⊢
  case move => exact ⟨_, fun _ hk => hk, h⟩
  case assign => exact ⟨_, fun _ hk => hk, h⟩
  case pick c a b =>
    cases hv : ρ c <;> rw [hv] at h <;> try exact h.elim
    exact ⟨_, fun _ hk => hk, h⟩
  case binOp op t x y yt =>
    by_cases hny : isNilC y = true
    · simp only [hny, if_true] at h ⊢
      unfold ifcP at h ⊢
      obtain ⟨hi, h⟩ := h
      simp only [hi, true_and]
      split at h <;> first | exact h.elim | exact ⟨_, fun _ hk => hk, h⟩
    · simp only [if_neg hny] at h ⊢
      obtain ⟨v, h1, h2⟩ := binP_det h
      exact ⟨v, fun _ hk => h1 _ hk, h2⟩
  case unOp => obtain ⟨v, h1, h2⟩ := unP_det h; exact ⟨v, fun _ hk => h1 _ hk, h2⟩
  case convert src dst x =>
    split at h
    · exact ⟨_, fun _ hk => hk, h⟩
    · exact ⟨_, fun _ hk => hk, h⟩
    · exact h.elim
  case extract x i =>
    cases hv : ρ x <;> rw [hv] at h <;> try exact h.elim
    exact ⟨_, fun _ hk => ⟨h.1, hk⟩, h.2⟩
  case makeFunc => exact ⟨_, fun _ hk => hk, h⟩
  case nilCheck => exact ⟨_, fun _ hk => ⟨h.1, hk⟩, h.2⟩
  case load => obtain ⟨v, h1, h2⟩ := loadP_det h; exact ⟨v, fun _ hk => h1 _ hk, h2⟩
  case fieldAddr => obtain ⟨v, h1, h2⟩ := faP_det h; exact ⟨v, fun _ hk => h1 _ hk, h2⟩
  case field => obtain ⟨v, h1, h2⟩ := fieldP_det h; exact ⟨v, fun _ hk => h1 _ hk, h2⟩
  case indexAddr => obtain ⟨v, h1, h2⟩ := iaP_det h; exact ⟨v, fun _ hk => h1 _ hk, h2⟩
  case index => obtain ⟨v, h1, h2⟩ := ixP_det h; exact ⟨v, fun _ hk => h1 _ hk, h2⟩
  case slice => obtain ⟨v, h1, h2⟩ := sliceP_det h; exact ⟨v, fun _ hk => h1 _ hk, h2⟩
  case build => obtain ⟨v, h1, h2⟩ := buildP_det h; exact ⟨v, fun _ hk => h1 _ hk, h2⟩
  case lookup => obtain ⟨v, h1, h2⟩ := lookP_det h; exact ⟨v, fun _ hk => h1 _ hk, h2⟩
  case call c =>
    cases hcal : c.callee <;> rw [hcal] at hc h <;> try (simp at hc; done)
    rename_i b
    cases b <;> try (simp at hc; done)
    · simp only at h ⊢
      split at h
      · obtain ⟨v, h1, h2⟩ := lenP_det h; exact ⟨v, fun _ hk => h1 _ hk, h2⟩
      · exact h.elim
    all_goals
      simp only at h ⊢
      split at h
      · split at h
        · exact ⟨_, fun _ hk => hk, h⟩
        · exact h.elim
      · exact h.elim
/-- An operation sees its operands alone. -/
theorem step1_congr {ρ ρ' : Operand → V} {op : Op} {K : V → List O → Prop} (he : ∀ x ∈ op.operands, ρ x = ρ' x) (h : step1 P gl ρ st op K) : step1 P gl ρ' st op K := by
  have hl : ∀ (l : List Operand), (∀ x ∈ l, ρ x = ρ' x) → l.map ρ = l.map ρ' := fun l hl => List.map_congr_left hl
  have ho : ∀ (o : Option Operand), (∀ x ∈ o, ρ x = ρ' x) → o.map ρ = o.map ρ' := fun o ho => by
    cases o with
    | none => rfl
    | some x => simp [ho x rfl]
  cases op <;> simp only [step1] at h ⊢ <;> simp only [Op.operands, Array.mem_append, List.mem_toArray, List.mem_map, List.mem_cons, List.not_mem_nil, or_false, forall_eq_or_imp, forall_eq, Option.mem_toArray] at he
  case move => rw [← he]; exact h
  case assign => rw [← he]; exact h
  case pick => rw [← he.1, ← he.2.1, ← he.2.2]; exact h
  case binOp => rw [← he.1, ← he.2]; exact h
  case unOp => rw [← he]; exact h
  case convert => rw [← he]; exact h
  case extract => rw [← he]; exact h
  case makeFunc fn first captured =>
    rw [← hl first.toList (fun x hx => he x (.inl (by simpa using hx))), ← hl captured.toList (fun x hx => he x (.inr (by simpa using hx)))]
    exact h
  case nilCheck => rw [← he]; exact h
  case load => rw [← he]; exact h
  case store => rw [← he.1, ← he.2]; exact h
  case makeSlice => rw [← he.1, ← he.2]; exact h
  case makeMap t r => cases r <;> exact h
  case lookup => rw [← he.1, ← he.2]; exact h
  case mapUpdate => rw [← he.1, ← he.2.1, ← he.2.2]; exact h
  case insert => rw [← he.1, ← he.2.1, ← he.2.2]; exact h
  case fieldAddr => rw [← he]; exact h
  case field => rw [← he]; exact h
  case indexAddr => rw [← he.1, ← he.2]; exact h
  case index => rw [← he.1, ← he.2]; exact h
  case slice t x lo hi mx =>
    rw [← he x (.inl (.inl (.inl rfl))), ← ho lo (fun y hy => he y (.inl (.inl (.inr hy)))), ← ho hi (fun y hy => he y (.inl (.inr hy))), ← ho mx (fun y hy => he y (.inr hy))]
    exact h
  case box => rw [← he]; exact h
  case alloc => exact h
  case build t parts =>
    have : (parts.toList.map fun p => (p.1, ρ p.2)) = parts.toList.map fun p => (p.1, ρ' p.2) := List.map_congr_left fun p hp => by rw [he p.2 ⟨p, hp, rfl⟩]
    rw [← this]; exact h
  case buildSlice t len parts =>
    have : (parts.toList.map fun p => (p.1, ρ p.2)) = parts.toList.map fun p => (p.1, ρ' p.2) := List.map_congr_left fun p hp => by rw [he p.2 ⟨p, hp, rfl⟩]
    rw [← this]; exact h
  case call c =>
    have hargs : ∀ x ∈ c.args.toList, ρ x = ρ' x := fun x hx => he x (by simp only [Call.operands, Array.mem_append]; exact .inr (by simpa using hx))
    cases hcal : c.callee with
    | value f =>
      rw [hcal] at h
      simp only at h ⊢
      rw [← he f (by simp [Call.operands, hcal]), ← hl _ hargs]
      exact h
    | invoke r m => rw [hcal] at h; exact h.elim
    | builtin b =>
      rw [hcal] at h
      cases b <;> simp only at h ⊢ <;> try exact h.elim
      all_goals
        split at h
        · rename_i heq
          simp_all
          try (obtain ⟨rfl, h⟩ := h; exact h)
        · exact h.elim
end
end Go.Duo
