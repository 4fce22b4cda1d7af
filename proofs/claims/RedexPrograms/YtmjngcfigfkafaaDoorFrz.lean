/-
  A part of the proof.
-/
import Derived.Test.YtmjngcfigfkafaaDoorDReal
set_option linter.all false
namespace Go.Duo
open Go
section
variable {P : Program} {gl : Nat → V} {r : Option Nat} {e : Env} {st : List O} {w : World} {s : S} {Q : Exit → Env → List O → Prop}
/-- The object i frozen. -/
def S.frz (s : S) (i b : Nat) : S := { s with K := fun b' o => s.K b' o ∨ b' = b, st := s.st.set i .dead }
theorem Sim.frzE {i b : Nat} {t : TypeId} {cs : List V} (hs : Sim P gl w s) (ho : s.st[i]? = some (.box t cs)) (hg : s.g[i]? = some (.blk b)) : Evolve w s w (s.frz i b) := by
  have hR := Evolve.refl (w := w) hs.wf
  refine ⟨rfl, rfl, rfl, Nat.le_refl _, ⟨fun _ _ h => .inl h, fun _ _ _ _ h => h, fun _ _ _ _ h => h, fun _ _ _ _ h => h⟩, fun b' o h => ?_, fun _ _ _ _ => rfl, Nat.le_refl _, fun j o g hj hgj => ?_, fun j o g b' hj _ _ hgj _ => ?_, fun j xs k go hj hoj => ?_⟩
  · rcases h with h | rfl
    · exact .inl h
    · exact .inr (.inr (.inl ⟨i, _, _, ho, rfl, hg, rfl⟩))
  · by_cases hij : i = j
    · subst hij
      rw [ho] at hj
      rw [hg] at hgj
      simp only [Option.some.injEq] at hj hgj
      subst hj hgj
      exact ⟨.dead, _, by simp [S.frz, (List.getElem?_eq_some_iff.1 ho).1], hg, rfl, .inl rfl⟩
    · obtain ⟨o', g', h1, h2, h3⟩ := hR.objs j o g hj hgj
      exact ⟨o', g', by simp only [S.frz]; rw [List.getElem?_set_ne hij]; exact h1, h2, h3⟩
  · have := (List.getElem?_eq_some_iff.1 hgj).1
    simp [S.frz] at this
    omega
  · have := (List.getElem?_eq_some_iff.1 hoj).1
    simp [S.frz] at this
    have := hs.len
    omega
theorem own_frz {i b j b' : Nat} (h : (s.frz i b).own j b') : j ≠ i ∧ s.own j b' := by
  obtain ⟨o, g, ho, hl, hg, hat⟩ := h
  simp only [S.frz] at ho hg
  rcases getElem?_set_cases ho with ⟨rfl, rfl, _⟩ | ⟨hne, ho⟩
  · cases hl
  · exact ⟨hne, o, g, ho, hl, hg, hat⟩
theorem Sim.frz {i b : Nat} {t : TypeId} {cs : List V} (hs : Sim P gl w s) (ho : s.st[i]? = some (.box t cs)) (hg : s.g[i]? = some (.blk b)) : Sim P gl w (s.frz i b) where
  len := by simp [S.frz, hs.len]
  obj := fun j o g hj hgj => by
    have hj' : (s.st.set i .dead)[j]? = some o := hj
    rcases getElem?_set_cases hj' with ⟨rfl, rfl, _⟩ | ⟨hne, hj'⟩
    · trivial
    · refine (hs.obj j o g hj' hgj).keep (hs.frzE ho hg) hs.wf (fun _ _ _ => rfl) (fun l F J Jx xs k go hg' ho' => ⟨fun _ _ => rfl, fun b' o' hk => ?_, fun _ _ => rfl, fun b' o' hk => ?_⟩)
      · rcases hk with hk | rfl
        · exact .inl hk
        · refine .inr ⟨?_, fun hF => (hs.fgn b' ⟨j, xs, k, l, go, F, J, Jx, by rw [hj', ho'], by rw [← hg']; exact hgj, hF⟩).2 ⟨i, _, _, ho, rfl, hg, rfl⟩⟩
          have := hs.obj j _ _ hj' hgj
          rw [ho', hg'] at this
          simp only [ObjOK] at this
          exact this.2.2.2 b' ⟨i, _, _, ho, rfl, hg, rfl⟩
      · rcases hk with hk | rfl
        · exact hs.kin b' o' hk
        · exact hs.mine_lt ⟨i, _, _, ho, rfl, hg, rfl⟩
  inj := fun j k b' hj hk => hs.inj j k b' (own_frz hj).2 (own_frz hk).2
  kout := fun j b' o ob hj hob hwr hk => by
    obtain ⟨hne, hj'⟩ := own_frz hj
    have hob' : (s.st.set i .dead)[j]? = some ob := hob
    rcases getElem?_set_cases hob' with ⟨rfl, _⟩ | ⟨_, hob'⟩
    · exact hne rfl
    · rcases hk with hk | rfl
      · exact hs.kout j b' o ob hj' hob' hwr hk
      · exact hne (hs.inj j i b' hj' ⟨_, _, ho, rfl, hg, rfl⟩)
  kin := fun b' o hk => by
    rcases hk with hk | rfl
    · exact hs.kin b' o hk
    · exact hs.mine_lt ⟨i, _, _, ho, rfl, hg, rfl⟩
  fgn := fun b' hb => by
    obtain ⟨j, xs, k, l, go, F, J, Jx, hj, hgj, hF⟩ := hb
    have hj' : (s.st.set i .dead)[j]? = some _ := hj
    rcases getElem?_set_cases hj' with ⟨_, h, _⟩ | ⟨_, hj'⟩
    · cases h
    · obtain ⟨h1, h2⟩ := hs.fgn b' ⟨j, xs, k, l, go, F, J, Jx, hj', hgj, hF⟩
      exact ⟨h1, fun ⟨m, hm⟩ => h2 ⟨m, (own_frz hm).2⟩⟩
  glob := fun g => (hs.glob g).imp id fun k => globKeeps (K' := (s.frz i b).K) ⟨fun _ _ h => .inl h, fun _ _ _ _ h => h, fun _ _ _ _ h => h, fun _ _ _ _ h => h⟩ k
/-- What a pointer into it is from then on. -/
theorem frz_ptr {i b : Nat} {t : TypeId} {cs : List V} (hs : Sim P gl w s) (ho : s.st[i]? = some (.box t cs)) (hg : s.g[i]? = some (.blk b)) (hp : ∀ c ∈ cs, PureV c ∧ c.bare = c) {off : Nat} {x : Value} (hx : Rep w s (.ptr i off) x) : PR w (s.frz i b).K (.dptr (cs.drop off)) x := by
  obtain ⟨b', rfl, hg'⟩ := hx.ptr_inv
  rw [hg] at hg'
  simp only [Option.some.injEq, Gh.blk.injEq] at hg'
  subst hg'
  obtain ⟨arr, ha, hl, hr⟩ := hs.obj i _ _ ho hg
  refine .dptr _ b off (fun j => arr.getD (off + j) undef) (fun j c hj => ?_) (fun j c hj => ?_)
  · rw [List.getElem?_drop] at hj
    have hlt := (List.getElem?_eq_some_iff.1 hj).1
    refine ⟨?_, .inr rfl⟩
    simp only [World.cell?, ha]
    simp [Array.getD_eq_getD_getElem?, show off + j < arr.size by omega]
  · rw [List.getElem?_drop] at hj
    have hlt := (List.getElem?_eq_some_iff.1 hj).1
    obtain ⟨h1, h2⟩ := hp c (List.mem_of_getElem? hj)
    have h3 := h1 w s (arr[off + j]'(by omega)) (hr (off + j) c _ hj (Array.getElem?_eq_getElem _))
    rw [h2] at h3
    have : arr.getD (off + j) undef = arr[off + j]'(by omega) := by simp [Array.getD_eq_getD_getElem?, show off + j < arr.size by omega]
    rw [this]
    exact h3.keeps ⟨fun _ _ h => .inl h, fun _ _ _ _ h => h, fun _ _ _ _ h => h, fun _ _ _ _ h => h⟩
/-- Values, the object i frozen. -/
def V.fz (i : Nat) (cs : List V) : V → V
  | .agg xs => .agg (fzL i cs xs)
  | .tuple xs => .tuple (fzL i cs xs)
  | .func fn a b => .func fn (fzL i cs a) (fzL i cs b)
  | .iface t v => .iface t (v.fz i cs)
  | .ptr j off => if j = i then .dptr (cs.drop off) else .ptr j off
  | v => v
where fzL (i : Nat) (cs : List V) : List V → List V
  | [] => []
  | x :: xs => x.fz i cs :: fzL i cs xs
theorem fzL_eq (i : Nat) (cs xs : List V) : V.fz.fzL i cs xs = xs.map (V.fz i cs) := by
  induction xs with
  | nil => rfl
  | cons x xs ih => simp [V.fz.fzL, ih]
def O.fz (i : Nat) (cs : List V) : O → O
  | .box t xs => .box t (xs.map (V.fz i cs))
  | o => o
theorem fz_map {i : Nat} {cs ds : List V} {xs : List Value} {R : V → Value → Prop} (ih : ∀ (j : Nat) (c : V) (x : Value), ds[j]? = some c → xs[j]? = some x → R (c.fz i cs) x) : ∀ (j : Nat) (c : V) (x : Value), (ds.map (V.fz i cs))[j]? = some c → xs[j]? = some x → R c x := fun j c x hc hx => by
  rw [List.getElem?_map] at hc
  cases hj : ds[j]? with
  | none => simp [hj] at hc
  | some c0 => simp only [hj, Option.map_some, Option.some.injEq] at hc; subst hc; exact ih j c0 x hj hx
theorem PR.fz {K : Nat → Nat → Prop} {i : Nat} {cs : List V} {v : V} {x : Value} (h : PR w K v x) : v.fz i cs = v := by
  have mapid : ∀ {ds : List V} {xs : List Value}, ds.length = xs.length → (∀ (j : Nat) (c : V) (x : Value), ds[j]? = some c → xs[j]? = some x → c.fz i cs = c) → ds.map (V.fz i cs) = ds := fun {ds xs} hl ih => by
    apply List.ext_getElem (by simp)
    intro j h1 h2
    rw [List.getElem_map]
    exact ih j _ (xs[j]'(by omega)) (List.getElem?_eq_getElem h2) (List.getElem?_eq_getElem _)
  induction h with
  | agg ds xs hl _ ih => simp only [V.fz, fzL_eq, mapid hl ih]
  | tuple ds xs hl _ ih => simp only [V.fz, fzL_eq, mapid hl ih]
  | func fn fs ds xs ys hl hl' _ _ ih ih' => simp only [V.fz, fzL_eq, mapid hl ih, mapid hl' ih']
  | iface t v x _ ih => simp only [V.fz, ih]
  | _ => rfl
/-- The object i frozen, and what leads to it told so. -/
def S.fz (s : S) (i b : Nat) (cs : List V) : S := { s.frz i b with st := (s.st.set i .dead).map (O.fz i cs) }
theorem fz_st {i b j : Nat} {cs : List V} {o : O} (h : s.st[j]? = some o) (hj : j ≠ i) : (s.fz i b cs).st[j]? = some (o.fz i cs) := by
  simp only [S.fz, List.getElem?_map]
  rw [List.getElem?_set_ne (fun e => hj e.symm), h]
  rfl
theorem fz_back {i b j : Nat} {cs : List V} {o : O} (h : (s.fz i b cs).st[j]? = some o) : (j = i ∧ o = .dead) ∨ (j ≠ i ∧ ∃ o', s.st[j]? = some o' ∧ o = o'.fz i cs) := by
  simp only [S.fz, List.getElem?_map, Option.map_eq_some_iff] at h
  obtain ⟨o', h1, rfl⟩ := h
  rcases getElem?_set_cases h1 with ⟨rfl, rfl, _⟩ | ⟨hne, h1⟩
  · exact .inl ⟨rfl, rfl⟩
  · exact .inr ⟨hne, o', h1, rfl⟩
theorem Rep.fz {i b : Nat} {t : TypeId} {cs : List V} (hs : Sim P gl w s) (ho : s.st[i]? = some (.box t cs)) (hg : s.g[i]? = some (.blk b)) (hp : ∀ c ∈ cs, PureV c ∧ c.bare = c) {v : V} {x : Value} (hx : Rep w s v x) : Rep w (s.fz i b cs) (v.fz i cs) x := by
  have hk : Keeps w s.K w (s.fz i b cs).K := ⟨fun _ _ h => .inl h, fun _ _ _ _ h => h, fun _ _ _ _ h => h, fun _ _ _ _ h => h⟩
  induction hx with
  | pure v x h => rw [h.fz]; exact .pure _ _ (h.keeps hk)
  | undef x => exact .undef x
  | agg ds xs hl _ ih => simp only [V.fz, fzL_eq]; exact .agg _ xs (by simpa using hl) (fz_map (R := Rep w (s.fz i b cs)) ih)
  | tuple ds xs hl _ ih => simp only [V.fz, fzL_eq]; exact .tuple _ xs (by simpa using hl) (fz_map (R := Rep w (s.fz i b cs)) ih)
  | func fn fs ds xs ys hl hl' _ _ ih ih' => simp only [V.fz, fzL_eq]; exact .func fn _ _ xs ys (by simpa using hl) (by simpa using hl') (fz_map (R := Rep w (s.fz i b cs)) ih) (fz_map (R := Rep w (s.fz i b cs)) ih')
  | iface t v x _ ih => exact .iface t _ x ih
  | tok es id x hpr ht =>
    refine .tok es id x (hpr.keeps hk) ?_
    obtain ⟨o, ho', hm⟩ := ht
    by_cases hid : id = i
    · subst hid
      rw [ho] at ho'
      simp only [Option.some.injEq] at ho'
      subst ho'
      exact hm.elim
    · refine ⟨o.fz i cs, fz_st ho' hid, ?_⟩
      cases o <;> exact hm
  | ref id ver x h1 ht =>
    refine .ref id ver x h1 ?_
    obtain ⟨o, ho', hm⟩ := ht
    by_cases hid : id = i
    · subst hid
      rw [ho] at ho'
      simp only [Option.some.injEq] at ho'
      subst ho'
      exact hm.elim
    · refine ⟨o.fz i cs, fz_st ho' hid, ?_⟩
      cases o <;> exact hm
  | rptr id ver off x h1 ht =>
    refine .rptr id ver off x h1 ?_
    obtain ⟨o, ho', hm⟩ := ht
    by_cases hid : id = i
    · subst hid
      rw [ho] at ho'
      simp only [Option.some.injEq] at ho'
      subst ho'
      exact hm.elim
    · refine ⟨o.fz i cs, fz_st ho' hid, ?_⟩
      cases o <;> exact hm
  | ptr id off b' hb =>
    simp only [V.fz]
    split
    · rename_i hid
      subst hid
      exact .pure _ _ (frz_ptr hs ho hg hp (.ptr id off b' hb))
    · exact .ptr id off b' hb
  | map id b' hb => exact .map id b' hb
  | yld id l F J Jx hb => exact .yld id l F J Jx hb
theorem O.fz_lives (i : Nat) (cs : List V) (o : O) : (o.fz i cs).lives = o.lives ∧ ∀ y, (o.fz i cs).writes y ↔ o.writes y := by cases o <;> exact ⟨rfl, fun _ => Iff.rfl⟩
theorem own_fz {i b j b' : Nat} {cs : List V} (h : (s.fz i b cs).own j b') : j ≠ i ∧ s.own j b' := by
  obtain ⟨o, g, ho, hl, hg, hat⟩ := h
  rcases fz_back ho with ⟨rfl, rfl⟩ | ⟨hne, o', ho', rfl⟩
  · cases hl
  · exact ⟨hne, o', g, ho', by rw [← (O.fz_lives i cs o').1]; exact hl, hg, hat⟩
theorem foreign_fz {i b b' : Nat} {cs : List V} (h : (s.fz i b cs).foreign b') : s.foreign b' := by
  obtain ⟨j, xs, k, l, go, F, J, Jx, ho, hg, hF⟩ := h
  rcases fz_back ho with ⟨_, h⟩ | ⟨_, o', ho', he⟩
  · cases h
  · cases o' <;> simp only [O.fz] at he <;> cases he
    exact ⟨j, xs, k, l, go, F, J, Jx, ho', hg, hF⟩
theorem Evolve.fz {w0 : World} {s0 : S} {i b : Nat} {t : TypeId} {cs : List V} (hl0 : s0.g.length = s0.st.length) (hE : Evolve w0 s0 w s) (hs : Sim P gl w s) (ho : s.st[i]? = some (.box t cs)) (hg : s.g[i]? = some (.blk b)) : Evolve w0 s0 w (s.fz i b cs) := by
  have hE' := hE.trans hl0 hs.len (hs.frzE ho hg)
  refine ⟨hE'.os, hE'.tape, hE'.output, hE'.size, hE'.keeps, hE'.knew, hE'.block, hE'.len, fun j o g hj hgj => ?_, fun j o g b' hj hoj hlv hgj hat => ?_, fun j xs k go hj hoj => ?_⟩
  · obtain ⟨o1, g1, h1, h2, tr⟩ := hE'.objs j o g hj hgj
    refine ⟨o1.fz i cs, g1, ?_, h2, ?_⟩
    · simp only [S.fz, List.getElem?_map]
      have : (s.st.set i .dead)[j]? = some o1 := h1
      rw [this]
      rfl
    · cases o with
      | box t' ds =>
        obtain ⟨rfl, rfl | ⟨ds', rfl, hc⟩⟩ := tr
        · exact ⟨rfl, .inl rfl⟩
        · exact ⟨rfl, .inr ⟨_, rfl, by simpa using hc⟩⟩
      | map ks vs =>
        obtain ⟨rfl, rfl | ⟨ks', vs', rfl⟩⟩ := tr
        · exact ⟨rfl, .inl rfl⟩
        · exact ⟨rfl, .inr ⟨_, _, rfl⟩⟩
      | tok e sz m =>
        rcases tr with rfl | ⟨m', rfl, tr⟩
        · exact .inl rfl
        · exact .inr ⟨m', rfl, tr⟩
      | arr e sz v es =>
        rcases tr with rfl | ⟨m', es', rfl, tr⟩
        · exact .inl rfl
        · exact .inr ⟨m', es', rfl, tr⟩
      | yld xs n go =>
        obtain ⟨t1, rfl | ⟨j', go', rfl, t2⟩⟩ := tr
        · exact ⟨t1, .inl rfl⟩
        · exact ⟨t1, .inr ⟨j', go', rfl, t2⟩⟩
      | dead => obtain ⟨rfl, rfl⟩ := tr; exact ⟨rfl, rfl⟩
  · rcases fz_back hoj with ⟨_, rfl⟩ | ⟨_, o', ho', rfl⟩
    · cases hlv
    · exact hE.fresh j o' g b' hj ho' (by rw [← (O.fz_lives i cs o').1]; exact hlv) hgj hat
  · rcases fz_back hoj with ⟨_, h⟩ | ⟨_, o', ho', he⟩
    · cases h
    · cases o' <;> simp only [O.fz] at he <;> cases he
      exact hE.noyld j _ _ _ hj ho'
theorem Sim.fz {i b : Nat} {t : TypeId} {cs : List V} (hs : Sim P gl w s) (ho : s.st[i]? = some (.box t cs)) (hg : s.g[i]? = some (.blk b)) (hp : ∀ c ∈ cs, PureV c ∧ c.bare = c) : Sim P gl w (s.fz i b cs) := by
  have h1 := hs.frz ho hg
  refine ⟨by simp [S.fz, S.frz, hs.len], fun j o g hj hgj => ?_, fun j k b' hj hk => hs.inj j k b' (own_fz hj).2 (own_fz hk).2, fun j b' o ob hj hob hwr hk => ?_, h1.kin, fun b' hb => ?_, h1.glob⟩
  · rcases fz_back hj with ⟨_, rfl⟩ | ⟨hne, o', ho', rfl⟩
    · trivial
    · cases o' with
      | box t' ds =>
        have hb := hs.obj j _ g ho' hgj
        cases g <;> simp only [ObjOK, O.fz] at hb ⊢
        obtain ⟨arr, ha, hl, hr⟩ := hb
        exact ⟨arr, ha, by simpa using hl, fz_map (xs := arr.toList) (R := Rep w (s.fz i b cs)) (fun n c x hc hx => (hr n c x hc (by simpa using hx)).fz hs ho hg hp) |> fun h n c x hc hx => h n c x hc (by simpa using hx)⟩
      | _ =>
        have hb0 := hs.obj j _ g ho' hgj
        have hb := h1.obj j _ g (by simp only [S.frz]; rw [List.getElem?_set_ne (fun e => hne e.symm)]; exact ho') hgj
        cases g <;> simp only [ObjOK] at hb0 <;> first | exact hb.elim | exact hb | (simp only [ObjOK, O.fz] at hb ⊢; exact ⟨hb.1, hb.2.1, hb.2.2.1, fun b' ⟨m, hm⟩ => hb0.2.2.2 b' ⟨m, (own_fz hm).2⟩⟩)
  · obtain ⟨hne, hj'⟩ := own_fz hj
    rcases fz_back hob with ⟨rfl, _⟩ | ⟨_, o', ho', rfl⟩
    · exact hne rfl
    · rcases hk with hk | rfl
      · exact hs.kout j b' o o' hj' ho' (((O.fz_lives i cs o').2 o).1 hwr) hk
      · exact hne (hs.inj j i b' hj' ⟨_, _, ho, rfl, hg, rfl⟩)
  · obtain ⟨h2, h3⟩ := hs.fgn b' (foreign_fz hb)
    exact ⟨h2, fun ⟨m, hm⟩ => h3 ⟨m, (own_fz hm).2⟩⟩
def Env.fz (i : Nat) (cs : List V) (e : Env) : Env := ⟨e.n, e.m.map fun p => (p.1, p.2.fz i cs)⟩
theorem Env.fz_get (i : Nat) (cs : List V) (e : Env) (t : Nat) : (e.fz i cs).get t = (e.get t).fz i cs := by
  obtain ⟨n, m⟩ := e
  simp only [Env.fz, Env.get]
  induction m with
  | nil => rfl
  | cons p m ih =>
    obtain ⟨a, v⟩ := p
    simp only [List.map_cons, getM]
    split
    · rfl
    · exact ih
/-- **A box is frozen.** -/
theorem AW.frz {c : Code} (i : Nat) (t : TypeId) (cs : List V) (ho : st[i]? = some (.box t cs)) (hp : ∀ c ∈ cs, PureV c ∧ c.bare = c) (h : AW P gl r c Q (e.fz i cs) ((st.set i .dead).map (O.fz i cs))) : AW P gl r c Q e st := fun n0 w s a hn hst hs ha => by
  subst hst
  have hgi : i < s.g.length := by rw [hs.len]; exact (List.getElem?_eq_some_iff.1 ho).1
  obtain ⟨b, hg⟩ : ∃ b, s.g[i]? = some (.blk b) := by
    have := hs.obj i _ (s.g[i]) ho (List.getElem?_eq_getElem hgi)
    rw [List.getElem?_eq_getElem hgi]
    cases hh : s.g[i] <;> rw [hh] at this <;> simp only [ObjOK] at this
    exact ⟨_, rfl⟩
  have hS := hs.fz ho hg hp
  have hE := (Evolve.refl (w := w) hs.wf).fz hs.len hs ho hg
  have hA : ActOK w (s.fz i b cs) n0 (e.fz i cs) a := by
    refine ⟨ha.n, fun t => by rw [Env.fz_get]; exact (ha.get t).fz hs ho hg hp, ⟨fun d hd => ?_, ha.marks.2⟩⟩
    obtain ⟨r, h1, h2, h3, h4, h5⟩ := ha.marks.1 d hd
    exact ⟨r, h1, h2, h3, fun ⟨m, hm⟩ => h4 ⟨m, (own_fz hm).2⟩, fun hf => h5 (foreign_fz hf)⟩
  refine wpIn_mono (h n0 w (s.fz i b cs) a hn rfl hS hA) fun x a' w' ⟨e'', s', h1, h2, h3, hq⟩ => ?_
  exact ⟨e'', s', h1, hE.trans hs.len hS.len h2, h3, hq⟩
end
end Go.Duo

namespace Go.Duo
open Go
section
variable {P : Program} {gl : Nat → V} {r : Option Nat} {e : Env} {st : List O} {w : World} {s : S} {Q : Exit → Env → List O → Prop}
/-- Values, the row i (in its last version) frozen. -/
def V.fa (i ver : Nat) (es : List V) : V → V
  | .agg xs => .agg (faL i ver es xs)
  | .tuple xs => .tuple (faL i ver es xs)
  | .func fn a b => .func fn (faL i ver es a) (faL i ver es b)
  | .iface t v => .iface t (v.fa i ver es)
  | .ref j v => if j = i then (if v = ver then .sl es none else .undef) else .ref j v
  | .rptr j v o => if j = i then .undef else .rptr j v o
  | v => v
where faL (i ver : Nat) (es : List V) : List V → List V
  | [] => []
  | x :: xs => x.fa i ver es :: faL i ver es xs
theorem faL_eq (i ver : Nat) (es xs : List V) : V.fa.faL i ver es xs = xs.map (V.fa i ver es) := by
  induction xs with
  | nil => rfl
  | cons x xs ih => simp [V.fa.faL, ih]
def O.fa (i ver : Nat) (es : List V) : O → O
  | .box t xs => .box t (xs.map (V.fa i ver es))
  | o => o
theorem fa_map {i ver : Nat} {es ds : List V} {xs : List Value} {R : V → Value → Prop} (ih : ∀ (j : Nat) (c : V) (x : Value), ds[j]? = some c → xs[j]? = some x → R (c.fa i ver es) x) : ∀ (j : Nat) (c : V) (x : Value), (ds.map (V.fa i ver es))[j]? = some c → xs[j]? = some x → R c x := fun j c x hc hx => by
  rw [List.getElem?_map] at hc
  cases hj : ds[j]? with
  | none => simp [hj] at hc
  | some c0 => simp only [hj, Option.map_some, Option.some.injEq] at hc; subst hc; exact ih j c0 x hj hx
theorem PR.fa {K : Nat → Nat → Prop} {i ver : Nat} {es : List V} {v : V} {x : Value} (h : PR w K v x) : v.fa i ver es = v := by
  have mapid : ∀ {ds : List V} {xs : List Value}, ds.length = xs.length → (∀ (j : Nat) (c : V) (x : Value), ds[j]? = some c → xs[j]? = some x → c.fa i ver es = c) → ds.map (V.fa i ver es) = ds := fun {ds xs} hl ih => by
    apply List.ext_getElem (by simp)
    intro j h1 h2
    rw [List.getElem_map]
    exact ih j _ (xs[j]'(by omega)) (List.getElem?_eq_getElem h2) (List.getElem?_eq_getElem _)
  induction h with
  | agg ds xs hl _ ih => simp only [V.fa, faL_eq, mapid hl ih]
  | tuple ds xs hl _ ih => simp only [V.fa, faL_eq, mapid hl ih]
  | func fn fs ds xs ys hl hl' _ _ ih ih' => simp only [V.fa, faL_eq, mapid hl ih, mapid hl' ih']
  | iface t v x _ ih => simp only [V.fa, ih]
  | _ => rfl
/-- The row i frozen; x: where it lies. -/
def S.fa0 (s : S) (i : Nat) (x : Value) : S := { s with K := fun b' o => s.K b' o ∨ x.ownBlock = some b', st := s.st.set i .dead }
def S.fa (s : S) (i ver : Nat) (es : List V) (x : Value) : S := { s.fa0 i x with st := (s.st.set i .dead).map (O.fa i ver es) }
variable {i ver : Nat} {el : TypeId} {sz : Nat} {es : List V} {x : Value}
theorem keeps_fa0 : Keeps w s.K w (s.fa0 i x).K := ⟨fun _ _ h => .inl h, fun _ _ _ _ h => h, fun _ _ _ _ h => h, fun _ _ _ _ h => h⟩
theorem Sim.fa0E (hs : Sim P gl w s) (ho : s.st[i]? = some (.arr el sz ver es)) (hg : s.g[i]? = some (.row x)) : Evolve w s w (s.fa0 i x) := by
  have hR := Evolve.refl (w := w) hs.wf
  refine ⟨rfl, rfl, rfl, Nat.le_refl _, keeps_fa0, fun b' o h => ?_, fun _ _ _ _ => rfl, Nat.le_refl _, fun j o g hj hgj => ?_, fun j o g b' hj _ _ hgj _ => ?_, fun j xs k go hj hoj => ?_⟩
  · rcases h with h | h
    · exact .inl h
    · exact .inr (.inr (.inl ⟨i, _, _, ho, rfl, hg, h⟩))
  · by_cases hij : i = j
    · subst hij
      rw [ho] at hj
      rw [hg] at hgj
      simp only [Option.some.injEq] at hj hgj
      subst hj hgj
      exact ⟨.dead, _, by simp [S.fa0, (List.getElem?_eq_some_iff.1 ho).1], hg, .inl rfl⟩
    · obtain ⟨o', g', h1, h2, h3⟩ := hR.objs j o g hj hgj
      exact ⟨o', g', by simp only [S.fa0]; rw [List.getElem?_set_ne hij]; exact h1, h2, h3⟩
  · have := (List.getElem?_eq_some_iff.1 hgj).1
    simp [S.fa0] at this
    omega
  · have := (List.getElem?_eq_some_iff.1 hoj).1
    simp [S.fa0] at this
    have := hs.len
    omega
theorem own_fa0 {j b' : Nat} (h : (s.fa0 i x).own j b') : j ≠ i ∧ s.own j b' := by
  obtain ⟨o, g, ho, hl, hg, hat⟩ := h
  simp only [S.fa0] at ho hg
  rcases getElem?_set_cases ho with ⟨rfl, rfl, _⟩ | ⟨hne, ho⟩
  · cases hl
  · exact ⟨hne, o, g, ho, hl, hg, hat⟩
theorem Sim.fa0 (hs : Sim P gl w s) (ho : s.st[i]? = some (.arr el sz ver es)) (hg : s.g[i]? = some (.row x)) : Sim P gl w (s.fa0 i x) where
  len := by simp [S.fa0, hs.len]
  obj := fun j o g hj hgj => by
    have hj' : (s.st.set i .dead)[j]? = some o := hj
    rcases getElem?_set_cases hj' with ⟨rfl, rfl, _⟩ | ⟨hne, hj'⟩
    · trivial
    · refine (hs.obj j o g hj' hgj).keep (hs.fa0E ho hg) hs.wf (fun _ _ _ => rfl) (fun l F J Jx xs k go hg' ho' => ⟨fun _ _ => rfl, fun b' o' hk => ?_, fun _ _ => rfl, fun b' o' hk => ?_⟩)
      · rcases hk with hk | hk
        · exact .inl hk
        · refine .inr ⟨?_, fun hF => (hs.fgn b' ⟨j, xs, k, l, go, F, J, Jx, by rw [hj', ho'], by rw [← hg']; exact hgj, hF⟩).2 ⟨i, _, _, ho, rfl, hg, hk⟩⟩
          have := hs.obj j _ _ hj' hgj
          rw [ho', hg'] at this
          simp only [ObjOK] at this
          exact this.2.2.2 b' ⟨i, _, _, ho, rfl, hg, hk⟩
      · rcases hk with hk | hk
        · exact hs.kin b' o' hk
        · exact hs.mine_lt ⟨i, _, _, ho, rfl, hg, hk⟩
  inj := fun j k b' hj hk => hs.inj j k b' (own_fa0 hj).2 (own_fa0 hk).2
  kout := fun j b' o ob hj hob hwr hk => by
    obtain ⟨hne, hj'⟩ := own_fa0 hj
    have hob' : (s.st.set i .dead)[j]? = some ob := hob
    rcases getElem?_set_cases hob' with ⟨rfl, _⟩ | ⟨_, hob'⟩
    · exact hne rfl
    · rcases hk with hk | hk
      · exact hs.kout j b' o ob hj' hob' hwr hk
      · exact hne (hs.inj j i b' hj' ⟨_, _, ho, rfl, hg, hk⟩)
  kin := fun b' o hk => by
    rcases hk with hk | hk
    · exact hs.kin b' o hk
    · exact hs.mine_lt ⟨i, _, _, ho, rfl, hg, hk⟩
  fgn := fun b' hb => by
    obtain ⟨j, xs, k, l, go, F, J, Jx, hj, hgj, hF⟩ := hb
    have hj' : (s.st.set i .dead)[j]? = some _ := hj
    rcases getElem?_set_cases hj' with ⟨_, h, _⟩ | ⟨_, hj'⟩
    · cases h
    · obtain ⟨h1, h2⟩ := hs.fgn b' ⟨j, xs, k, l, go, F, J, Jx, hj', hgj, hF⟩
      exact ⟨h1, fun ⟨m, hm⟩ => h2 ⟨m, (own_fa0 hm).2⟩⟩
  glob := fun g => (hs.glob g).imp id fun k => globKeeps (K' := (s.fa0 i x).K) keeps_fa0 k
/-- What the row is from then on. -/
theorem fa_ref (hs : Sim P gl w s) (ho : s.st[i]? = some (.arr el sz ver es)) (hg : s.g[i]? = some (.row x)) {y : Value} (hx : Rep w s (.ref i ver) y) : PR w (s.fa0 i x).K (.sl es none) y := by
  obtain ⟨xs, hown, hsz, hone, hxl, hpr⟩ := hs.obj i _ _ ho hg
  have hx1 : RefOK s i ver y := by
    cases hx with
    | pure _ _ h => cases h
    | ref _ _ _ _ h => exact h
  obtain ⟨o', ho', hm⟩ := hx1
  rw [ho] at ho'
  simp only [Option.some.injEq] at ho'
  subst ho'
  rcases hm.2 rfl with h | ⟨rfl, a, rfl⟩
  · rw [hg] at h
    simp only [Option.some.injEq, Gh.row.injEq] at h
    subst h
    rcases Nat.eq_zero_or_pos es.length with h0 | h0
    · obtain rfl := List.eq_nil_of_length_eq_zero h0
      rcases hown.2 with ⟨rfl, _⟩ | ⟨g, cap, cur, rfl, _, _, _, hcm, _⟩
      · exact PR.nil_sl none
      · exact .sl [] _ cap sz (fun _ => undef) (Nat.zero_le _) hcm (by simp) (by simp) (by simp) (by simp)
    · exact pr_of_own hown rfl h0 hsz hone (fun b j hb _ => .inr hb) (fun j c u hc hu => (hpr j c u hc hu).keeps keeps_fa0)
  · exact PR.nil_sl a
theorem fa_st {j : Nat} {o : O} (h : s.st[j]? = some o) (hj : j ≠ i) : (s.fa i ver es x).st[j]? = some (o.fa i ver es) := by
  simp only [S.fa, List.getElem?_map]
  rw [List.getElem?_set_ne (fun e => hj e.symm), h]
  rfl
theorem fa_back {j : Nat} {o : O} (h : (s.fa i ver es x).st[j]? = some o) : (j = i ∧ o = .dead) ∨ (j ≠ i ∧ ∃ o', s.st[j]? = some o' ∧ o = o'.fa i ver es) := by
  simp only [S.fa, List.getElem?_map, Option.map_eq_some_iff] at h
  obtain ⟨o', h1, rfl⟩ := h
  rcases getElem?_set_cases h1 with ⟨rfl, rfl, _⟩ | ⟨hne, h1⟩
  · exact .inl ⟨rfl, rfl⟩
  · exact .inr ⟨hne, o', h1, rfl⟩
theorem Rep.fa (hs : Sim P gl w s) (ho : s.st[i]? = some (.arr el sz ver es)) (hg : s.g[i]? = some (.row x)) {v : V} {y : Value} (hx : Rep w s v y) : Rep w (s.fa i ver es x) (v.fa i ver es) y := by
  have hk : Keeps w s.K w (s.fa i ver es x).K := keeps_fa0 (i := i)
  induction hx with
  | pure v x h => rw [h.fa]; exact .pure _ _ (h.keeps hk)
  | undef x => exact .undef x
  | agg ds xs hl _ ih => simp only [V.fa, faL_eq]; exact .agg _ xs (by simpa using hl) (fa_map (R := Rep w (s.fa i ver es x)) ih)
  | tuple ds xs hl _ ih => simp only [V.fa, faL_eq]; exact .tuple _ xs (by simpa using hl) (fa_map (R := Rep w (s.fa i ver es x)) ih)
  | func fn fs ds xs ys hl hl' _ _ ih ih' => simp only [V.fa, faL_eq]; exact .func fn _ _ xs ys (by simpa using hl) (by simpa using hl') (fa_map (R := Rep w (s.fa i ver es x)) ih) (fa_map (R := Rep w (s.fa i ver es x)) ih')
  | iface t v y _ ih => exact .iface t _ y ih
  | tok es' id y hpr ht =>
    refine .tok es' id y (hpr.keeps hk) ?_
    obtain ⟨o, ho', hm⟩ := ht
    by_cases hid : id = i
    · subst hid
      rw [ho] at ho'
      simp only [Option.some.injEq] at ho'
      subst ho'
      exact hm.elim
    · refine ⟨o.fa i ver es, fa_st ho' hid, ?_⟩
      cases o <;> exact hm
  | ref id v' y h1 ht =>
    simp only [V.fa]
    by_cases hid : id = i
    · subst hid
      rw [if_pos rfl]
      by_cases hv : v' = ver
      · subst hv
        rw [if_pos rfl]
        exact .pure _ _ (fa_ref hs ho hg (.ref id v' y h1 ht))
      · rw [if_neg hv]
        exact .undef _
    · rw [if_neg hid]
      obtain ⟨o, ho', hm⟩ := ht
      refine .ref id v' y h1 ⟨o.fa i ver es, fa_st ho' hid, ?_⟩
      cases o <;> exact hm
  | rptr id v' off y h1 ht =>
    simp only [V.fa]
    by_cases hid : id = i
    · rw [if_pos hid]
      exact .undef _
    · rw [if_neg hid]
      obtain ⟨o, ho', hm⟩ := ht
      refine .rptr id v' off y h1 ⟨o.fa i ver es, fa_st ho' hid, ?_⟩
      cases o <;> exact hm
  | ptr id off b' hb => exact .ptr id off b' hb
  | map id b' hb => exact .map id b' hb
  | yld id l F J Jx hb => exact .yld id l F J Jx hb
theorem O.fa_lives (i ver : Nat) (es : List V) (o : O) : (o.fa i ver es).lives = o.lives ∧ ∀ y, (o.fa i ver es).writes y ↔ o.writes y := by cases o <;> exact ⟨rfl, fun _ => Iff.rfl⟩
theorem own_fa {j b' : Nat} (h : (s.fa i ver es x).own j b') : j ≠ i ∧ s.own j b' := by
  obtain ⟨o, g, ho, hl, hg, hat⟩ := h
  rcases fa_back ho with ⟨rfl, rfl⟩ | ⟨hne, o', ho', rfl⟩
  · cases hl
  · exact ⟨hne, o', g, ho', by rw [← (O.fa_lives i ver es o').1]; exact hl, hg, hat⟩
theorem foreign_fa {b' : Nat} (h : (s.fa i ver es x).foreign b') : s.foreign b' := by
  obtain ⟨j, xs, k, l, go, F, J, Jx, ho, hg, hF⟩ := h
  rcases fa_back ho with ⟨_, h⟩ | ⟨_, o', ho', he⟩
  · cases h
  · cases o' <;> simp only [O.fa] at he <;> cases he
    exact ⟨j, xs, k, l, go, F, J, Jx, ho', hg, hF⟩
theorem Evolve.fa {w0 : World} {s0 : S} (hl0 : s0.g.length = s0.st.length) (hE : Evolve w0 s0 w s) (hs : Sim P gl w s) (ho : s.st[i]? = some (.arr el sz ver es)) (hg : s.g[i]? = some (.row x)) : Evolve w0 s0 w (s.fa i ver es x) := by
  have hE' := hE.trans hl0 hs.len (hs.fa0E ho hg)
  refine ⟨hE'.os, hE'.tape, hE'.output, hE'.size, hE'.keeps, hE'.knew, hE'.block, hE'.len, fun j o g hj hgj => ?_, fun j o g b' hj hoj hlv hgj hat => ?_, fun j xs k go hj hoj => ?_⟩
  · obtain ⟨o1, g1, h1, h2, tr⟩ := hE'.objs j o g hj hgj
    refine ⟨o1.fa i ver es, g1, ?_, h2, ?_⟩
    · simp only [S.fa, List.getElem?_map]
      have : (s.st.set i .dead)[j]? = some o1 := h1
      rw [this]
      rfl
    · cases o with
      | box t' ds =>
        obtain ⟨rfl, rfl | ⟨ds', rfl, hc⟩⟩ := tr
        · exact ⟨rfl, .inl rfl⟩
        · exact ⟨rfl, .inr ⟨_, rfl, by simpa using hc⟩⟩
      | map ks vs =>
        obtain ⟨rfl, rfl | ⟨ks', vs', rfl⟩⟩ := tr
        · exact ⟨rfl, .inl rfl⟩
        · exact ⟨rfl, .inr ⟨_, _, rfl⟩⟩
      | tok e sz m =>
        rcases tr with rfl | ⟨m', rfl, tr⟩
        · exact .inl rfl
        · exact .inr ⟨m', rfl, tr⟩
      | arr e sz v es =>
        rcases tr with rfl | ⟨m', es', rfl, tr⟩
        · exact .inl rfl
        · exact .inr ⟨m', es', rfl, tr⟩
      | yld xs n go =>
        obtain ⟨t1, rfl | ⟨j', go', rfl, t2⟩⟩ := tr
        · exact ⟨t1, .inl rfl⟩
        · exact ⟨t1, .inr ⟨j', go', rfl, t2⟩⟩
      | dead => obtain ⟨rfl, rfl⟩ := tr; exact ⟨rfl, rfl⟩
  · rcases fa_back hoj with ⟨_, rfl⟩ | ⟨_, o', ho', rfl⟩
    · cases hlv
    · exact hE.fresh j o' g b' hj ho' (by rw [← (O.fa_lives i ver es o').1]; exact hlv) hgj hat
  · rcases fa_back hoj with ⟨_, h⟩ | ⟨_, o', ho', he⟩
    · cases h
    · cases o' <;> simp only [O.fa] at he <;> cases he
      exact hE.noyld j _ _ _ hj ho'
theorem Sim.fa (hs : Sim P gl w s) (ho : s.st[i]? = some (.arr el sz ver es)) (hg : s.g[i]? = some (.row x)) : Sim P gl w (s.fa i ver es x) := by
  have h1 := hs.fa0 ho hg
  refine ⟨by simp [S.fa, S.fa0, hs.len], fun j o g hj hgj => ?_, fun j k b' hj hk => hs.inj j k b' (own_fa hj).2 (own_fa hk).2, fun j b' o ob hj hob hwr hk => ?_, h1.kin, fun b' hb => ?_, h1.glob⟩
  · rcases fa_back hj with ⟨_, rfl⟩ | ⟨hne, o', ho', rfl⟩
    · trivial
    · cases o' with
      | box t' ds =>
        have hb := hs.obj j _ g ho' hgj
        cases g <;> simp only [ObjOK, O.fa] at hb ⊢
        obtain ⟨arr, ha, hl, hr⟩ := hb
        exact ⟨arr, ha, by simpa using hl, fa_map (xs := arr.toList) (R := Rep w (s.fa i ver es x)) (fun n c y hc hy => (hr n c y hc (by simpa using hy)).fa hs ho hg) |> fun h n c y hc hy => h n c y hc (by simpa using hy)⟩
      | _ =>
        have hb0 := hs.obj j _ g ho' hgj
        have hb := h1.obj j _ g (by simp only [S.fa0]; rw [List.getElem?_set_ne (fun e => hne e.symm)]; exact ho') hgj
        cases g <;> simp only [ObjOK] at hb0 <;> first | exact hb.elim | exact hb | (simp only [ObjOK, O.fa] at hb ⊢; exact ⟨hb.1, hb.2.1, hb.2.2.1, fun b' ⟨m, hm⟩ => hb0.2.2.2 b' ⟨m, (own_fa hm).2⟩⟩)
  · obtain ⟨hne, hj'⟩ := own_fa hj
    rcases fa_back hob with ⟨rfl, _⟩ | ⟨_, o', ho', rfl⟩
    · exact hne rfl
    · rcases hk with hk | hk
      · exact hs.kout j b' o o' hj' ho' (((O.fa_lives i ver es o').2 o).1 hwr) hk
      · exact hne (hs.inj j i b' hj' ⟨_, _, ho, rfl, hg, hk⟩)
  · obtain ⟨h2, h3⟩ := hs.fgn b' (foreign_fa hb)
    exact ⟨h2, fun ⟨m, hm⟩ => h3 ⟨m, (own_fa hm).2⟩⟩
def Env.fa (i ver : Nat) (es : List V) (e : Env) : Env := ⟨e.n, e.m.map fun p => (p.1, p.2.fa i ver es)⟩
theorem Env.fa_get (i ver : Nat) (es : List V) (e : Env) (t : Nat) : (e.fa i ver es).get t = (e.get t).fa i ver es := by
  obtain ⟨n, m⟩ := e
  simp only [Env.fa, Env.get]
  induction m with
  | nil => rfl
  | cons p m ih =>
    obtain ⟨a, v⟩ := p
    simp only [List.map_cons, getM]
    split
    · rfl
    · exact ih
theorem arr_row (hs : Sim P gl w s) (ho : s.st[i]? = some (.arr el sz ver es)) : ∃ x, s.g[i]? = some (.row x) := hs.wf.arr i _ _ _ _ ho
/-- **A row is frozen.** -/
theorem AW.fa {c : Code} (i : Nat) (el : TypeId) (sz ver : Nat) (es : List V) (ho : st[i]? = some (.arr el sz ver es)) (h : AW P gl r c Q (e.fa i ver es) ((st.set i .dead).map (O.fa i ver es))) : AW P gl r c Q e st := fun n0 w s a hn hst hs ha => by
  subst hst
  obtain ⟨x, hg⟩ := arr_row hs ho
  have hS := hs.fa ho hg
  have hE := (Evolve.refl (w := w) hs.wf).fa hs.len hs ho hg
  have hA : ActOK w (s.fa i ver es x) n0 (e.fa i ver es) a := by
    refine ⟨ha.n, fun t => by rw [Env.fa_get]; exact (ha.get t).fa hs ho hg, ⟨fun d hd => ?_, ha.marks.2⟩⟩
    obtain ⟨r, h1, h2, h3, h4, h5⟩ := ha.marks.1 d hd
    exact ⟨r, h1, h2, h3, fun ⟨m, hm⟩ => h4 ⟨m, (own_fa hm).2⟩, fun hf => h5 (foreign_fa hf)⟩
  refine wpIn_mono (h n0 w (s.fa i ver es x) a hn rfl hS hA) fun y a' w' ⟨e'', s', h1, h2, h3, hq⟩ => ?_
  exact ⟨e'', s', h1, hE.trans hs.len hS.len h2, h3, hq⟩
/-- An empty row of one's own. -/
theorem AW.arr0 {c : Code} (el : TypeId) (sz : Nat) (h : AW P gl r c Q e (st ++ [.arr el sz 0 []])) : AW P gl r c Q e st := fun n0 w s a hn hst hs ha => by
  subst hst
  have hS : Sim P gl w (s.push (.arr el sz 0 []) (.row (.slice none 0 0))) := hs.push (fun _ _ _ h => by cases h) (fun _ _ _ h => by cases h) (fun _ _ h => by cases h) (fun _ _ _ => by simp) ⟨[], ⟨by simp, .inl ⟨rfl, rfl⟩⟩, by simp, by simp, by simp, by simp⟩ (fun _ _ h => by cases h)
  have hE : Evolve w s w (s.push (.arr el sz 0 []) (.row (.slice none 0 0))) := Evolve.push hs.wf (Evolve.refl hs.wf) _ _ (fun _ _ h => by cases h) (fun _ _ _ => by simp)
  refine wpIn_mono (h n0 w _ a hn rfl hS (ha.evolve hE hs.wf)) fun x a' w' ⟨e'', s', h1, h2, h3, hq⟩ => ?_
  exact ⟨e'', s', h1, hE.trans hs.len hS.len h2, h3, hq⟩
theorem V.le_nil_ref {k : Nat} {e : TypeId} {sz v : Nat} (h : st[k]? = some (.arr e sz v [])) : V.le st .nil (.ref k v) := fun w s x hs hx => by
  obtain ⟨a, rfl⟩ := hx.nil_inv
  exact .ref k v _ rfl ⟨.arr e sz v [], hs ▸ h, Nat.le_refl _, fun _ => .inr ⟨rfl, a, rfl⟩⟩
/-- A row that a function hands back is frozen. -/
theorem Call.fa {k : FuncId} {args : List V} {v0 : V} {st0 : List O} (i : Nat) (el : TypeId) (sz ver : Nat) (es : List V) (ho : st0[i]? = some (.arr el sz ver es)) (h : Call P gl k args st fun v st' => v = v0 ∧ st' = st0) :
    Call P gl k args st fun v st' => v = v0.fa i ver es ∧ st' = (st0.set i .dead).map (O.fa i ver es) := fun w s xs hst hs hx => by
  refine CallsIn.mono (h w s xs hst hs hx) fun e w' ⟨v, x, s', h1, h2, h3, h4, h5, h6⟩ => ?_
  subst h5 h6
  obtain ⟨y, hg⟩ := arr_row h2 ho
  exact ⟨_, x, s'.fa i ver es y, h1, h2.fa ho hg, h3.fa hs.len h2 ho hg, h4.fa h2 ho hg, rfl, rfl⟩
/-- What a function leaves behind is forgotten. -/
theorem Call.forget {k : FuncId} {args : List V} {v0 : V} {st0 : List O} (n : Nat) (hn : st.length ≤ n) (h : Call P gl k args st fun v st' => v = v0 ∧ st' = st0) :
    Call P gl k args st fun v st' => v = v0.trim n ∧ st' = trimS n st0 := fun w s xs hst hs hx => by
  refine CallsIn.mono (h w s xs hst hs hx) fun e w' ⟨v, x, s', h1, h2, h3, h4, h5, h6⟩ => ?_
  subst h5 h6 hst
  exact ⟨_, x, s'.trim n, h1, h2.trim n, h3.trim hs.len h2.len hn, h4.trim, rfl, rfl⟩
end
end Go.Duo
