/-
  A part of the proof.
-/
import Derived.Test.YtdlcnihacaboiaaGreatDoorGH
import Derived.Lib.ParseIntB
import Derived.Lib.ItoaMem
import Derived.Lib.ItoaLen
import Derived.RangeFuncIn
set_option linter.all false
namespace Go.Duo
open Go
end Go.Duo

namespace Go.Duo
open Go
section
variable {P : Program} {gl : Nat → V} {r : Option Nat} {e : Env} {st : List O} {w : World} {s : S} {Q : Exit → Env → List O → Prop}
variable {i ver : Nat} {el : TypeId} {sz : Nat} {es : List V} {x : Value}
/-- What a function leaves behind is forgotten. -/
theorem Call.forget {k : FuncId} {args : List V} {v0 : V} {st0 : List O} (n : Nat) (hn : st.length ≤ n) (h : Call P gl k args st fun v st' => v = v0 ∧ st' = st0) :
    Call P gl k args st fun v st' => v = v0.trim n ∧ st' = trimS n st0 := fun w s xs hst hs hx => by
  refine CallsIn.mono (h w s xs hst hs hx) fun e w' ⟨v, x, s', h1, h2, h3, h4, h5, h6⟩ => ?_
  subst h5 h6 hst
  exact ⟨_, x, s'.trim n, h1, h2.trim n, h3.trim hs.len h2.len hn, h4.trim, rfl, rfl⟩
end
end Go.Duo

namespace Go.Duo
open Go
section
variable {P : Program} {gl : Nat → V} {r : Option Nat} {e : Env} {st : List O} {w : World} {s : S} {Q : Exit → Env → List O → Prop}
/-- Values, the row i (in its last version) frozen. -/
def V.fm (i : Nat) (ks vs : List V) : V → V
  | .agg xs => .agg (fmL i ks vs xs)
  | .tuple xs => .tuple (fmL i ks vs xs)
  | .func fn a b => .func fn (fmL i ks vs a) (fmL i ks vs b)
  | .iface t v => .iface t (v.fm i ks vs)
  | .map j => if j = i then .pmap ks vs else .map j
  | v => v
where fmL (i : Nat) (ks vs : List V) : List V → List V
  | [] => []
  | x :: xs => x.fm i ks vs :: fmL i ks vs xs
theorem fmL_eq (i : Nat) (ks vs xs : List V) : V.fm.fmL i ks vs xs = xs.map (V.fm i ks vs) := by
  induction xs with
  | nil => rfl
  | cons x xs ih => simp [V.fm.fmL, ih]
def O.fm (i : Nat) (ks vs : List V) : O → O
  | .box t xs => .box t (xs.map (V.fm i ks vs))
  | .map as bs => .map as (bs.map (V.fm i ks vs))
  | o => o
theorem fm_map {i : Nat} {ks vs ds : List V} {xs : List Value} {R : V → Value → Prop} (ih : ∀ (j : Nat) (c : V) (x : Value), ds[j]? = some c → xs[j]? = some x → R (c.fm i ks vs) x) : ∀ (j : Nat) (c : V) (x : Value), (ds.map (V.fm i ks vs))[j]? = some c → xs[j]? = some x → R c x := fun j c x hc hx => by
  rw [List.getElem?_map] at hc
  cases hj : ds[j]? with
  | none => simp [hj] at hc
  | some c0 => simp only [hj, Option.map_some, Option.some.injEq] at hc; subst hc; exact ih j c0 x hj hx
theorem PR.fm {K : Nat → Nat → Prop} {i : Nat} {ks vs : List V} {v : V} {x : Value} (h : PR w K v x) : v.fm i ks vs = v := by
  have mapid : ∀ {ds : List V} {xs : List Value}, ds.length = xs.length → (∀ (j : Nat) (c : V) (x : Value), ds[j]? = some c → xs[j]? = some x → c.fm i ks vs = c) → ds.map (V.fm i ks vs) = ds := fun {ds xs} hl ih => by
    apply List.ext_getElem (by simp)
    intro j h1 h2
    rw [List.getElem_map]
    exact ih j _ (xs[j]'(by omega)) (List.getElem?_eq_getElem h2) (List.getElem?_eq_getElem _)
  induction h with
  | agg ds xs hl _ ih => simp only [V.fm, fmL_eq, mapid hl ih]
  | tuple ds xs hl _ ih => simp only [V.fm, fmL_eq, mapid hl ih]
  | func fn fs ds xs ys hl hl' _ _ ih ih' => simp only [V.fm, fmL_eq, mapid hl ih, mapid hl' ih']
  | iface t v x _ ih => simp only [V.fm, ih]
  | _ => rfl
/-- The row i frozen; x: where it lies. -/
def S.fm0 (s : S) (i b : Nat) : S := { s with K := fun b' o => s.K b' o ∨ b' = b, st := s.st.set i .dead }
def S.fm (s : S) (i : Nat) (ks vs : List V) (b : Nat) : S := { s.fm0 i b with st := (s.st.set i .dead).map (O.fm i ks vs) }
variable {i b : Nat} {ks vs : List V}
theorem keeps_fm0 : Keeps w s.K w (s.fm0 i b).K := ⟨fun _ _ h => .inl h, fun _ _ _ _ h => h, fun _ _ _ _ h => h, fun _ _ _ _ h => h⟩
theorem Sim.fm0E (hs : Sim P gl w s) (ho : s.st[i]? = some (.map ks vs)) (hg : s.g[i]? = some (.blk b)) : Evolve w s w (s.fm0 i b) := by
  have hR := Evolve.refl (w := w) hs.wf
  refine ⟨rfl, rfl, rfl, Nat.le_refl _, keeps_fm0, fun b' o h => ?_, fun _ _ _ _ => rfl, Nat.le_refl _, fun j o g hj hgj => ?_, fun j o g b' hj _ _ hgj _ => ?_, fun j xs k go hj hoj => ?_⟩
  · rcases h with h | h
    · exact .inl h
    · exact .inr (.inr (.inl ⟨i, _, _, ho, rfl, hg, by rw [h]; rfl⟩))
  · by_cases hij : i = j
    · subst hij
      rw [ho] at hj
      rw [hg] at hgj
      simp only [Option.some.injEq] at hj hgj
      subst hj hgj
      exact ⟨.dead, _, by simp [S.fm0, (List.getElem?_eq_some_iff.1 ho).1], hg, rfl, .inl rfl⟩
    · obtain ⟨o', g', h1, h2, h3⟩ := hR.objs j o g hj hgj
      exact ⟨o', g', by simp only [S.fm0]; rw [List.getElem?_set_ne hij]; exact h1, h2, h3⟩
  · have := (List.getElem?_eq_some_iff.1 hgj).1
    simp [S.fm0] at this
    omega
  · have := (List.getElem?_eq_some_iff.1 hoj).1
    simp [S.fm0] at this
    have := hs.len
    omega
theorem own_fm0 {j b' : Nat} (h : (s.fm0 i b).own j b') : j ≠ i ∧ s.own j b' := by
  obtain ⟨o, g, ho, hl, hg, hat⟩ := h
  simp only [S.fm0] at ho hg
  rcases getElem?_set_cases ho with ⟨rfl, rfl, _⟩ | ⟨hne, ho⟩
  · cases hl
  · exact ⟨hne, o, g, ho, hl, hg, hat⟩
theorem Sim.fm0 (hs : Sim P gl w s) (ho : s.st[i]? = some (.map ks vs)) (hg : s.g[i]? = some (.blk b)) : Sim P gl w (s.fm0 i b) where
  len := by simp [S.fm0, hs.len]
  obj := fun j o g hj hgj => by
    have hj' : (s.st.set i .dead)[j]? = some o := hj
    rcases getElem?_set_cases hj' with ⟨rfl, rfl, _⟩ | ⟨hne, hj'⟩
    · trivial
    · refine (hs.obj j o g hj' hgj).keep (hs.fm0E ho hg) hs.wf (fun _ _ _ => rfl) (fun l F J Jx xs k go hg' ho' => ⟨fun _ _ => rfl, fun b' o' hk => ?_, fun _ _ => rfl, fun b' o' hk => ?_⟩)
      · rcases hk with hk | hk
        · exact .inl hk
        · refine .inr ⟨?_, fun hF => (hs.fgn b' ⟨j, xs, k, l, go, F, J, Jx, by rw [hj', ho'], by rw [← hg']; exact hgj, hF⟩).2 ⟨i, _, _, ho, rfl, hg, by rw [hk]; rfl⟩⟩
          have := hs.obj j _ _ hj' hgj
          rw [ho', hg'] at this
          simp only [ObjOK] at this
          exact this.2.2.2 b' ⟨i, _, _, ho, rfl, hg, by rw [hk]; rfl⟩
      · rcases hk with hk | hk
        · exact hs.kin b' o' hk
        · exact hs.mine_lt ⟨i, _, _, ho, rfl, hg, by rw [hk]; rfl⟩
  inj := fun j k b' hj hk => hs.inj j k b' (own_fm0 hj).2 (own_fm0 hk).2
  kout := fun j b' o ob hj hob hwr hk => by
    obtain ⟨hne, hj'⟩ := own_fm0 hj
    have hob' : (s.st.set i .dead)[j]? = some ob := hob
    rcases getElem?_set_cases hob' with ⟨rfl, _⟩ | ⟨_, hob'⟩
    · exact hne rfl
    · rcases hk with hk | hk
      · exact hs.kout j b' o ob hj' hob' hwr hk
      · exact hne (hs.inj j i b' hj' ⟨_, _, ho, rfl, hg, by rw [hk]; rfl⟩)
  kin := fun b' o hk => by
    rcases hk with hk | hk
    · exact hs.kin b' o hk
    · exact hs.mine_lt ⟨i, _, _, ho, rfl, hg, by rw [hk]; rfl⟩
  fgn := fun b' hb => by
    obtain ⟨j, xs, k, l, go, F, J, Jx, hj, hgj, hF⟩ := hb
    have hj' : (s.st.set i .dead)[j]? = some _ := hj
    rcases getElem?_set_cases hj' with ⟨_, h, _⟩ | ⟨_, hj'⟩
    · cases h
    · obtain ⟨h1, h2⟩ := hs.fgn b' ⟨j, xs, k, l, go, F, J, Jx, hj', hgj, hF⟩
      exact ⟨h1, fun ⟨m, hm⟩ => h2 ⟨m, (own_fm0 hm).2⟩⟩
  glob := fun g => (hs.glob g).imp id fun k => globKeeps (K' := (s.fm0 i b).K) keeps_fm0 k
/-- What the map is from then on. -/
theorem fm_ref (hs : Sim P gl w s) (ho : s.st[i]? = some (.map ks vs)) (hg : s.g[i]? = some (.blk b)) (hp : ∀ c ∈ vs, PureV c ∧ c.bare = c) : PR w (s.fm0 i b).K (.pmap ks vs) (.map (some b)) := by
  have hob := hs.obj i _ _ ho hg
  simp only [ObjOK] at hob
  obtain ⟨es, clock, h1, h2, h3, h4, h5⟩ := hob
  refine .pmap ks vs b es clock h1 (.inr rfl) h2 h3 (fun j c e hc he => (h4 j c e hc he).keeps keeps_fm0) (fun j c e hc he => ?_)
  obtain ⟨k1, k2⟩ := hp c (List.mem_of_getElem? hc)
  have := (k1 w s _ (h5 j c e hc he)).keeps (keeps_fm0 (i := i) (b := b))
  rwa [k2] at this
theorem fm_st {j : Nat} {o : O} (h : s.st[j]? = some o) (hj : j ≠ i) : (s.fm i ks vs b).st[j]? = some (o.fm i ks vs) := by
  simp only [S.fm, List.getElem?_map]
  rw [List.getElem?_set_ne (fun e => hj e.symm), h]
  rfl
theorem fm_back {j : Nat} {o : O} (h : (s.fm i ks vs b).st[j]? = some o) : (j = i ∧ o = .dead) ∨ (j ≠ i ∧ ∃ o', s.st[j]? = some o' ∧ o = o'.fm i ks vs) := by
  simp only [S.fm, List.getElem?_map, Option.map_eq_some_iff] at h
  obtain ⟨o', h1, rfl⟩ := h
  rcases getElem?_set_cases h1 with ⟨rfl, rfl, _⟩ | ⟨hne, h1⟩
  · exact .inl ⟨rfl, rfl⟩
  · exact .inr ⟨hne, o', h1, rfl⟩
theorem Rep.fm (hs : Sim P gl w s) (ho : s.st[i]? = some (.map ks vs)) (hg : s.g[i]? = some (.blk b)) (hp : ∀ c ∈ vs, PureV c ∧ c.bare = c) {v : V} {y : Value} (hx : Rep w s v y) : Rep w (s.fm i ks vs b) (v.fm i ks vs) y := by
  have hk : Keeps w s.K w (s.fm i ks vs b).K := keeps_fm0 (i := i)
  induction hx with
  | pure v x h => rw [h.fm]; exact .pure _ _ (h.keeps hk)
  | undef x => exact .undef x
  | agg ds xs hl _ ih => simp only [V.fm, fmL_eq]; exact .agg _ xs (by simpa using hl) (fm_map (R := Rep w (s.fm i ks vs b)) ih)
  | tuple ds xs hl _ ih => simp only [V.fm, fmL_eq]; exact .tuple _ xs (by simpa using hl) (fm_map (R := Rep w (s.fm i ks vs b)) ih)
  | func fn fs ds xs ys hl hl' _ _ ih ih' => simp only [V.fm, fmL_eq]; exact .func fn _ _ xs ys (by simpa using hl) (by simpa using hl') (fm_map (R := Rep w (s.fm i ks vs b)) ih) (fm_map (R := Rep w (s.fm i ks vs b)) ih')
  | iface t v y _ ih => exact .iface t _ y ih
  | tok es' id y hpr ht =>
    refine .tok es' id y (hpr.keeps hk) ?_
    obtain ⟨o, ho', hm⟩ := ht
    by_cases hid : id = i
    · subst hid
      rw [ho] at ho'
      simp only [Option.some.injEq] at ho'
      subst ho'
      exact hm.elim
    · refine ⟨o.fm i ks vs, fm_st ho' hid, ?_⟩
      cases o <;> exact hm
  | ref id v' y h1 ht =>
    obtain ⟨o, ho', hm⟩ := ht
    by_cases hid : id = i
    · subst hid
      rw [ho] at ho'
      simp only [Option.some.injEq] at ho'
      subst ho'
      exact hm.elim
    · refine .ref id v' y h1 ⟨o.fm i ks vs, fm_st ho' hid, ?_⟩
      cases o <;> exact hm
  | rptr id v' off y h1 ht =>
    obtain ⟨o, ho', hm⟩ := ht
    by_cases hid : id = i
    · subst hid
      rw [ho] at ho'
      simp only [Option.some.injEq] at ho'
      subst ho'
      exact hm.elim
    · refine .rptr id v' off y h1 ⟨o.fm i ks vs, fm_st ho' hid, ?_⟩
      cases o <;> exact hm
  | ptr id off b' hb => exact .ptr id off b' hb
  | map id b' hb =>
    simp only [V.fm]
    by_cases hid : id = i
    · subst hid
      rw [if_pos rfl]
      rw [hg] at hb
      simp only [Option.some.injEq, Gh.blk.injEq] at hb
      subst hb
      exact .pure _ _ (fm_ref hs ho hg hp)
    · rw [if_neg hid]
      exact .map id b' hb
  | yld id l F J Jx hb => exact .yld id l F J Jx hb
theorem O.fm_lives (i : Nat) (ks vs : List V) (o : O) : (o.fm i ks vs).lives = o.lives ∧ ∀ y, (o.fm i ks vs).writes y ↔ o.writes y := by cases o <;> exact ⟨rfl, fun _ => Iff.rfl⟩
theorem own_fm {j b' : Nat} (h : (s.fm i ks vs b).own j b') : j ≠ i ∧ s.own j b' := by
  obtain ⟨o, g, ho, hl, hg, hat⟩ := h
  rcases fm_back ho with ⟨rfl, rfl⟩ | ⟨hne, o', ho', rfl⟩
  · cases hl
  · exact ⟨hne, o', g, ho', by rw [← (O.fm_lives i ks vs o').1]; exact hl, hg, hat⟩
theorem foreign_fm {b' : Nat} (h : (s.fm i ks vs b).foreign b') : s.foreign b' := by
  obtain ⟨j, xs, k, l, go, F, J, Jx, ho, hg, hF⟩ := h
  rcases fm_back ho with ⟨_, h⟩ | ⟨_, o', ho', he⟩
  · cases h
  · cases o' <;> simp only [O.fm] at he <;> cases he
    exact ⟨j, xs, k, l, go, F, J, Jx, ho', hg, hF⟩
theorem Evolve.fm {w0 : World} {s0 : S} (hl0 : s0.g.length = s0.st.length) (hE : Evolve w0 s0 w s) (hs : Sim P gl w s) (ho : s.st[i]? = some (.map ks vs)) (hg : s.g[i]? = some (.blk b)) : Evolve w0 s0 w (s.fm i ks vs b) := by
  have hE' := hE.trans hl0 hs.len (hs.fm0E ho hg)
  refine ⟨hE'.os, hE'.tape, hE'.output, hE'.size, hE'.keeps, hE'.knew, hE'.block, hE'.len, fun j o g hj hgj => ?_, fun j o g b' hj hoj hlv hgj hat => ?_, fun j xs k go hj hoj => ?_⟩
  · obtain ⟨o1, g1, h1, h2, tr⟩ := hE'.objs j o g hj hgj
    refine ⟨o1.fm i ks vs, g1, ?_, h2, ?_⟩
    · simp only [S.fm, List.getElem?_map]
      have : (s.st.set i .dead)[j]? = some o1 := h1
      rw [this]
      rfl
    · cases o with
      | box t' ds =>
        obtain ⟨rfl, rfl | ⟨ds', rfl, hc⟩⟩ := tr
        · exact ⟨rfl, .inl rfl⟩
        · exact ⟨rfl, .inr ⟨_, rfl, by simpa using hc⟩⟩
      | map ks vs =>
        obtain ⟨rfl, rfl | ⟨ks', vs', rfl⟩⟩ := tr
        · exact ⟨rfl, .inl rfl⟩
        · exact ⟨rfl, .inr ⟨_, _, rfl⟩⟩
      | tok e sz m =>
        rcases tr with rfl | ⟨m', rfl, tr⟩
        · exact .inl rfl
        · exact .inr ⟨m', rfl, tr⟩
      | arr e sz v es =>
        rcases tr with rfl | ⟨m', es', rfl, tr⟩
        · exact .inl rfl
        · exact .inr ⟨m', es', rfl, tr⟩
      | yld xs n go =>
        obtain ⟨t1, rfl | ⟨j', go', rfl, t2⟩⟩ := tr
        · exact ⟨t1, .inl rfl⟩
        · exact ⟨t1, .inr ⟨j', go', rfl, t2⟩⟩
      | dead => obtain ⟨rfl, rfl⟩ := tr; exact ⟨rfl, rfl⟩
  · rcases fm_back hoj with ⟨_, rfl⟩ | ⟨_, o', ho', rfl⟩
    · cases hlv
    · exact hE.fresh j o' g b' hj ho' (by rw [← (O.fm_lives i ks vs o').1]; exact hlv) hgj hat
  · rcases fm_back hoj with ⟨_, h⟩ | ⟨_, o', ho', he⟩
    · cases h
    · cases o' <;> simp only [O.fm] at he <;> cases he
      exact hE.noyld j _ _ _ hj ho'
theorem Sim.fm (hs : Sim P gl w s) (ho : s.st[i]? = some (.map ks vs)) (hg : s.g[i]? = some (.blk b)) (hp : ∀ c ∈ vs, PureV c ∧ c.bare = c) : Sim P gl w (s.fm i ks vs b) := by
  have h1 := hs.fm0 ho hg
  refine ⟨by simp [S.fm, S.fm0, hs.len], fun j o g hj hgj => ?_, fun j k b' hj hk => hs.inj j k b' (own_fm hj).2 (own_fm hk).2, fun j b' o ob hj hob hwr hk => ?_, h1.kin, fun b' hb => ?_, h1.glob⟩
  · rcases fm_back hj with ⟨_, rfl⟩ | ⟨hne, o', ho', rfl⟩
    · trivial
    · cases o' with
      | box t' ds =>
        have hb := hs.obj j _ g ho' hgj
        cases g <;> simp only [ObjOK, O.fm] at hb ⊢
        obtain ⟨arr, ha, hl, hr⟩ := hb
        exact ⟨arr, ha, by simpa using hl, fm_map (xs := arr.toList) (R := Rep w (s.fm i ks vs b)) (fun n c y hc hy => (hr n c y hc (by simpa using hy)).fm hs ho hg hp) |> fun h n c y hc hy => h n c y hc (by simpa using hy)⟩
      | map ks2 vs2 =>
        have hb := hs.obj j _ g ho' hgj
        have hb1 := h1.obj j _ g (by simp only [S.fm0]; rw [List.getElem?_set_ne (fun e => hne e.symm)]; exact ho') hgj
        cases g <;> simp only [ObjOK, O.fm] at hb hb1 ⊢
        obtain ⟨es', clock, ha, hl, hv, _, hr⟩ := hb
        obtain ⟨es2, clock', ha', _, _, hk, _⟩ := hb1
        rw [ha] at ha'
        simp only [Option.some.injEq, Obj.map.injEq] at ha'
        obtain ⟨rfl, rfl⟩ := ha'
        refine ⟨_, _, ha, hl, by simpa using hv, hk, fun n c e hc he => ?_⟩
        rw [List.getElem?_map] at hc
        cases hj : vs2[n]? with
        | none => simp [hj] at hc
        | some c0 => simp only [hj, Option.map_some, Option.some.injEq] at hc; subst hc; exact (hr n c0 e hj he).fm hs ho hg hp
      | _ =>
        have hb0 := hs.obj j _ g ho' hgj
        have hb := h1.obj j _ g (by simp only [S.fm0]; rw [List.getElem?_set_ne (fun e => hne e.symm)]; exact ho') hgj
        cases g <;> simp only [ObjOK] at hb0 <;> first | exact hb.elim | exact hb | (simp only [ObjOK, O.fm] at hb ⊢; exact ⟨hb.1, hb.2.1, hb.2.2.1, fun b' ⟨m, hm⟩ => hb0.2.2.2 b' ⟨m, (own_fm hm).2⟩⟩)
  · obtain ⟨hne, hj'⟩ := own_fm hj
    rcases fm_back hob with ⟨rfl, _⟩ | ⟨_, o', ho', rfl⟩
    · exact hne rfl
    · rcases hk with hk | hk
      · exact hs.kout j b' o o' hj' ho' (((O.fm_lives i ks vs o').2 o).1 hwr) hk
      · exact hne (hs.inj j i b' hj' ⟨_, _, ho, rfl, hg, by rw [hk]; rfl⟩)
  · obtain ⟨h2, h3⟩ := hs.fgn b' (foreign_fm hb)
    exact ⟨h2, fun ⟨m, hm⟩ => h3 ⟨m, (own_fm hm).2⟩⟩
def Env.fm (i : Nat) (ks vs : List V) (e : Env) : Env := ⟨e.n, e.m.map fun p => (p.1, p.2.fm i ks vs)⟩
theorem Env.fm_get (i : Nat) (ks vs : List V) (e : Env) (t : Nat) : (e.fm i ks vs).get t = (e.get t).fm i ks vs := by
  obtain ⟨n, m⟩ := e
  simp only [Env.fm, Env.get]
  induction m with
  | nil => rfl
  | cons p m ih =>
    obtain ⟨a, v⟩ := p
    simp only [List.map_cons, getM]
    split
    · rfl
    · exact ih
theorem map_blk (hs : Sim P gl w s) (ho : s.st[i]? = some (.map ks vs)) : ∃ b, s.g[i]? = some (.blk b) := by
  have hl : i < s.g.length := hs.len ▸ (List.getElem?_eq_some_iff.1 ho).1
  have := hs.obj i _ (s.g[i]) ho (by rw [List.getElem?_eq_getElem])
  rw [List.getElem?_eq_getElem hl]
  cases hg : s.g[i] <;> rw [hg] at this <;> simp only [ObjOK] at this
  exact ⟨_, rfl⟩
/-- **A map is frozen.** -/
theorem AW.fm {c : Code} (i : Nat) (ks vs : List V) (ho : st[i]? = some (.map ks vs)) (hp : ∀ c ∈ vs, PureV c ∧ c.bare = c) (h : AW P gl r c Q (e.fm i ks vs) ((st.set i .dead).map (O.fm i ks vs))) : AW P gl r c Q e st := fun n0 w s a hn hst hs ha => by
  subst hst
  obtain ⟨b, hg⟩ := map_blk hs ho
  have hS := hs.fm ho hg hp
  have hE := (Evolve.refl (w := w) hs.wf).fm hs.len hs ho hg
  have hA : ActOK w (s.fm i ks vs b) n0 (e.fm i ks vs) a := by
    refine ⟨ha.n, fun t => by rw [Env.fm_get]; exact (ha.get t).fm hs ho hg hp, ⟨fun d hd => ?_, ha.marks.2⟩⟩
    obtain ⟨r, h1, h2, h3, h4, h5⟩ := ha.marks.1 d hd
    exact ⟨r, h1, h2, h3, fun ⟨m, hm⟩ => h4 ⟨m, (own_fm hm).2⟩, fun hf => h5 (foreign_fm hf)⟩
  refine wpIn_mono (h n0 w (s.fm i ks vs b) a hn rfl hS hA) fun y a' w' ⟨e'', s', h1, h2, h3, hq⟩ => ?_
  exact ⟨e'', s', h1, hE.trans hs.len hS.len h2, h3, hq⟩
/-- A map that a function hands back is frozen. -/
theorem Call.fm {k : FuncId} {args : List V} {v0 : V} {st0 : List O} (i : Nat) (ks vs : List V) (ho : st0[i]? = some (.map ks vs)) (hp : ∀ c ∈ vs, PureV c ∧ c.bare = c) (h : Call P gl k args st fun v st' => v = v0 ∧ st' = st0) :
    Call P gl k args st fun v st' => v = v0.fm i ks vs ∧ st' = (st0.set i .dead).map (O.fm i ks vs) := fun w s xs hst hs hx => by
  refine CallsIn.mono (h w s xs hst hs hx) fun e w' ⟨v, x, s', h1, h2, h3, h4, h5, h6⟩ => ?_
  subst h5 h6
  obtain ⟨b, hg⟩ := map_blk h2 ho
  exact ⟨_, x, s'.fm i ks vs b, h1, h2.fm ho hg hp, h3.fm hs.len h2 ho hg, h4.fm h2 ho hg hp, rfl, rfl⟩
/-- A map is frozen as it is handed over. -/
theorem Call.fmIn {k : FuncId} {args : List V} {K : V → List O → Prop} (i : Nat) (ks vs : List V) (ho : st[i]? = some (.map ks vs)) (hp : ∀ c ∈ vs, PureV c ∧ c.bare = c) (h : Call P gl k (args.map (V.fm i ks vs)) ((st.set i .dead).map (O.fm i ks vs)) K) : Call P gl k args st K := fun w s xs hst hs hxs => by
  subst hst
  obtain ⟨b, hg⟩ := map_blk hs ho
  have hS := hs.fm ho hg hp
  have hE := (Evolve.refl (w := w) hs.wf).fm hs.len hs ho hg
  refine CallsIn.mono (h w (s.fm i ks vs b) xs rfl hS ⟨by simpa using hxs.1, fun j c x hc hx => ?_⟩) fun e w' ⟨v, x, s', h1, h2, h3, h4, h5⟩ => ⟨v, x, s', h1, h2, hE.trans hs.len hS.len h3, h4, h5⟩
  rw [List.getElem?_map] at hc
  cases hj : args[j]? with
  | none => simp [hj] at hc
  | some c0 => simp only [hj, Option.map_some, Option.some.injEq] at hc; subst hc; exact (hxs.2 j c0 x hj hx).fm hs ho hg hp
end
end Go.Duo

namespace Go.Duo
open Go
abbrev Str := List UInt8
inductive Ty where
  | mk (kind prio : Int) (name : Str) (shift : Int) (labels : List Str) (kids : List Ty)
structure Vl where
  kind : Int
  name : Str
  n : Int
  deriving DecidableEq
inductive Pr where
  | mk (kind : Int) (chan var : Str) (labels : List Str) (args : List Vl) (t : Ty) (kids : List Pr)
mutual
def encT : Ty → V
  | .mk k p n s l ks => .agg [.int .i64 k, .int .i64 p, .str n, .int .i64 s, .sl (l.map .str) none, .sl (encTs ks) none]
def encTs : List Ty → List V
  | [] => []
  | t :: ts => encT t :: encTs ts
end
theorem encTs_eq (l : List Ty) : encTs l = l.map encT := by
  induction l with
  | nil => rfl
  | cons t l ih => simp [encTs, ih]
theorem encT_mk (k p : Int) (n : Str) (s : Int) (l : List Str) (ks : List Ty) : encT (.mk k p n s l ks) = .agg [.int .i64 k, .int .i64 p, .str n, .int .i64 s, .sl (l.map .str) none, .sl (ks.map encT) none] := by rw [encT, encTs_eq]
theorem encT_cells (t : Ty) : .agg (encT t).cells = encT t := by cases t; rw [encT]; rfl
theorem encT_len (t : Ty) : (encT t).cells.length = 6 := by cases t; rw [encT]; rfl
theorem encT_take (t : Ty) : (encT t).cells.take 6 = (encT t).cells := by rw [List.take_of_length_le (by rw [encT_len]; exact Nat.le_refl _)]
theorem encT_one (t : Ty) : (encT t).cells.all V.one = true := by cases t; rw [encT]; rfl
def encV (v : Vl) : V := .agg [.int .i64 v.kind, .str v.name, .int .i64 v.n]
mutual
def encP : Pr → V
  | .mk k c v l a t ks => .agg ([.int .i64 k, .str c, .str v, .sl (l.map .str) none, .sl (a.map encV) none] ++ (encT t).cells ++ [.sl (encPs ks) none])
def encPs : List Pr → List V
  | [] => []
  | t :: ts => encP t :: encPs ts
end
theorem encPs_eq (l : List Pr) : encPs l = l.map encP := by
  induction l with
  | nil => rfl
  | cons t l ih => simp [encPs, ih]
theorem encP_cells (p : Pr) : .agg (encP p).cells = encP p := by cases p; rw [encP]; rfl
theorem encP_len (p : Pr) : (encP p).cells.length = 12 := by
  obtain ⟨k, c, v, l, a, t, ks⟩ := p
  rw [encP]
  show (_ ++ (encT t).cells ++ _ : List V).length = 12
  simp only [List.length_append, encT_len, List.length_cons, List.length_nil]
theorem encP_take (p : Pr) : (encP p).cells.take 12 = (encP p).cells := by rw [List.take_of_length_le (by rw [encP_len]; exact Nat.le_refl _)]
theorem Ty.ind {p : Ty → Prop} (h : ∀ k pr n s l ks, (∀ t ∈ ks, p t) → p (.mk k pr n s l ks)) (t : Ty) : p t :=
  match t with
  | .mk k pr n s l ks => h k pr n s l ks fun t _ => Ty.ind h t
theorem Pr.ind {p : Pr → Prop} (h : ∀ k c v l a t ks, (∀ q ∈ ks, p q) → p (.mk k c v l a t ks)) (q : Pr) : p q :=
  match q with
  | .mk k c v l a t ks => h k c v l a t ks fun q _ => Pr.ind h q
theorem encT_pure (t : Ty) : PureV (encT t) ∧ (encT t).bare = encT t := by
  obtain ⟨k, p, n, s, l, ks⟩ := t
  rw [encT_mk]
  refine ⟨PureV.agg ?_, by simp [V.bare, V.bare.bareL]⟩
  intro c hc
  simp only [List.mem_cons, List.not_mem_nil, or_false] at hc
  rcases hc with rfl | rfl | rfl | rfl | rfl | rfl
  · exact PureV.int _ _
  · exact PureV.int _ _
  · exact PureV.str _
  · exact PureV.int _ _
  · exact PureV.sl _ _
  · exact PureV.sl _ _
theorem Real.ty {k p : Int} {n : Str} {s : Int} {l : List Str} {ks : List Ty} (h : Real (encT (.mk k p n s l ks))) : l.length ≤ 9223372036854775807 ∧ ks.length ≤ 9223372036854775807 ∧ ∀ t ∈ ks, ∀ c ∈ (encT t).cells, Real c := by
  rw [encT_mk] at h
  have h1 := (h.agg (.sl (l.map .str) none) (by simp)).sl
  have h2 := (h.agg (.sl (ks.map encT) none) (by simp)).sl
  refine ⟨by simpa [maxLen] using h1.1, by simpa [maxLen] using h2.1, fun t ht c hc => h2.2 c ?_⟩
  exact List.mem_flatMap.2 ⟨encT t, List.mem_map.2 ⟨t, ht, rfl⟩, hc⟩
mutual
def sameT : Ty → Ty → Bool
  | .mk k p n s l ks, .mk k' p' n' s' l' ks' => decide (k = k') && decide (p = p') && decide (n = n') && decide (s = s') && decide (l = l') && decide (ks.length = ks'.length) && sameTs ks ks'
def sameTs : List Ty → List Ty → Bool
  | t :: ts, u :: us => sameT t u && sameTs ts us
  | _, _ => true
end
theorem encP_mk (k : Int) (c v : Str) (l : List Str) (a : List Vl) (t : Ty) (ks : List Pr) : encP (.mk k c v l a t ks) = .agg (.int .i64 k :: .str c :: .str v :: .sl (l.map .str) none :: .sl (a.map encV) none :: ((encT t).cells ++ [.sl (ks.map encP) none])) := by rw [encP, encPs_eq]; rfl
theorem encP_one (p : Pr) : (encP p).cells.all V.one = true := by
  obtain ⟨k, c, v, l, a, t, ks⟩ := p
  rw [encP_mk, c_agg]
  simp [V.one, encT_one]
theorem take_T (t : Ty) (l : List V) : ((encT t).cells ++ l).take 6 = (encT t).cells := by
  have h := List.take_left (l₁ := (encT t).cells) (l₂ := l); rwa [encT_len] at h
theorem drop_T (t : Ty) (l : List V) : ((encT t).cells ++ l).drop 6 = l := by
  have h := List.drop_left (l₁ := (encT t).cells) (l₂ := l); rwa [encT_len] at h
theorem len_T (t : Ty) (l : List V) : ((encT t).cells ++ l).length = l.length + 6 := by rw [List.length_append, encT_len, Nat.add_comm]
theorem all_T (t : Ty) (l : List V) : ((encT t).cells ++ l).all V.one = l.all V.one := by rw [List.all_append, encT_one, Bool.true_and]
theorem encV_cells (v : Vl) : (encV v).cells = [.int .i64 v.kind, .str v.name, .int .i64 v.n] := rfl
theorem Vl.eta3 {a b : Vl} (h1 : a.kind = b.kind) (h2 : a.name = b.name) (h3 : a.n = b.n) : a = b := by cases a; cases b; simp_all
theorem encP_pure (p : Pr) : PureV (encP p) ∧ (encP p).bare = encP p := by
  obtain ⟨k, c, v, l, a, t, ks⟩ := p
  have ht : ∀ x ∈ (encT t).cells, PureV x ∧ x.bare = x := fun x hx => by
    obtain ⟨k, p, n, s, l, ks⟩ := t
    rw [encT_mk] at hx
    simp only [c_agg, List.mem_cons, List.not_mem_nil, or_false] at hx
    rcases hx with rfl | rfl | rfl | rfl | rfl | rfl
    · exact ⟨PureV.int _ _, rfl⟩
    · exact ⟨PureV.int _ _, rfl⟩
    · exact ⟨PureV.str _, rfl⟩
    · exact ⟨PureV.int _ _, rfl⟩
    · exact ⟨PureV.sl _ _, rfl⟩
    · exact ⟨PureV.sl _ _, rfl⟩
  have hall : ∀ x ∈ (.int .i64 k :: .str c :: .str v :: .sl (l.map .str) none :: .sl (a.map encV) none :: ((encT t).cells ++ [.sl (ks.map encP) none]) : List V), PureV x ∧ x.bare = x := fun x hx => by
    simp only [List.mem_cons, List.mem_append, List.not_mem_nil, or_false] at hx
    rcases hx with rfl | rfl | rfl | rfl | rfl | hx | rfl
    · exact ⟨PureV.int _ _, rfl⟩
    · exact ⟨PureV.str _, rfl⟩
    · exact ⟨PureV.str _, rfl⟩
    · exact ⟨PureV.sl _ _, rfl⟩
    · exact ⟨PureV.sl _ _, rfl⟩
    · exact ht x hx
    · exact ⟨PureV.sl _ _, rfl⟩
  rw [encP_mk]
  refine ⟨PureV.agg fun x hx => (hall x hx).1, ?_⟩
  rw [V.bare_agg]
  congr 1
  exact (List.map_congr_left fun x hx => (hall x hx).2).trans (List.map_id _)
theorem Real.pr {k : Int} {c v : Str} {l : List Str} {a : List Vl} {t : Ty} {ks : List Pr} (h : Real (encP (.mk k c v l a t ks))) : l.length ≤ 9223372036854775807 ∧ a.length ≤ 9223372036854775807 ∧ ks.length ≤ 9223372036854775807 := by
  rw [encP_mk] at h
  have h1 := (h.agg (.sl (l.map .str) none) (by simp)).sl.1
  have h2 := (h.agg (.sl (a.map encV) none) (by simp)).sl.1
  have h3 := (h.agg (.sl (ks.map encP) none) (by simp)).sl.1
  simp only [maxLen, List.length_map] at h1 h2 h3
  exact ⟨h1, h2, h3⟩
mutual
def sameP : Pr → Pr → Bool
  | .mk k c v l a t ks, .mk k' c' v' l' a' t' ks' => decide (k = k') && decide (c = c') && decide (v = v') && decide (l = l') && decide (a.length = a'.length) && sameT t t' && decide (ks.length = ks'.length) && decide (a = a') && samePs ks ks'
def samePs : List Pr → List Pr → Bool
  | t :: ts, u :: us => sameP t u && samePs ts us
  | _, _ => true
end
theorem encT_bare (t : Ty) : (encT t).bare = encT t := (encT_pure t).2
theorem encP_bare (p : Pr) : (encP p).bare = encP p := (encP_pure p).2
theorem encP_dlen (p : Pr) (n : Nat) : ((encP p).cells.drop n).length = 12 - n := by rw [List.length_drop, encP_len]
end Go.Duo

namespace Go.Duo
open Go
def nameL (k : Int) (p : Bool) : Str := Lib.itoa k ++ [if p then 43 else 45]
def dig (c : UInt8) : Bool := decide (48 ≤ c.toNat) && decide (c.toNat ≤ 57)
def foldD (n : Nat) (l : Str) : Nat := l.foldl (fun n c => 10 * n + (c.toNat - 48)) n
theorem foldD_ge (l : Str) : ∀ n, n ≤ foldD n l := by
  induction l with
  | nil => exact fun n => Nat.le_refl n
  | cons c l ih => intro n; exact Nat.le_trans (by omega) (ih (10 * n + (c.toNat - 48)))
theorem foldD_cons (n : Nat) (c : UInt8) (l : Str) : foldD n (c :: l) = foldD (10 * n + (c.toNat - 48)) l := by unfold foldD; rw [List.foldl_cons]
theorem parseUintM_step {M acc : Nat} {c : UInt8} {l : Str} (hc : 48 ≤ c.toNat ∧ c.toNat ≤ 57) (h1 : ¬ 1844674407370955162 ≤ acc) (h2 : ¬ M < acc * 10 + (c.toNat - 48)) : Lib.parseUintM M acc (c :: l) = Lib.parseUintM M (acc * 10 + (c.toNat - 48)) l := by
  simp [Lib.parseUintM, hc, h1, h2]
theorem parseIntB_plain {c : UInt8} {r : Str} {u : Nat} (h1 : ¬ (c.toNat = 43 ∨ c.toNat = 45)) (h2 : Lib.parseUintB 32 (c :: r) = .ok u) (h3 : u ≤ 2147483647) : Lib.parseIntB 32 (c :: r) = .ok (u : Int) := by
  have h4 : ¬ c.toNat = 45 := fun h => h1 (.inr h)
  have h5 : (if c.toNat = 43 ∨ c.toNat = 45 then r else c :: r) = c :: r := if_neg h1
  unfold Lib.parseIntB
  simp only [h5, h2]
  simp only [h4, not_false_eq_true, true_and, false_and, if_false]
  exact if_neg (by omega)
/-- The endpoint that a name is. -/
def epL (s : Str) : Option (Nat × Bool) :=
  if foldD 0 s.dropLast ≤ 2147483647 ∧ s = nameL (foldD 0 s.dropLast) (decide (s.getLast? = some 43)) then some (foldD 0 s.dropLast, decide (s.getLast? = some 43)) else none
def epV (s : Str) : V := match epL s with
  | some (k, p) => .tuple [.int .i64 k, .bool p, .bool true]
  | none => .tuple [.int .i64 0, .bool false, .bool false]
def dualV (s : Str) : V := match epL s with
  | some (k, p) => .tuple [.str (nameL k (!p)), .bool true]
  | none => .tuple [.str [], .bool false]
def epK (s : Str) : Int := match epL s with | some (k, _) => k | none => 0
def epP (s : Str) : Bool := match epL s with | some (_, p) => p | none => false
def epO (s : Str) : Bool := (epL s).isSome
theorem epV_eq (s : Str) : epV s = .tuple [.int .i64 (epK s), .bool (epP s), .bool (epO s)] := by unfold epV epK epP epO; cases epL s <;> rfl
def dualN (s : Str) : Str := if epO s = true then nameL (epK s) (!(epP s)) else []
theorem dualV_eq (s : Str) : dualV s = .tuple [.str (dualN s), .bool (epO s)] := by unfold dualV dualN epO epK epP; cases epL s <;> rfl
end Go.Duo

namespace Go.Duo
open Go
section
variable {P : Program} {gl : Nat → V} {r : Option Nat} {e : Env} {st : List O} {w w' : World} {s : S} {Q : Exit → Env → List O → Prop}
/-- More may be known of cells. -/
theorem Rep.reK {K' : Nat → Nat → Prop} (hk : Keeps w s.K w' K') {v : V} {x : Value} (h : Rep w s v x) : Rep w' { s with K := K' } v x := by
  induction h with
  | pure v x hp => exact .pure v x (hp.keeps hk)
  | undef x => exact .undef x
  | agg cs xs hl _ ih => exact .agg cs xs hl ih
  | tuple cs xs hl _ ih => exact .tuple cs xs hl ih
  | func fn fs cs xs ys hl hl' _ _ ih ih' => exact .func fn fs cs xs ys hl hl' ih ih'
  | iface t v x _ ih => exact .iface t v x ih
  | tok es id x hp ht => exact .tok es id x (hp.keeps hk) ht
  | ref id ver x h1 hr => exact .ref id ver x h1 hr
  | ptr id off b hb => exact .ptr id off b hb
  | rptr id ver off x h1 hr => exact .rptr id ver off x h1 hr
  | map id b hb => exact .map id b hb
  | yld id l F J Jx hb => exact .yld id l F J Jx hb
theorem ObjOK.reK {K' : Nat → Nat → Prop} (hk : Keeps w s.K w' K') {o : O} {g : Gh} (hos : w'.os = w.os) (htape : w'.tape = w.tape) (hout : w'.output = w.output) (hsize : w.heap.size ≤ w'.heap.size)
    (hb : o.lives = true → ∀ b, g.at = some b → w'.heap[b]? = w.heap[b]?)
    (hF : ∀ l F J Jx xs i go, g = .yl l F J Jx → o = .yld xs i go → (∀ b, F b → w'.heap[b]? = w.heap[b]?) ∧ (∀ b o, K' b o → s.K b o ∨ (l < b ∧ ¬ F b)) ∧ (∀ b, b ≤ l → w'.heap[b]? = w.heap[b]?) ∧ (∀ b o, K' b o → b < w'.heap.size))
    (h : ObjOK P w s o g) : ObjOK P w' { s with K := K' } o g := by
  cases o <;> cases g <;> simp only [ObjOK] at h ⊢
  · obtain ⟨arr, ha, hl, hr⟩ := h
    exact ⟨arr, (hb rfl _ rfl).trans ha, hl, fun i c x hc hx => (hr i c x hc hx).reK hk⟩
  · obtain ⟨es, clock, ha, h0, hv, h1, h2⟩ := h
    exact ⟨es, clock, (hb rfl _ rfl).trans ha, h0, hv, fun i c e hc he => (h1 i c e hc he).keeps hk, fun i c e hc he => (h2 i c e hc he).reK hk⟩
  · obtain ⟨xs, h1, h2⟩ := h
    refine ⟨xs, h1, ?_⟩
    rcases h2 with h2 | ⟨g, cap, cur, rfl, h3, h4, h5⟩
    · exact .inl h2
    · exact .inr ⟨g, cap, cur, rfl, h3, (hb rfl g rfl).trans h4, h5⟩
  · obtain ⟨xs, ⟨h1, h2⟩, h6, h7, h8, h9⟩ := h
    refine ⟨xs, ⟨h1, ?_⟩, h6, h7, h8, fun j c y hc hy => (h9 j c y hc hy).keeps hk⟩
    rcases h2 with h2 | ⟨g, cap, cur, rfl, h3, h4, h5⟩
    · exact .inl h2
    · exact .inr ⟨g, cap, cur, rfl, h3, (hb rfl g rfl).trans h4, h5⟩
  · obtain ⟨h1, h2, h3, h4⟩ := h
    obtain ⟨k1, k2, k3, k4⟩ := hF _ _ _ _ _ _ _ rfl rfl
    exact ⟨h2.stable _ _ _ _ _ _ _ h1 k1 hos htape hout hsize hk k2 k3 k4, h2, Nat.lt_of_lt_of_le h3 hsize, h4⟩
/-- What the owner of the loop bears from round to round. -/
def RJ (P : Program) (gl : Nat → V) (w0 : World) (s0 : S) (rc : Loop) (I : List O → Prop) (F : Nat → Prop) (K : Nat → Nat → Prop) (W : World) : Prop :=
  ∃ s' : S, s'.K = K ∧ Sim P gl W s' ∧ Evolve w0 s0 W s' ∧ I s'.st ∧ (∀ b, F b ↔ (s'.mine b ∨ s'.foreign b ∨ b = w0.heap.size ∨ b = w0.heap.size + 1)) ∧
    W.heap[w0.heap.size]? = some (.deferred (some [])) ∧ W.heap[w0.heap.size + 1]? = some (.loop rc) ∧
    (∀ b, b = w0.heap.size ∨ b = w0.heap.size + 1 → ¬ s'.mine b ∧ ¬ s'.foreign b ∧ ∀ o, ¬ K b o)
theorem RJ.stable {w0 : World} {s0 : S} {rc : Loop} {I : List O → Prop} (hs0 : Sim P gl w0 s0) {F : Nat → Prop} {K K' : Nat → Nat → Prop} {W W' : World} (h : RJ P gl w0 s0 rc I F K W) (hF : ∀ b, F b → W'.heap[b]? = W.heap[b]?) (hos : W'.os = W.os) (htape : W'.tape = W.tape) (hout : W'.output = W.output)
    (hsize : W.heap.size ≤ W'.heap.size) (hk : Keeps W K W' K') (hnew : ∀ b o, K' b o → K b o ∨ (w0.heap.size + 1 < b ∧ ¬ F b)) (hold : ∀ b, b ≤ w0.heap.size + 1 → W'.heap[b]? = W.heap[b]?) (hkin : ∀ b o, K' b o → b < W'.heap.size) : RJ P gl w0 s0 rc I F K' W' := by
  obtain ⟨s', rfl, hS, hE, hI, hFi, hD, hl, hno⟩ := h
  have hmF : ∀ b, s'.mine b → F b := fun b hb => (hFi b).2 (.inl hb)
  have hfF : ∀ b, s'.foreign b → F b := fun b hb => (hFi b).2 (.inr (.inl hb))
  have hlate : s'.late (w0.heap.size + 1) := (hs0.late (Nat.le_succ _)).evolve hE hs0.len
  refine ⟨{ s' with K := K' }, rfl, ?_, ?_, hI, hFi, (hold _ (by omega)).trans hD, (hold _ (by omega)).trans hl, fun b hb => ⟨(hno b hb).1, (hno b hb).2.1, fun o hko => ?_⟩⟩
  · refine ⟨hS.len, fun i o g ho hg => ?_, hS.inj, fun i b o ob hi hob hwr hko => ?_, hkin, fun b hb => ⟨Nat.lt_of_lt_of_le (hS.fgn b hb).1 hsize, (hS.fgn b hb).2⟩, fun g => (hS.glob g).imp (fun h => h) fun k => globKeeps hk k⟩
    · refine (hS.obj i o g ho hg).reK hk hos htape hout hsize (fun hlv b hb => hF b (hmF b ⟨i, o, g, ho, hlv, hg, hb⟩)) (fun l F2 J Jx xs k go hg' ho' => ?_)
      subst hg' ho'
      have hll := hlate i xs k l go F2 J Jx ho hg
      have hsub : ∀ b, F2 b → F b := fun b hb => hfF b ⟨i, xs, k, l, go, F2, J, Jx, ho, hg, hb⟩
      refine ⟨fun b hb => hF b (hsub b hb), fun b o hko => ?_, fun b hb => hold b (by omega), hkin⟩
      rcases hnew b o hko with h | ⟨h1, h2⟩
      · exact .inl h
      · exact .inr ⟨by omega, fun hb => h2 (hsub b hb)⟩
    · rcases hnew b o hko with h | ⟨_, h2⟩
      · exact hS.kout i b o ob hi hob hwr h
      · exact h2 (hmF b ⟨i, hi⟩)
  · refine ⟨hos.trans hE.os, htape.trans hE.tape, hout.trans hE.output, Nat.le_trans hE.size hsize, hE.keeps.trans hk, fun b o hko => ?_, fun b hb hm hf => (hold b (by omega)).trans (hE.block b hb hm hf), hE.len, hE.objs, hE.fresh, hE.noyld⟩
    rcases hnew b o hko with h | ⟨h1, _⟩
    · exact hE.knew b o h
    · exact .inr (.inl (by omega))
  · rcases hnew b o hko with h | ⟨h1, _⟩
    · exact (hno b hb).2.2 o h
    · rcases hb with rfl | rfl <;> omega
theorem Marks.putObj {n0 n : Nat} {ds : List Deferred} {o' : Obj} {rc : Loop} (hn : w.heap[n]? = some (.loop rc)) (hm : Marks w s n0 ds) : Marks (w.putObj n o') s n0 ds := by
  refine ⟨fun d hd => ?_, hm.2⟩
  obtain ⟨r, h1, h2, h3, h4, h5⟩ := hm.1 d hd
  have hne : r ≠ n := fun he => by subst he; rw [hn] at h3; cases h3
  exact ⟨r, h1, h2, (World.putObj_heap_other hne).trans h3, h4, h5⟩
end
end Go.Duo

namespace Go.Duo
open Go
section
variable {P : Program} {gl : Nat → V} {r : Option Nat} {e : Env} {st : List O} {w w' : World} {s s' : S} {ops : Array Oper} {m : Nat}
/-- What an operation gives, and what it makes of the objects. -/
def OpB2 (P : Program) (gl : Nat → V) (r : Option Nat) (ops : Array Oper) (o : Oper) (e : Env) (st st' : List O) (v : V) (u : Option ((Nat → V) × O)) : Prop :=
  ∀ e' : Env, (∀ t ∈ o.looksAt ops, e'.get t = e.get t) → ∀ (n0 : Nat) (w : World) (s : S) (a : Act) (next : Act → World → Prop) (Q : Exit → Act → World → Prop), n0 ≤ w.heap.size → s.st = st → Sim P gl w s → ActOK w s n0 e' a →
    (∀ x w' s', Sim P gl w' s' → Evolve w s w' s' → s'.st = st' → Rep w' s' v x → (∀ f o, u = some (f, o) → ∃ b, w.heap.size ≤ b ∧ Pend P w' s' f o x b) → next (a.put o.dst x) w') →
    if Region.wanted o (yielded ops a.tmps) = true then o.wpIn (Fr r) 0 P a w next Q else (∀ f, o.about P w a.eval = some f → (Fr r).fn f) ∧ next (a.put o.dst undef) w
/-- What holds while the first operations come in whatever order. -/
structure InvQ (S : Bool → List O) (q : Nat) (P : Program) (gl : Nat → V) (ops : Array Oper) (m : Nat) (res : List (V × Option ((Nat → V) × O))) (e : Env) (n0 : Nat) (w0 : World) (s0 : Duo.S) (L : Array Bool) (a : Act) (w : World) (s : Duo.S) (B : Nat → Nat) : Prop where
  closed : Closed ops L
  pre : ∀ i, L.getD i false = true → i < m
  st : s.st = S (L.getD q false)
  sim : Sim P gl w s
  ev : Evolve w0 s0 w s
  n : e.n ≤ a.tmps.size
  marks : Marks w s n0 a.defers
  old : ∀ t, (∀ j, j < m → dstAt ops j ≠ some t) → Rep w s (e.get t) (a.tmps.getD t undef)
  new : ∀ (j : Nat) (t : Tmp) (v : V) (u : Option ((Nat → V) × O)), L.getD j false = true → dstAt ops j = some t → res[j]? = some (v, u) → Rep w s v (a.tmps.getD t undef) ∧ ∀ f o, u = some (f, o) → w0.heap.size ≤ B j ∧ Pend P w s f o (a.tmps.getD t undef) (B j)
  inj : ∀ (j j' : Nat) (v v' : V) (fo fo' : (Nat → V) × O), L.getD j false = true → L.getD j' false = true → res[j]? = some (v, some fo) → res[j']? = some (v', some fo') → B j = B j' → j = j'
theorem anyQ {S : Bool → List O} {q : Nat} {res : List (V × Option ((Nat → V) × O))} {n0 : Nat} {w0 : World} {s0 : Duo.S} (hok : anyOK ops m = true) (hqm : q < m) (hrl : res.length = m)
    (hat : ∀ (i : Nat) (o : Oper), (ops.toList.take m)[i]? = some o → ∃ v u, res[i]? = some (v, u) ∧ (envOf ((ops.toList.take m).take i) (res.take i) e).fits o.dst ∧ (u.isSome = true → o.dst.isSome = true) ∧
      ∀ b, (b = true → i ≠ q ∧ dep ops q i = false) → OpB2 P gl r ops o (envOf ((ops.toList.take m).take i) (res.take i) e) (S b) (S (b || decide (i = q))) v u)
    (hn0 : n0 ≤ w0.heap.size) (hlen0 : s0.st.length ≤ (S true).length) (hwf0 : s0.g.length = s0.st.length) {Q : Exit → Act → World → Prop}
    (hfin : ∀ a w s, Sim P gl w s → Evolve w0 s0 w s → ActOK w s n0 (applyUps (upsOf (ops.toList.take m) res) (envOf (ops.toList.take m) res e) (S true)).1 a → s.st = (applyUps (upsOf (ops.toList.take m) res) (envOf (ops.toList.take m) res e) (S true)).2 → wpOpsIn (Fr r) 0 P ops Q (List.range' m (ops.size - m)) a w) :
    ∀ (fuel : Nat) (L : Array Bool) (a : Act) (w : World) (s : Duo.S) (B : Nat → Nat), InvQ S q P gl ops m res e n0 w0 s0 L a w s B → L.count false ≤ fuel → wpAnyIn (Fr r) 0 P .any ops Q fuel L a w := by
  obtain ⟨hm, hdown, hlook, hdst, hrest⟩ := anyOK_spec hok
  have hl : (ops.toList.take m).length = m := by simp; omega
  have hget : ∀ i, i < m → (ops.toList.take m)[i]? = ops[i]? := fun i hi => by rw [List.getElem?_take_of_lt hi]; simp
  -- what a temporary holds behind the first i, one behind the other
  have henv : ∀ (i : Nat) (t : Tmp), i ≤ m → ((∀ j, j < m → dstAt ops j ≠ some t) → (envOf ((ops.toList.take m).take i) (res.take i) e).get t = e.get t) ∧
      ∀ j v u, j < i → dstAt ops j = some t → res[j]? = some (v, u) → (envOf ((ops.toList.take m).take i) (res.take i) e).get t = v := fun i t hi => by
    have hg : ∀ k o, ((ops.toList.take m).take i)[k]? = some o → k < i ∧ dstAt ops k = o.dst := fun k o hk => by
      have hki : k < i := by
        have := (List.getElem?_eq_some_iff.1 hk).1
        simp at this
        omega
      rw [List.getElem?_take_of_lt hki, hget k (by omega)] at hk
      exact ⟨hki, by simp [dstAt, hk]⟩
    refine ⟨fun h => envOf_other _ _ _ _ fun k o hk he => ?_, fun j v u hj hd hr => ?_⟩
    · obtain ⟨h1, h2⟩ := hg k o hk
      exact h k (by omega) (h2.trans he)
    · have hjs : j < ops.size := by omega
      refine envOf_at _ _ _ _ j ops[j] v u (by rw [List.getElem?_take_of_lt hj, hget j (by omega)]; exact Array.getElem?_eq_getElem hjs) (by rw [List.getElem?_take_of_lt hj]; exact hr) (by simpa [dstAt, hjs] using hd) fun k o hk ho he => ?_
      obtain ⟨h1, h2⟩ := hg k o ho
      have := hdst j k t (by omega) (by omega) hd (h2.trans he)
      omega
  -- the end of the first phase
  have hdone : ∀ (fuel : Nat) (L : Array Bool) (a : Act) (w : World) (s : Duo.S) (B : Nat → Nat), InvQ S q P gl ops m res e n0 w0 s0 L a w s B → L.count false ≤ fuel → (∀ j, j < m → L.getD j false = true) → wpAnyIn (Fr r) 0 P .any ops Q fuel L a w := fun fuel L a w s B hI hf hall => by
    have hA : ActOK w s n0 (envOf (ops.toList.take m) res e) a := by
      refine ⟨by rw [envOf_n]; exact hI.n, fun t => ?_, hI.marks⟩
      obtain ⟨g1, g2⟩ := henv m t (Nat.le_refl _)
      have t1 : (ops.toList.take m).take m = ops.toList.take m := List.take_of_length_le (by omega)
      have t2 : res.take m = res := List.take_of_length_le (by omega)
      rw [t1, t2] at g1 g2
      by_cases hex : ∃ j, j < m ∧ dstAt ops j = some t
      · obtain ⟨j, hj, hd⟩ := hex
        obtain ⟨v, u, hr, _⟩ := hat j (ops[j]'(by omega)) (by rw [hget j hj]; exact Array.getElem?_eq_getElem _)
        rw [g2 j v u hj hd hr]
        exact (hI.new j t v u (hall j hj) hd hr).1
      · rw [g1 fun j hj hd => hex ⟨j, hj, hd⟩]
        exact hI.old t fun j hj hd => hex ⟨j, hj, hd⟩
    obtain ⟨bs, q1, q2, _, q4⟩ := ups_blocks (P := P) (w := w) (s := s) (w0 := w0) (a := a) (B := B) (ops.toList.take m) res 0 (fun j o v f ob d ho hr hd => by
      have hj : j < m := by have := (List.getElem?_eq_some_iff.1 ho).1; omega
      rw [hget j hj] at ho
      have := (hI.new j d v (some (f, ob)) (hall j hj) (by simp [dstAt, ho, hd]) hr).2 f ob rfl
      simpa using this) (fun j j' v v' fo fo' hr hr' he => by
      have hj : j < m := by have := (List.getElem?_eq_some_iff.1 hr).1; omega
      have hj' : j' < m := by have := (List.getElem?_eq_some_iff.1 hr').1; omega
      exact hI.inj j j' v v' fo fo' (hall j hj) (hall j' hj') hr hr' (by simpa using he))
    have hstE : s.st = S true := by rw [hI.st, hall q hqm]
    have hlen1 : s0.st.length ≤ s.st.length := by rw [hstE]; exact hlen0
    obtain ⟨s', k1, k2, k3, k4⟩ := register (upsOf (ops.toList.take m) res) bs s _ hI.sim hI.ev hlen1 hA q1 q2 q4
    rw [hstE] at k3 k4
    refine chain (m := m) (fun i hi hmi => (hrest (by omega)).2 i hi hmi) hdown (ops.size - m) m (by omega) (Nat.le_refl _) fuel L a w hI.closed.1 (fun i hi => ⟨fun h => hI.pre i h, fun h => hall i h⟩) hf (hfin a w s' k1 k2 k3 k4)
  intro fuel
  induction fuel with
  | zero =>
    intro L a w s B hI hf
    refine hdone 0 L a w s B hI hf fun j hj => ?_
    cases hx : L.getD j false with
    | true => rfl
    | false =>
      have := count_set (L := L) (i := j) (by rw [hI.closed.1]; omega) hx
      omega
  | succ fuel ih =>
    intro L a w s B hI hf
    by_cases hall : ∀ j, j < m → L.getD j false = true
    · exact hdone _ L a w s B hI hf hall
    · -- some operation of the first phase is ready
      have hsize := hI.closed.1
      have hmin : ∃ j, j < m ∧ j ∈ Region.ready .any ops L := by
        have hex : ∃ j, j < m ∧ L.getD j false = false := by
          apply Classical.byContradiction
          intro hno
          refine hall fun j hj => ?_
          cases hx : L.getD j false with
          | true => rfl
          | false => exact absurd ⟨j, hj, hx⟩ hno
        obtain ⟨j, hj⟩ := hex
        induction j using Nat.strongRecOn with
        | _ j ihj =>
          by_cases hd : ∃ i, i < j ∧ L.getD i false = false
          · obtain ⟨i, hi, hx⟩ := hd
            exact ihj i hi ⟨by omega, hx⟩
          · refine ⟨j, hj.1, (ready_spec hsize).2 ⟨by omega, hj.2, fun i hdep => ?_⟩⟩
            cases hx : L.getD i false with
            | true => rfl
            | false => exact absurd ⟨i, hdown j i hdep, hx⟩ hd
      obtain ⟨j0, _, hj0⟩ := hmin
      refine ⟨fun h0 => by rw [h0] at hj0; simp at hj0, fun i hi => ?_⟩
      obtain ⟨hilt, hifalse, hideps⟩ := (ready_spec hsize).1 hi
      have him : i < m := by
        apply Classical.byContradiction
        intro hge
        by_cases heq : i = m
        · subst heq
          refine hall fun j hj => ?_
          obtain ⟨hsucc, _⟩ := hrest hilt
          have key : ∀ d j, j < i → i - j = d → L.getD j false = true := by
            intro d
            induction d using Nat.strongRecOn with
            | _ d ihd =>
              intro j hj hd
              obtain ⟨j', h1, h2, h3⟩ := hsucc j hj
              by_cases hj' : j' = i
              · subst hj'; exact hideps j h3
              · exact hI.closed.2 j' j (ihd (i - j') (by omega) j' (by omega) rfl) h3
          exact key _ j hj rfl
        · have := hideps _ ((hrest (by omega)).2 i hilt (by omega))
          have := hI.pre _ this
          omega
      have hoi : ops[i]? = some ops[i] := Array.getElem?_eq_getElem hilt
      obtain ⟨v, u, hres, hfit, hud, hB⟩ := hat i ops[i] (by rw [hget i him]; exact hoi)
      -- what the operation looks at is known
      have hA : ActOK w s n0 ⟨e.n, ((ops[i]).looksAt ops).map fun t => (t, (envOf ((ops.toList.take m).take i) (res.take i) e).get t)⟩ a := by
        refine ⟨hI.n, fun t => ?_, hI.marks⟩
        show Rep w s (getM _ t) _
        rw [getM_map (fun t => (envOf ((ops.toList.take m).take i) (res.take i) e).get t)]
        split
        · rename_i hlk
          obtain ⟨g1, g2⟩ := henv i t (by omega)
          by_cases hex : ∃ j, j < m ∧ dstAt ops j = some t
          · obtain ⟨j, hj, hd⟩ := hex
            have hdep := hlook i j _ t him hj hoi hlk hd
            obtain ⟨vj, uj, hrj, _⟩ := hat j (ops[j]'(by omega)) (by rw [hget j hj]; exact Array.getElem?_eq_getElem _)
            rw [g2 j vj uj (hdown i j hdep) hd hrj]
            exact (hI.new j t vj uj (hideps j hdep) hd hrj).1
          · rw [g1 fun j hj hd => hex ⟨j, hj, hd⟩]
            exact hI.old t fun j hj hd => hex ⟨j, hj, hd⟩
        · exact .undef _
      have hbq : L.getD q false = true → i ≠ q ∧ dep ops q i = false := fun hb => by
        refine ⟨fun he => absurd hb (by subst he; rw [hifalse]; simp), ?_⟩
        cases hd : dep ops q i with
        | false => rfl
        | true => have := hI.closed.2 q i hb hd; rw [hifalse] at this; cases this
      have hstep := hB (L.getD q false) hbq ⟨e.n, ((ops[i]).looksAt ops).map fun t => (t, (envOf ((ops.toList.take m).take i) (res.take i) e).get t)⟩ (fun t ht => by show getM _ t = _; rw [getM_map (fun t => (envOf ((ops.toList.take m).take i) (res.take i) e).get t), if_pos ht]) n0 w s a
        (wpAnyIn (Fr r) 0 P .any ops Q fuel (L.setIfInBounds i true)) Q (Nat.le_trans hn0 hI.ev.size) hI.st hI.sim hA (fun x w' s' k1 k2 k3 k4 k5 => ?_)
      · unfold wpOpIn
        rw [hoi]
        exact hstep
      · have hcs := count_set (L := L) (i := i) (by omega) hifalse
        have hwf := hI.sim.wf
        -- the block of what has come
        obtain ⟨bn, hbn⟩ : ∃ bn, ∀ f o, u = some (f, o) → w.heap.size ≤ bn ∧ Pend P w' s' f o x bn := by
          cases u with
          | none => exact ⟨0, by simp⟩
          | some fo =>
            obtain ⟨f, o⟩ := fo
            obtain ⟨bn, h1, h2⟩ := k5 f o rfl
            exact ⟨bn, fun f' o' he => by simp only [Option.some.injEq, Prod.mk.injEq] at he; obtain ⟨rfl, rfl⟩ := he; exact ⟨h1, h2⟩⟩
        have hdi : ∀ j t, j < m → j ≠ i → dstAt ops j = some t → (ops[i]).dst ≠ some t := fun j t hj hne hd he => hne (hdst j i t hj him hd (by simp [dstAt, hilt, he]))
        refine ih _ (a.put (ops[i]).dst x) w' s' (fun j => if j = i then bn else B j) ⟨hI.closed.set hi, fun j hj => ?_, k3.trans (by rw [getD_set (by omega)]; by_cases hiq : i = q <;> simp [hiq]), k1, hI.ev.trans hwf0 hI.sim.len k2, by rw [put_size]; exact hI.n, by rw [put_defers]; exact hI.marks.evolve k2 hwf, fun t ht => ?_, fun j t vj uj hL hd hrj => ?_, fun j j' v1 v2 fo fo' hL hL' hr hr' hBe => ?_⟩ (by omega)
        · rw [getD_set (by omega)] at hj
          split at hj
          · rename_i he; subst he; exact him
          · exact hI.pre j hj
        · rw [put_other (fun he => ht i him (by simp [dstAt, hilt, he]))]
          exact (hI.old t ht).evolve k2 hwf
        · rw [getD_set (by omega)] at hL
          by_cases hji : j = i
          · subst hji
            rw [hres] at hrj
            simp only [Option.some.injEq, Prod.mk.injEq] at hrj
            obtain ⟨rfl, rfl⟩ := hrj
            have hd' : (ops[j]).dst = some t := by simpa [dstAt, hilt] using hd
            have hlt : t < a.tmps.size := by
              rw [hd'] at hfit
              have h1 : t < (envOf ((ops.toList.take m).take j) (res.take j) e).n := hfit
              rw [envOf_n] at h1
              exact Nat.lt_of_lt_of_le h1 hI.n
            rw [hd', put_same hlt]
            refine ⟨k4, fun f o hu => ?_⟩
            rw [if_pos rfl]
            obtain ⟨h1, h2⟩ := hbn f o hu
            exact ⟨Nat.le_trans hI.ev.size h1, h2⟩
          · rw [if_neg (fun he => hji he.symm)] at hL
            have hjm := hI.pre j hL
            rw [put_other (hdi j t hjm hji hd)]
            obtain ⟨h1, h2⟩ := hI.new j t vj uj hL hd hrj
            refine ⟨h1.evolve k2 hwf, fun f o hu => ?_⟩
            rw [if_neg hji]
            obtain ⟨h3, h4⟩ := h2 f o hu
            exact ⟨h3, h4.evolve hI.sim k2⟩
        · rw [getD_set (by omega)] at hL hL'
          have hlt : ∀ j v fo, j ≠ i → L.getD j false = true → res[j]? = some (v, some fo) → B j < w.heap.size := fun j v fo hji hL hr => by
            have hjm := hI.pre j hL
            obtain ⟨v', u', hr', _, hud', _⟩ := hat j (ops[j]'(by omega)) (by rw [hget j hjm]; exact Array.getElem?_eq_getElem _)
            rw [hr] at hr'
            simp only [Option.some.injEq, Prod.mk.injEq] at hr'
            obtain ⟨rfl, rfl⟩ := hr'
            obtain ⟨d, hd⟩ := Option.isSome_iff_exists.1 (hud' rfl)
            obtain ⟨_, h2⟩ := hI.new j d v (some fo) hL (by simp [dstAt, show j < ops.size by omega, hd]) hr
            obtain ⟨_, _, _, h3, _⟩ := (h2 fo.1 fo.2 rfl).2
            exact h3
          have hnew : ∀ v fo, res[i]? = some (v, some fo) → w.heap.size ≤ bn := fun v' fo hr => by
            rw [hres] at hr
            simp only [Option.some.injEq, Prod.mk.injEq] at hr
            exact (hbn fo.1 fo.2 hr.2).1
          by_cases h1 : j = i
          · by_cases h2 : j' = i
            · omega
            · subst h1
              rw [if_pos rfl, if_neg h2] at hBe
              rw [if_neg (fun he => h2 he.symm)] at hL'
              have := hlt j' v2 fo' h2 hL' hr'
              have := hnew v1 fo hr
              omega
          · rw [if_neg (fun he => h1 he.symm)] at hL
            by_cases h2 : j' = i
            · subst h2
              rw [if_neg h1, if_pos rfl] at hBe
              have := hlt j v1 fo h1 hL hr
              have := hnew v2 fo' hr'
              omega
            · rw [if_neg h1, if_neg h2] at hBe
              rw [if_neg (fun he => h2 he.symm)] at hL'
              exact hI.inj j j' v1 v2 fo fo' hL hL' hr hr' hBe
def nopO (o : Oper) : Oper := { o with op := .assign (.const (.bool true)), dst := none, guard := none }
/-- The operations that may come behind the store. -/
def lateOK (ops : Array Oper) (m q : Nat) (ls : List Nat) : Bool := (List.range m).all fun i => i == q || dep ops q i || ls.contains i
/-- They give the same behind the store. -/
def awS (P : Program) (gl : Nat → V) (ops : Array Oper) (e1 : Env) (st' : List O) : List Nat → Prop
  | [] => True
  | i :: ls => (∃ o d, ops[i]? = some o ∧ o.guard = none ∧ o.dst = some d ∧ stepA P gl (e1.ev gl) st' o.op fun v u => v = e1.get d ∧ u = none) ∧ awS P gl ops e1 st' ls
theorem awS_mem {e1 : Env} {st' : List O} : ∀ {ls : List Nat}, awS P gl ops e1 st' ls → ∀ i ∈ ls, ∃ o d, ops[i]? = some o ∧ o.guard = none ∧ o.dst = some d ∧ stepA P gl (e1.ev gl) st' o.op fun v u => v = e1.get d ∧ u = none := by
  intro ls
  induction ls with
  | nil => intro _ i hi; cases hi
  | cons j ls ih =>
    intro h i hi
    rcases List.mem_cons.1 hi with rfl | hi
    · exact h.1
    · exact ih h.2 i hi
theorem envOf_dst : ∀ (l l' : List Oper) (res : List (V × Option ((Nat → V) × O))) (e : Env), l.map (·.dst) = l'.map (·.dst) → envOf l res e = envOf l' res e ∧ upsOf l res = upsOf l' res := by
  intro l
  induction l with
  | nil => intro l' res e h; cases l' with
    | nil => exact ⟨rfl, rfl⟩
    | cons => simp at h
  | cons o l ih =>
    intro l' res e h
    cases l' with
    | nil => simp at h
    | cons o' l' =>
      simp only [List.map_cons, List.cons.injEq] at h
      cases res with
      | nil => exact ⟨rfl, rfl⟩
      | cons p res =>
        obtain ⟨v, u⟩ := p
        simp only [envOf, upsOf, h.1]
        exact ⟨(ih l' res _ h.2).1, by rw [(ih l' res e h.2).2]⟩
theorem envOf_set : ∀ (l : List Oper) (res : List (V × Option ((Nat → V) × O))) (e : Env) (q : Nat) (p : V × Option ((Nat → V) × O)), (∀ o, l[q]? = some o → o.dst = none) → envOf l (res.set q p) e = envOf l res e ∧ upsOf l (res.set q p) = upsOf l res := by
  intro l
  induction l with
  | nil => intro res e q p _; cases res <;> cases q <;> exact ⟨rfl, rfl⟩
  | cons o l ih =>
    intro res e q p h
    cases res with
    | nil => exact ⟨rfl, rfl⟩
    | cons p0 res =>
      obtain ⟨v, u⟩ := p0
      cases q with
      | zero =>
        have := h o rfl
        obtain ⟨v', u'⟩ := p
        simp only [List.set_cons_zero, envOf, upsOf, this]
        refine ⟨rfl, ?_⟩
        cases u <;> cases u' <;> rfl
      | succ q =>
        have ih' := fun e => ih res e q p (fun o' ho' => h o' (by simpa using ho'))
        simp only [List.set_cons_succ, envOf, upsOf]
        exact ⟨(ih' _).1, by rw [(ih' e).2]⟩
theorem applyUps_len : ∀ (ups : List Up) (e : Env) (st : List O), (applyUps ups e st).2.length = st.length + ups.length := by
  intro ups
  induction ups with
  | nil => intro e st; rfl
  | cons u ups ih => intro e st; obtain ⟨d, f, o⟩ := u; rw [applyUps, ih]; simp; omega
theorem upsOf_nil : ∀ (l : List Oper) (res : List (V × Option ((Nat → V) × O))), upsOf l res = [] → ∀ (i : Nat) (o : Oper) (v : V) (u : Option ((Nat → V) × O)), l[i]? = some o → res[i]? = some (v, u) → o.dst.isSome = true → u = none := by
  intro l
  induction l with
  | nil => intro res _ i o v u h; simp at h
  | cons o l ih =>
    intro res h i o' v u h1 h2 h3
    cases res with
    | nil => simp at h2
    | cons p res =>
      obtain ⟨v0, u0⟩ := p
      simp only [upsOf, List.append_eq_nil_iff] at h
      cases i with
      | zero =>
        simp only [List.getElem?_cons_zero, Option.some.injEq, Prod.mk.injEq] at h1 h2
        subst h1
        obtain ⟨rfl, rfl⟩ := h2
        obtain ⟨d, hd⟩ := Option.isSome_iff_exists.1 h3
        cases u0 with
        | none => rfl
        | some fo => obtain ⟨f, ob⟩ := fo; rw [hd] at h; simp [upOf] at h
      | succ i => exact ih res h.2 i o' v u (by simpa using h1) (by simpa using h2) h3
theorem env_agree (hok : anyOK ops m = true) {res : List (V × Option ((Nat → V) × O))} (hlen : res.length = m) {i : Nat} {o : Oper} {t : Tmp} (hi : i < m) (ho : ops[i]? = some o) (ht : t ∈ o.looksAt ops) :
    (envOf (ops.toList.take m) res e).get t = (envOf ((ops.toList.take m).take i) (res.take i) e).get t := by
  obtain ⟨hm, hdown, hlook, hdst, _⟩ := anyOK_spec hok
  have hget : ∀ j, j < m → (ops.toList.take m)[j]? = ops[j]? := fun j hj => by rw [List.getElem?_take_of_lt hj]; simp
  by_cases hex : ∃ j, j < m ∧ dstAt ops j = some t
  · obtain ⟨j, hj, hd⟩ := hex
    have hji := hdown i j (hlook i j o t hi hj ho ht hd)
    obtain ⟨v, u, hrj⟩ : ∃ v u, res[j]? = some (v, u) := ⟨(res[j]'(by omega)).1, (res[j]'(by omega)).2, List.getElem?_eq_getElem _⟩
    have hoj : ops[j]? = some (ops[j]'(by omega)) := Array.getElem?_eq_getElem _
    have hdj : (ops[j]'(by omega)).dst = some t := by simpa [dstAt, hoj] using hd
    have hno : ∀ (k : Nat) (o' : Oper), j < k → (ops.toList.take m)[k]? = some o' → o'.dst ≠ some t := fun k o' hk ho' he => by
      have hkm : k < m := by have := (List.getElem?_eq_some_iff.1 ho').1; simp at this; omega
      rw [hget k hkm] at ho'
      have := hdst j k t hj hkm hd (by simp [dstAt, ho', he])
      omega
    rw [envOf_at _ _ _ _ j _ v u ((hget j hj).trans hoj) hrj hdj hno,
      envOf_at _ _ _ _ j _ v u (by rw [List.getElem?_take_of_lt hji, hget j hj]; exact hoj) (by rw [List.getElem?_take_of_lt hji]; exact hrj) hdj fun k o' hk ho' => by
        have hki : k < i := by have := (List.getElem?_eq_some_iff.1 ho').1; simp at this; omega
        rw [List.getElem?_take_of_lt hki] at ho'
        exact hno k o' hk ho']
  · have hno : ∀ (k : Nat) (o' : Oper), (ops.toList.take m)[k]? = some o' → o'.dst ≠ some t := fun k o' ho' he => by
      have hkm : k < m := by have := (List.getElem?_eq_some_iff.1 ho').1; simp at this; omega
      rw [hget k hkm] at ho'
      exact hex ⟨k, hkm, by simp [dstAt, ho', he]⟩
    rw [envOf_other _ _ _ _ hno, envOf_other _ _ _ _ fun k o' ho' => by
      have hki : k < i := by have := (List.getElem?_eq_some_iff.1 ho').1; simp at this; omega
      rw [List.getElem?_take_of_lt hki] at ho'
      exact hno k o' ho']
/-- **A region that draws its order, with a store among the first.** q: the store; ls: what may come behind it. -/
theorem AW.anyS {id : Nat} {Q : Exit → Env → List O → Prop} (hfol : P.follows .mixedOrders = true) (m q : Nat) (ls : List Nat) (oq : Oper) (hok : anyOK ops m = true) (hqm : q < m) (hoq0 : ops.toList[q]? = some oq) (hg : oq.guard = none) (hd : oq.dst = none) (hls : lateOK ops m q ls = true)
    (h : awA P gl ops ((ops.toList.take m).set q (nopO oq)) e st [] fun e1 s1 => s1 = st ∧ ∃ st', step1 P gl (e1.ev gl) st oq.op (fun v s2 => v = .undef ∧ s2 = st') ∧ st.length = st'.length ∧ awS P gl ops e1 st' ls ∧ awL P gl ops (ops.toList.drop m) e1 st' (Q .normal)) : AW P gl r (.region id ops true) Q e st := fun n0 w s a hn hst hs ha => by
  have hoq : ops[q]? = some oq := by simpa using hoq0
  refine wpIn_region_any hfol ?_
  have hE0 := Evolve.drawn (w := w) hs.wf (w.drawn + 1)
  have hS0 := hs.drawn (w.drawn + 1)
  have hA0 := ha.evolve hE0 hs.wf
  obtain ⟨res0, hrun, hK⟩ := awA_run (r := r) _ _ _ h
  rw [List.nil_append] at hK
  obtain ⟨hm, hdown, hlook, hdstu, hrest0⟩ := anyOK_spec hok
  obtain ⟨l, hl⟩ : ∃ l, ops.toList.take m = l := ⟨_, rfl⟩
  have hll : l.length = m := by rw [← hl]; simp; omega
  have hget : ∀ i, i < m → l[i]? = ops[i]? := fun i hi => by rw [← hl, List.getElem?_take_of_lt hi]; simp
  rw [hl] at hrun hK
  have hmap : ∀ (k : Nat), ((l.set q (nopO oq)).take k).map (·.dst) = (l.take k).map (·.dst) := fun k => by
    apply List.ext_getElem?
    intro j
    simp only [List.getElem?_map, List.getElem?_take]
    split
    · by_cases hj : q = j
      · subst hj
        rw [List.getElem?_set_self (by omega), hget q hqm, hoq]
        simp [nopO, hd]
      · rw [List.getElem?_set_ne hj]
    · rfl
  have hmapA : (l.set q (nopO oq)).map (·.dst) = l.map (·.dst) := by
    have := hmap m
    rwa [List.take_of_length_le (by simp [hll]), List.take_of_length_le (by omega)] at this
  obtain ⟨hlen0, hat0⟩ := runA_at _ _ _ hrun
  rw [List.length_set, hll] at hlen0
  obtain ⟨hd1, hd2⟩ := envOf_dst _ _ res0 e hmapA
  have hqdst : ∀ o, l[q]? = some o → o.dst = none := fun o ho => by rw [hget q hqm, hoq] at ho; cases ho; exact hd
  obtain ⟨res, hres⟩ : ∃ res, res0.set q (.undef, none) = res := ⟨_, rfl⟩
  have hrl : res.length = m := by rw [← hres, List.length_set]; omega
  obtain ⟨hd3, hd4⟩ := envOf_set l res0 e q (.undef, none) hqdst
  rw [hres] at hd3 hd4
  rw [hd1, hd2, ← hd3, ← hd4] at hK
  obtain ⟨hs1, st', hst', hlen', hS, hrest⟩ := hK
  have hups : upsOf l res = [] := by
    have := congrArg List.length hs1
    rw [applyUps_len] at this
    exact List.length_eq_zero_iff.1 (by omega)
  rw [hups] at hs1 hst' hS hrest
  simp only [applyUps] at hst' hS hrest
  have hpre : ∀ i, envOf ((l.set q (nopO oq)).take i) (res0.take i) e = envOf (l.take i) (res.take i) e := fun i => by
    rw [(envOf_dst _ _ (res0.take i) e (hmap i)).1, ← hres, List.take_set]
    refine ((envOf_set (l.take i) (res0.take i) e q (.undef, none) fun o ho => ?_).1).symm
    rw [List.getElem?_take] at ho
    split at ho
    · exact hqdst o ho
    · cases ho
  have hag : ∀ {i : Nat} {o : Oper} {t : Tmp}, i < m → ops[i]? = some o → t ∈ o.looksAt ops → (envOf l res e).get t = (envOf (l.take i) (res.take i) e).get t := fun hi ho ht => by
    have := env_agree (e := e) hok hrl hi ho ht
    rwa [hl] at this
  have hL0 : (Array.replicate ops.size false).getD q false = false := by
    simp only [Array.getD_eq_getD_getElem?, Array.getElem?_replicate]
    split <;> rfl
  refine anyQ (S := fun b => if b then st' else st) (q := q) (res := res) (Q := fun x a' w' => ∃ e' s', Sim P gl w' s' ∧ Evolve w s w' s' ∧ ActOK w' s' n0 e' a' ∧ Q x e' s'.st) hok hqm hrl (fun i o hio => ?_) (w0 := { w with drawn := w.drawn + 1 }) (s0 := s) hn (by rw [hst]; show st.length ≤ st'.length; omega) hs.len (fun a' w' s' k1 k2 k3 k4 => ?_) ops.size _ a _ s (fun _ => 0)
    ⟨⟨by simp, fun i j hi => ?_⟩, fun i hi => ?_, (by rw [hL0]; exact hst), hS0, Evolve.refl hS0.wf, hA0.n, hA0.marks, fun t _ => hA0.get t, fun j t v u hL => ?_, fun j j' v v' fo fo' hL => ?_⟩ (by simp [Array.count_replicate])
  · -- each operation
    rw [hl] at hio ⊢
    have him : i < m := by have := (List.getElem?_eq_some_iff.1 hio).1; omega
    have hoi : ops[i]? = some o := by rw [← hget i him]; exact hio
    by_cases hiq : i = q
    · subst hiq
      have ho : o = oq := by rw [hoq] at hoi; cases hoi; rfl
      subst ho
      refine ⟨.undef, none, by rw [← hres, List.getElem?_set_self (by omega)], by rw [hd]; trivial, by simp, fun b hb => ?_⟩
      cases b with
      | true => exact absurd rfl (hb rfl).1
      | false =>
        simp only [Bool.false_or, decide_true, if_true, Bool.false_eq_true, if_false]
        intro e' he n0' w1 s1 a1 next Q1 hn1 hst1 hs1' ha1 hk1
        rw [if_pos (by simp [Region.wanted, hg])]
        have hstep : step1 P gl (e'.ev gl) st o.op (fun v s2 => v = .undef ∧ s2 = st') := step1_congr (fun x hx => by
          cases x with
          | tmp t =>
            have ht : t ∈ o.looksAt ops := List.mem_append_left _ (List.mem_filterMap.2 ⟨.tmp t, by simpa using hx, rfl⟩)
            exact (hag him hoq ht).trans (he t ht).symm
          | _ => rfl) hst'
        refine step1_sound hstep n0' w1 s1 a1 next Q1 hn1 hst1 hs1' ha1 fun v x w2 s2 j1 j2 j3 ⟨j4, j5⟩ => ?_
        subst j4
        exact hk1 x w2 s2 j1 j2 j5 j3 (by simp)
    · obtain ⟨v, u, hr0, hfit, hus, hB⟩ := hat0 i o (by rw [List.getElem?_set_ne (fun he => hiq he.symm)]; exact hio)
      have hri : res[i]? = some (v, u) := by rw [← hres, List.getElem?_set_ne (fun he => hiq he.symm)]; exact hr0
      rw [hpre i] at hfit hB
      refine ⟨v, u, hri, hfit, hus, fun b hb => ?_⟩
      cases b with
      | false =>
        simp only [Bool.false_or, decide_eq_false hiq, Bool.false_eq_true, if_false]
        exact hB
      | true =>
        simp only [Bool.true_or, if_true]
        have hdq := (hb rfl).2
        have hmem : i ∈ ls := by
          have h1 := List.all_eq_true.1 hls i (List.mem_range.2 him)
          simpa [hiq, hdq] using h1
        obtain ⟨o', d, ho', hg', hdd, hA⟩ := awS_mem hS i hmem
        rw [hoi] at ho'
        cases ho'
        obtain ⟨v', u', ⟨hv', hu'⟩, hA2⟩ := stepA_full (r := r) hA
        have hu : u = none := upsOf_nil l res hups i o v u hio hri (by rw [hdd]; rfl)
        have hve : (envOf l res e).get d = v := envOf_at l res e d i o v u hio hri hdd fun k o' hk ho' he => by
          have hkm : k < m := by have := (List.getElem?_eq_some_iff.1 ho').1; omega
          rw [hget k hkm] at ho'
          have := hdstu i k d him hkm (by simp [dstAt, hoi, hdd]) (by simp [dstAt, ho', he])
          omega
        subst hu hu'
        rw [hve] at hv'
        subst hv'
        intro e' he n0' w1 s1 a1 next Q1 hn1 hst1 hs1' ha1 hk1
        rw [if_pos (by simp [Region.wanted, hg'])]
        refine hA2 e' (fun x hx => ?_) n0' w1 s1 a1 next Q1 hn1 hst1 hs1' ha1 hk1
        cases x with
        | tmp t =>
          have ht : t ∈ o.looksAt ops := List.mem_append_left _ (List.mem_filterMap.2 ⟨.tmp t, by simpa using hx, rfl⟩)
          exact (hag him hoi ht).trans (he t ht).symm
        | _ => rfl
  · have hE := hE0.trans hs.len hs.len k2
    rw [hl, hups] at k3 k4
    simp only [applyUps, if_true] at k3 k4
    have hl' : (ops.toList.drop m).length = ops.size - m := by simp
    rw [← hl']
    refine awL_sound (r := r) (ops.toList.drop m) m _ _ rfl hrest n0 w' s' a' _ (Nat.le_trans hn hE.size) k4 k1 k3 fun e'' s'' a'' w'' j1 j2 j3 j4 => ⟨e'', s'', j1, hE.trans hs.len k1.len j2, j3, j4⟩
  all_goals (exfalso; simp only [Array.getD_eq_getD_getElem?, Array.getElem?_replicate] at *)
  · split at hi <;> simp at hi
  · split at hi <;> simp at hi
  · split at hL <;> simp at hL
  · split at hL <;> simp at hL
end
end Go.Duo

namespace Go.Duo
open Go
theorem i64w (n : Int) (h1 : -9223372036854775808 ≤ n) (h2 : n ≤ 9223372036854775807) : IntKind.wrap .i64 n = n := i64_ok h1 h2
theorem getD_lt {α : Type} (f : α → V) (l : List α) (i : Nat) (u : V) (h : i < l.length) : (l.map f).getD i u = f (l[i]'h) := getD_map f l i h u
theorem getD_ltI {α : Type} (l : List α) (i : Nat) (u : α) (h : i < l.length) : l.getD i u = l[i]'h := by rw [List.getD_eq_getElem?_getD, List.getElem?_eq_getElem h]; rfl
theorem tmod_nn (a b : Int) (h : 0 ≤ a) : a.tmod b = a % b := Int.tmod_eq_emod_of_nonneg h
theorem tdiv_nn (a b : Int) (h : 0 ≤ a) : a.tdiv b = a / b := Int.tdiv_eq_ediv_of_nonneg h
theorem toNat_sub1 (n : Nat) : ((n : Int) - 1).toNat = n - 1 := by omega
/-- All cells are pure. -/
def PureL (l : List V) : Prop := ∀ c ∈ l, PureV c
theorem PureL.nil : PureL [] := by intro c hc; cases hc
theorem PureL.cons {c : V} {l : List V} (h : PureV c) (h2 : PureL l) : PureL (c :: l) := by
  intro d hd
  rcases List.mem_cons.1 hd with rfl | hd
  · exact h
  · exact h2 d hd
theorem PureL.app {l m : List V} (h : PureL l) (h2 : PureL m) : PureL (l ++ m) := by
  intro d hd
  rcases List.mem_append.1 hd with hd | hd
  · exact h d hd
  · exact h2 d hd
/-- A cell that holds a row that is only read, or none. -/
def rowOK (v : V) : Prop := v = .nil ∨ ∃ es, v = .sl es none
theorem rowOK.nil : rowOK .nil := .inl rfl
theorem rowOK.sl (es : List V) : rowOK (.sl es none) := .inr ⟨es, rfl⟩
theorem rowOK.one {v : V} (h : rowOK v) : v.one = true := by rcases h with rfl | ⟨es, rfl⟩ <;> rfl
theorem rowOK.cells {v : V} (h : rowOK v) : v.cells = [v] := by rcases h with rfl | ⟨es, rfl⟩ <;> rfl
theorem rowOK.le {v : V} (h : rowOK v) (st : List O) : V.le st v v.bare := by
  rcases h with rfl | ⟨es, rfl⟩
  · exact V.le_nil _
  · exact V.le_of_eq (by rw [V.bare])
theorem rowOK.pure {v : V} (h : rowOK v) : PureV v := by
  rcases h with rfl | ⟨es, rfl⟩
  · exact PureV.nil
  · exact PureV.sl _ _
theorem rowOK.bare {v : V} (h : rowOK v) : rowOK v.bare ∧ v.bare.bare = v.bare := by
  rcases h with rfl | ⟨es, rfl⟩ <;> exact ⟨.inr ⟨_, by rw [V.bare]⟩, by simp [V.bare]⟩
theorem _root_.Go.Duo.Call.argle {P : Program} {gl : Nat → V} {k : FuncId} {as bs : List V} {st : List O} {K : V → List O → Prop} (h : CLe st as bs) (hc : Duo.Call P gl k bs st K) : Duo.Call P gl k as st K := fun w s xs hst hs hxs => by
  obtain ⟨hl, hle⟩ := h.spec
  refine hc w s xs hst hs ⟨hl ▸ hxs.1, fun i c x hci hxi => ?_⟩
  have hi : i < as.length := by rw [hl]; exact (List.getElem?_eq_some_iff.1 hci).1
  exact hle i as[i] c (List.getElem?_eq_getElem hi) hci w s x hst (hxs.2 i as[i] x (List.getElem?_eq_getElem hi) hxi)
end Go.Duo
