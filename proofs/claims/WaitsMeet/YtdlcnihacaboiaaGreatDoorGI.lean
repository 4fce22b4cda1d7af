/-
  A part of the proof.
-/
import Derived.Test.YtdlcnihacaboiaaGreatDoorGH
import Derived.Lib.ParseIntB
import Derived.Lib.ItoaMem
import Derived.Lib.ItoaLen
import Derived.RangeFuncIn
set_option linter.all false
namespace Go.Duo
open Go
end Go.Duo

namespace Go.Duo
open Go
section
variable {P : Program} {gl : Nat → V} {r : Option Nat} {e : Env} {st : List O} {w : World} {s : S} {Q : Exit → Env → List O → Prop}
/-- Values, the row i (in its last version) frozen. -/
def V.fa (i ver : Nat) (es : List V) : V → V
  | .agg xs => .agg (faL i ver es xs)
  | .tuple xs => .tuple (faL i ver es xs)
  | .func fn a b => .func fn (faL i ver es a) (faL i ver es b)
  | .iface t v => .iface t (v.fa i ver es)
  | .ref j v => if j = i then (if v = ver then .sl es none else .undef) else .ref j v
  | .rptr j v o => if j = i then .undef else .rptr j v o
  | v => v
where faL (i ver : Nat) (es : List V) : List V → List V
  | [] => []
  | x :: xs => x.fa i ver es :: faL i ver es xs
theorem faL_eq (i ver : Nat) (es xs : List V) : V.fa.faL i ver es xs = xs.map (V.fa i ver es) := by
  induction xs with
  | nil => rfl
  | cons x xs ih => simp [V.fa.faL, ih]
def O.fa (i ver : Nat) (es : List V) : O → O
  | .box t xs => .box t (xs.map (V.fa i ver es))
  | .map ks vs => .map ks (vs.map (V.fa i ver es))
  | o => o
theorem fa_map {i ver : Nat} {es ds : List V} {xs : List Value} {R : V → Value → Prop} (ih : ∀ (j : Nat) (c : V) (x : Value), ds[j]? = some c → xs[j]? = some x → R (c.fa i ver es) x) : ∀ (j : Nat) (c : V) (x : Value), (ds.map (V.fa i ver es))[j]? = some c → xs[j]? = some x → R c x := fun j c x hc hx => by
  rw [List.getElem?_map] at hc
  cases hj : ds[j]? with
  | none => simp [hj] at hc
  | some c0 => simp only [hj, Option.map_some, Option.some.injEq] at hc; subst hc; exact ih j c0 x hj hx
theorem PR.fa {K : Nat → Nat → Prop} {i ver : Nat} {es : List V} {v : V} {x : Value} (h : PR w K v x) : v.fa i ver es = v := by
  have mapid : ∀ {ds : List V} {xs : List Value}, ds.length = xs.length → (∀ (j : Nat) (c : V) (x : Value), ds[j]? = some c → xs[j]? = some x → c.fa i ver es = c) → ds.map (V.fa i ver es) = ds := fun {ds xs} hl ih => by
    apply List.ext_getElem (by simp)
    intro j h1 h2
    rw [List.getElem_map]
    exact ih j _ (xs[j]'(by omega)) (List.getElem?_eq_getElem h2) (List.getElem?_eq_getElem _)
  induction h with
  | agg ds xs hl _ ih => simp only [V.fa, faL_eq, mapid hl ih]
  | tuple ds xs hl _ ih => simp only [V.fa, faL_eq, mapid hl ih]
  | func fn fs ds xs ys hl hl' _ _ ih ih' => simp only [V.fa, faL_eq, mapid hl ih, mapid hl' ih']
  | iface t v x _ ih => simp only [V.fa, ih]
  | _ => rfl
/-- The row i frozen; x: where it lies. -/
def S.fa0 (s : S) (i : Nat) (x : Value) : S := { s with K := fun b' o => s.K b' o ∨ x.ownBlock = some b', st := s.st.set i .dead }
def S.fa (s : S) (i ver : Nat) (es : List V) (x : Value) : S := { s.fa0 i x with st := (s.st.set i .dead).map (O.fa i ver es) }
variable {i ver : Nat} {el : TypeId} {sz : Nat} {es : List V} {x : Value}
theorem keeps_fa0 : Keeps w s.K w (s.fa0 i x).K := ⟨fun _ _ h => .inl h, fun _ _ _ _ h => h, fun _ _ _ _ h => h, fun _ _ _ _ h => h⟩
theorem Sim.fa0E (hs : Sim P gl w s) (ho : s.st[i]? = some (.arr el sz ver es)) (hg : s.g[i]? = some (.row x)) : Evolve w s w (s.fa0 i x) := by
  have hR := Evolve.refl (w := w) hs.wf
  refine ⟨rfl, rfl, rfl, Nat.le_refl _, keeps_fa0, fun b' o h => ?_, fun _ _ _ _ => rfl, Nat.le_refl _, fun j o g hj hgj => ?_, fun j o g b' hj _ _ hgj _ => ?_, fun j xs k go hj hoj => ?_⟩
  · rcases h with h | h
    · exact .inl h
    · exact .inr (.inr (.inl ⟨i, _, _, ho, rfl, hg, h⟩))
  · by_cases hij : i = j
    · subst hij
      rw [ho] at hj
      rw [hg] at hgj
      simp only [Option.some.injEq] at hj hgj
      subst hj hgj
      exact ⟨.dead, _, by simp [S.fa0, (List.getElem?_eq_some_iff.1 ho).1], hg, .inl rfl⟩
    · obtain ⟨o', g', h1, h2, h3⟩ := hR.objs j o g hj hgj
      exact ⟨o', g', by simp only [S.fa0]; rw [List.getElem?_set_ne hij]; exact h1, h2, h3⟩
  · have := (List.getElem?_eq_some_iff.1 hgj).1
    simp [S.fa0] at this
    omega
  · have := (List.getElem?_eq_some_iff.1 hoj).1
    simp [S.fa0] at this
    have := hs.len
    omega
theorem own_fa0 {j b' : Nat} (h : (s.fa0 i x).own j b') : j ≠ i ∧ s.own j b' := by
  obtain ⟨o, g, ho, hl, hg, hat⟩ := h
  simp only [S.fa0] at ho hg
  rcases getElem?_set_cases ho with ⟨rfl, rfl, _⟩ | ⟨hne, ho⟩
  · cases hl
  · exact ⟨hne, o, g, ho, hl, hg, hat⟩
theorem Sim.fa0 (hs : Sim P gl w s) (ho : s.st[i]? = some (.arr el sz ver es)) (hg : s.g[i]? = some (.row x)) : Sim P gl w (s.fa0 i x) where
  len := by simp [S.fa0, hs.len]
  obj := fun j o g hj hgj => by
    have hj' : (s.st.set i .dead)[j]? = some o := hj
    rcases getElem?_set_cases hj' with ⟨rfl, rfl, _⟩ | ⟨hne, hj'⟩
    · trivial
    · refine (hs.obj j o g hj' hgj).keep (hs.fa0E ho hg) hs.wf (fun _ _ _ => rfl) (fun l F J Jx xs k go hg' ho' => ⟨fun _ _ => rfl, fun b' o' hk => ?_, fun _ _ => rfl, fun b' o' hk => ?_⟩)
      · rcases hk with hk | hk
        · exact .inl hk
        · refine .inr ⟨?_, fun hF => (hs.fgn b' ⟨j, xs, k, l, go, F, J, Jx, by rw [hj', ho'], by rw [← hg']; exact hgj, hF⟩).2 ⟨i, _, _, ho, rfl, hg, hk⟩⟩
          have := hs.obj j _ _ hj' hgj
          rw [ho', hg'] at this
          simp only [ObjOK] at this
          exact this.2.2.2 b' ⟨i, _, _, ho, rfl, hg, hk⟩
      · rcases hk with hk | hk
        · exact hs.kin b' o' hk
        · exact hs.mine_lt ⟨i, _, _, ho, rfl, hg, hk⟩
  inj := fun j k b' hj hk => hs.inj j k b' (own_fa0 hj).2 (own_fa0 hk).2
  kout := fun j b' o ob hj hob hwr hk => by
    obtain ⟨hne, hj'⟩ := own_fa0 hj
    have hob' : (s.st.set i .dead)[j]? = some ob := hob
    rcases getElem?_set_cases hob' with ⟨rfl, _⟩ | ⟨_, hob'⟩
    · exact hne rfl
    · rcases hk with hk | hk
      · exact hs.kout j b' o ob hj' hob' hwr hk
      · exact hne (hs.inj j i b' hj' ⟨_, _, ho, rfl, hg, hk⟩)
  kin := fun b' o hk => by
    rcases hk with hk | hk
    · exact hs.kin b' o hk
    · exact hs.mine_lt ⟨i, _, _, ho, rfl, hg, hk⟩
  fgn := fun b' hb => by
    obtain ⟨j, xs, k, l, go, F, J, Jx, hj, hgj, hF⟩ := hb
    have hj' : (s.st.set i .dead)[j]? = some _ := hj
    rcases getElem?_set_cases hj' with ⟨_, h, _⟩ | ⟨_, hj'⟩
    · cases h
    · obtain ⟨h1, h2⟩ := hs.fgn b' ⟨j, xs, k, l, go, F, J, Jx, hj', hgj, hF⟩
      exact ⟨h1, fun ⟨m, hm⟩ => h2 ⟨m, (own_fa0 hm).2⟩⟩
  glob := fun g => (hs.glob g).imp id fun k => globKeeps (K' := (s.fa0 i x).K) keeps_fa0 k
/-- What the row is from then on. -/
theorem fa_ref (hs : Sim P gl w s) (ho : s.st[i]? = some (.arr el sz ver es)) (hg : s.g[i]? = some (.row x)) {y : Value} (hx : Rep w s (.ref i ver) y) : PR w (s.fa0 i x).K (.sl es none) y := by
  obtain ⟨xs, hown, hsz, hone, hxl, hpr⟩ := hs.obj i _ _ ho hg
  have hx1 : RefOK s i ver y := by
    cases hx with
    | pure _ _ h => cases h
    | ref _ _ _ _ h => exact h
  obtain ⟨o', ho', hm⟩ := hx1
  rw [ho] at ho'
  simp only [Option.some.injEq] at ho'
  subst ho'
  rcases hm.2 rfl with h | ⟨rfl, a, rfl⟩
  · rw [hg] at h
    simp only [Option.some.injEq, Gh.row.injEq] at h
    subst h
    rcases Nat.eq_zero_or_pos es.length with h0 | h0
    · obtain rfl := List.eq_nil_of_length_eq_zero h0
      rcases hown.2 with ⟨rfl, _⟩ | ⟨g, cap, cur, rfl, _, _, _, hcm, _⟩
      · exact PR.nil_sl none
      · exact .sl [] _ cap sz (fun _ => undef) (Nat.zero_le _) hcm (by simp) (by simp) (by simp) (by simp)
    · exact pr_of_own hown rfl h0 hsz hone (fun b j hb _ => .inr hb) (fun j c u hc hu => (hpr j c u hc hu).keeps keeps_fa0)
  · exact PR.nil_sl a
theorem fa_st {j : Nat} {o : O} (h : s.st[j]? = some o) (hj : j ≠ i) : (s.fa i ver es x).st[j]? = some (o.fa i ver es) := by
  simp only [S.fa, List.getElem?_map]
  rw [List.getElem?_set_ne (fun e => hj e.symm), h]
  rfl
theorem fa_back {j : Nat} {o : O} (h : (s.fa i ver es x).st[j]? = some o) : (j = i ∧ o = .dead) ∨ (j ≠ i ∧ ∃ o', s.st[j]? = some o' ∧ o = o'.fa i ver es) := by
  simp only [S.fa, List.getElem?_map, Option.map_eq_some_iff] at h
  obtain ⟨o', h1, rfl⟩ := h
  rcases getElem?_set_cases h1 with ⟨rfl, rfl, _⟩ | ⟨hne, h1⟩
  · exact .inl ⟨rfl, rfl⟩
  · exact .inr ⟨hne, o', h1, rfl⟩
theorem Rep.fa (hs : Sim P gl w s) (ho : s.st[i]? = some (.arr el sz ver es)) (hg : s.g[i]? = some (.row x)) {v : V} {y : Value} (hx : Rep w s v y) : Rep w (s.fa i ver es x) (v.fa i ver es) y := by
  have hk : Keeps w s.K w (s.fa i ver es x).K := keeps_fa0 (i := i)
  induction hx with
  | pure v x h => rw [h.fa]; exact .pure _ _ (h.keeps hk)
  | undef x => exact .undef x
  | agg ds xs hl _ ih => simp only [V.fa, faL_eq]; exact .agg _ xs (by simpa using hl) (fa_map (R := Rep w (s.fa i ver es x)) ih)
  | tuple ds xs hl _ ih => simp only [V.fa, faL_eq]; exact .tuple _ xs (by simpa using hl) (fa_map (R := Rep w (s.fa i ver es x)) ih)
  | func fn fs ds xs ys hl hl' _ _ ih ih' => simp only [V.fa, faL_eq]; exact .func fn _ _ xs ys (by simpa using hl) (by simpa using hl') (fa_map (R := Rep w (s.fa i ver es x)) ih) (fa_map (R := Rep w (s.fa i ver es x)) ih')
  | iface t v y _ ih => exact .iface t _ y ih
  | tok es' id y hpr ht =>
    refine .tok es' id y (hpr.keeps hk) ?_
    obtain ⟨o, ho', hm⟩ := ht
    by_cases hid : id = i
    · subst hid
      rw [ho] at ho'
      simp only [Option.some.injEq] at ho'
      subst ho'
      exact hm.elim
    · refine ⟨o.fa i ver es, fa_st ho' hid, ?_⟩
      cases o <;> exact hm
  | ref id v' y h1 ht =>
    simp only [V.fa]
    by_cases hid : id = i
    · subst hid
      rw [if_pos rfl]
      by_cases hv : v' = ver
      · subst hv
        rw [if_pos rfl]
        exact .pure _ _ (fa_ref hs ho hg (.ref id v' y h1 ht))
      · rw [if_neg hv]
        exact .undef _
    · rw [if_neg hid]
      obtain ⟨o, ho', hm⟩ := ht
      refine .ref id v' y h1 ⟨o.fa i ver es, fa_st ho' hid, ?_⟩
      cases o <;> exact hm
  | rptr id v' off y h1 ht =>
    simp only [V.fa]
    by_cases hid : id = i
    · rw [if_pos hid]
      exact .undef _
    · rw [if_neg hid]
      obtain ⟨o, ho', hm⟩ := ht
      refine .rptr id v' off y h1 ⟨o.fa i ver es, fa_st ho' hid, ?_⟩
      cases o <;> exact hm
  | ptr id off b' hb => exact .ptr id off b' hb
  | map id b' hb => exact .map id b' hb
  | yld id l F J Jx hb => exact .yld id l F J Jx hb
theorem O.fa_lives (i ver : Nat) (es : List V) (o : O) : (o.fa i ver es).lives = o.lives ∧ ∀ y, (o.fa i ver es).writes y ↔ o.writes y := by cases o <;> exact ⟨rfl, fun _ => Iff.rfl⟩
theorem own_fa {j b' : Nat} (h : (s.fa i ver es x).own j b') : j ≠ i ∧ s.own j b' := by
  obtain ⟨o, g, ho, hl, hg, hat⟩ := h
  rcases fa_back ho with ⟨rfl, rfl⟩ | ⟨hne, o', ho', rfl⟩
  · cases hl
  · exact ⟨hne, o', g, ho', by rw [← (O.fa_lives i ver es o').1]; exact hl, hg, hat⟩
theorem foreign_fa {b' : Nat} (h : (s.fa i ver es x).foreign b') : s.foreign b' := by
  obtain ⟨j, xs, k, l, go, F, J, Jx, ho, hg, hF⟩ := h
  rcases fa_back ho with ⟨_, h⟩ | ⟨_, o', ho', he⟩
  · cases h
  · cases o' <;> simp only [O.fa] at he <;> cases he
    exact ⟨j, xs, k, l, go, F, J, Jx, ho', hg, hF⟩
theorem Evolve.fa {w0 : World} {s0 : S} (hl0 : s0.g.length = s0.st.length) (hE : Evolve w0 s0 w s) (hs : Sim P gl w s) (ho : s.st[i]? = some (.arr el sz ver es)) (hg : s.g[i]? = some (.row x)) : Evolve w0 s0 w (s.fa i ver es x) := by
  have hE' := hE.trans hl0 hs.len (hs.fa0E ho hg)
  refine ⟨hE'.os, hE'.tape, hE'.output, hE'.size, hE'.keeps, hE'.knew, hE'.block, hE'.len, fun j o g hj hgj => ?_, fun j o g b' hj hoj hlv hgj hat => ?_, fun j xs k go hj hoj => ?_⟩
  · obtain ⟨o1, g1, h1, h2, tr⟩ := hE'.objs j o g hj hgj
    refine ⟨o1.fa i ver es, g1, ?_, h2, ?_⟩
    · simp only [S.fa, List.getElem?_map]
      have : (s.st.set i .dead)[j]? = some o1 := h1
      rw [this]
      rfl
    · cases o with
      | box t' ds =>
        obtain ⟨rfl, rfl | ⟨ds', rfl, hc⟩⟩ := tr
        · exact ⟨rfl, .inl rfl⟩
        · exact ⟨rfl, .inr ⟨_, rfl, by simpa using hc⟩⟩
      | map ks vs =>
        obtain ⟨rfl, rfl | ⟨ks', vs', rfl⟩⟩ := tr
        · exact ⟨rfl, .inl rfl⟩
        · exact ⟨rfl, .inr ⟨_, _, rfl⟩⟩
      | tok e sz m =>
        rcases tr with rfl | ⟨m', rfl, tr⟩
        · exact .inl rfl
        · exact .inr ⟨m', rfl, tr⟩
      | arr e sz v es =>
        rcases tr with rfl | ⟨m', es', rfl, tr⟩
        · exact .inl rfl
        · exact .inr ⟨m', es', rfl, tr⟩
      | yld xs n go =>
        obtain ⟨t1, rfl | ⟨j', go', rfl, t2⟩⟩ := tr
        · exact ⟨t1, .inl rfl⟩
        · exact ⟨t1, .inr ⟨j', go', rfl, t2⟩⟩
      | dead => obtain ⟨rfl, rfl⟩ := tr; exact ⟨rfl, rfl⟩
  · rcases fa_back hoj with ⟨_, rfl⟩ | ⟨_, o', ho', rfl⟩
    · cases hlv
    · exact hE.fresh j o' g b' hj ho' (by rw [← (O.fa_lives i ver es o').1]; exact hlv) hgj hat
  · rcases fa_back hoj with ⟨_, h⟩ | ⟨_, o', ho', he⟩
    · cases h
    · cases o' <;> simp only [O.fa] at he <;> cases he
      exact hE.noyld j _ _ _ hj ho'
theorem Sim.fa (hs : Sim P gl w s) (ho : s.st[i]? = some (.arr el sz ver es)) (hg : s.g[i]? = some (.row x)) : Sim P gl w (s.fa i ver es x) := by
  have h1 := hs.fa0 ho hg
  refine ⟨by simp [S.fa, S.fa0, hs.len], fun j o g hj hgj => ?_, fun j k b' hj hk => hs.inj j k b' (own_fa hj).2 (own_fa hk).2, fun j b' o ob hj hob hwr hk => ?_, h1.kin, fun b' hb => ?_, h1.glob⟩
  · rcases fa_back hj with ⟨_, rfl⟩ | ⟨hne, o', ho', rfl⟩
    · trivial
    · cases o' with
      | box t' ds =>
        have hb := hs.obj j _ g ho' hgj
        cases g <;> simp only [ObjOK, O.fa] at hb ⊢
        obtain ⟨arr, ha, hl, hr⟩ := hb
        exact ⟨arr, ha, by simpa using hl, fa_map (xs := arr.toList) (R := Rep w (s.fa i ver es x)) (fun n c y hc hy => (hr n c y hc (by simpa using hy)).fa hs ho hg) |> fun h n c y hc hy => h n c y hc (by simpa using hy)⟩
      | map ks vs =>
        have hb := hs.obj j _ g ho' hgj
        have hb1 := h1.obj j _ g (by simp only [S.fa0]; rw [List.getElem?_set_ne (fun e => hne e.symm)]; exact ho') hgj
        cases g <;> simp only [ObjOK, O.fa] at hb hb1 ⊢
        obtain ⟨es', clock, ha, hl, hv, _, hr⟩ := hb
        obtain ⟨es2, clock', ha', _, _, hk, _⟩ := hb1
        rw [ha] at ha'
        simp only [Option.some.injEq, Obj.map.injEq] at ha'
        obtain ⟨rfl, rfl⟩ := ha'
        refine ⟨_, _, ha, hl, by simpa using hv, hk, fun n c e hc he => ?_⟩
        rw [List.getElem?_map] at hc
        cases hj : vs[n]? with
        | none => simp [hj] at hc
        | some c0 => simp only [hj, Option.map_some, Option.some.injEq] at hc; subst hc; exact (hr n c0 e hj he).fa hs ho hg
      | _ =>
        have hb0 := hs.obj j _ g ho' hgj
        have hb := h1.obj j _ g (by simp only [S.fa0]; rw [List.getElem?_set_ne (fun e => hne e.symm)]; exact ho') hgj
        cases g <;> simp only [ObjOK] at hb0 <;> first | exact hb.elim | exact hb | (simp only [ObjOK, O.fa] at hb ⊢; exact ⟨hb.1, hb.2.1, hb.2.2.1, fun b' ⟨m, hm⟩ => hb0.2.2.2 b' ⟨m, (own_fa hm).2⟩⟩)
  · obtain ⟨hne, hj'⟩ := own_fa hj
    rcases fa_back hob with ⟨rfl, _⟩ | ⟨_, o', ho', rfl⟩
    · exact hne rfl
    · rcases hk with hk | hk
      · exact hs.kout j b' o o' hj' ho' (((O.fa_lives i ver es o').2 o).1 hwr) hk
      · exact hne (hs.inj j i b' hj' ⟨_, _, ho, rfl, hg, hk⟩)
  · obtain ⟨h2, h3⟩ := hs.fgn b' (foreign_fa hb)
    exact ⟨h2, fun ⟨m, hm⟩ => h3 ⟨m, (own_fa hm).2⟩⟩
def Env.fa (i ver : Nat) (es : List V) (e : Env) : Env := ⟨e.n, e.m.map fun p => (p.1, p.2.fa i ver es)⟩
theorem Env.fa_get (i ver : Nat) (es : List V) (e : Env) (t : Nat) : (e.fa i ver es).get t = (e.get t).fa i ver es := by
  obtain ⟨n, m⟩ := e
  simp only [Env.fa, Env.get]
  induction m with
  | nil => rfl
  | cons p m ih =>
    obtain ⟨a, v⟩ := p
    simp only [List.map_cons, getM]
    split
    · rfl
    · exact ih
theorem arr_row (hs : Sim P gl w s) (ho : s.st[i]? = some (.arr el sz ver es)) : ∃ x, s.g[i]? = some (.row x) := hs.wf.arr i _ _ _ _ ho
/-- **A row is frozen.** -/
theorem AW.fa {c : Code} (i : Nat) (el : TypeId) (sz ver : Nat) (es : List V) (ho : st[i]? = some (.arr el sz ver es)) (h : AW P gl r c Q (e.fa i ver es) ((st.set i .dead).map (O.fa i ver es))) : AW P gl r c Q e st := fun n0 w s a hn hst hs ha => by
  subst hst
  obtain ⟨x, hg⟩ := arr_row hs ho
  have hS := hs.fa ho hg
  have hE := (Evolve.refl (w := w) hs.wf).fa hs.len hs ho hg
  have hA : ActOK w (s.fa i ver es x) n0 (e.fa i ver es) a := by
    refine ⟨ha.n, fun t => by rw [Env.fa_get]; exact (ha.get t).fa hs ho hg, ⟨fun d hd => ?_, ha.marks.2⟩⟩
    obtain ⟨r, h1, h2, h3, h4, h5⟩ := ha.marks.1 d hd
    exact ⟨r, h1, h2, h3, fun ⟨m, hm⟩ => h4 ⟨m, (own_fa hm).2⟩, fun hf => h5 (foreign_fa hf)⟩
  refine wpIn_mono (h n0 w (s.fa i ver es x) a hn rfl hS hA) fun y a' w' ⟨e'', s', h1, h2, h3, hq⟩ => ?_
  exact ⟨e'', s', h1, hE.trans hs.len hS.len h2, h3, hq⟩
/-- An empty row of one's own. -/
theorem AW.arr0 {c : Code} (el : TypeId) (sz : Nat) (h : AW P gl r c Q e (st ++ [.arr el sz 0 []])) : AW P gl r c Q e st := fun n0 w s a hn hst hs ha => by
  subst hst
  have hS : Sim P gl w (s.push (.arr el sz 0 []) (.row (.slice none 0 0))) := hs.push (fun _ _ _ h => by cases h) (fun _ _ _ h => by cases h) (fun _ _ h => by cases h) (fun _ _ _ => by simp) ⟨[], ⟨by simp, .inl ⟨rfl, rfl⟩⟩, by simp, by simp, by simp, by simp⟩ (fun _ _ h => by cases h)
  have hE : Evolve w s w (s.push (.arr el sz 0 []) (.row (.slice none 0 0))) := Evolve.push hs.wf (Evolve.refl hs.wf) _ _ (fun _ _ h => by cases h) (fun _ _ _ => by simp)
  refine wpIn_mono (h n0 w _ a hn rfl hS (ha.evolve hE hs.wf)) fun x a' w' ⟨e'', s', h1, h2, h3, hq⟩ => ?_
  exact ⟨e'', s', h1, hE.trans hs.len hS.len h2, h3, hq⟩
theorem V.le_nil_ref {k : Nat} {e : TypeId} {sz v : Nat} (h : st[k]? = some (.arr e sz v [])) : V.le st .nil (.ref k v) := fun w s x hs hx => by
  obtain ⟨a, rfl⟩ := hx.nil_inv
  exact .ref k v _ rfl ⟨.arr e sz v [], hs ▸ h, Nat.le_refl _, fun _ => .inr ⟨rfl, a, rfl⟩⟩
/-- A row that a function hands back is frozen. -/
theorem Call.fa {k : FuncId} {args : List V} {v0 : V} {st0 : List O} (i : Nat) (el : TypeId) (sz ver : Nat) (es : List V) (ho : st0[i]? = some (.arr el sz ver es)) (h : Call P gl k args st fun v st' => v = v0 ∧ st' = st0) :
    Call P gl k args st fun v st' => v = v0.fa i ver es ∧ st' = (st0.set i .dead).map (O.fa i ver es) := fun w s xs hst hs hx => by
  refine CallsIn.mono (h w s xs hst hs hx) fun e w' ⟨v, x, s', h1, h2, h3, h4, h5, h6⟩ => ?_
  subst h5 h6
  obtain ⟨y, hg⟩ := arr_row h2 ho
  exact ⟨_, x, s'.fa i ver es y, h1, h2.fa ho hg, h3.fa hs.len h2 ho hg, h4.fa h2 ho hg, rfl, rfl⟩
/-- What a function leaves behind is forgotten. -/
theorem Call.forget {k : FuncId} {args : List V} {v0 : V} {st0 : List O} (n : Nat) (hn : st.length ≤ n) (h : Call P gl k args st fun v st' => v = v0 ∧ st' = st0) :
    Call P gl k args st fun v st' => v = v0.trim n ∧ st' = trimS n st0 := fun w s xs hst hs hx => by
  refine CallsIn.mono (h w s xs hst hs hx) fun e w' ⟨v, x, s', h1, h2, h3, h4, h5, h6⟩ => ?_
  subst h5 h6 hst
  exact ⟨_, x, s'.trim n, h1, h2.trim n, h3.trim hs.len h2.len hn, h4.trim, rfl, rfl⟩
end
end Go.Duo

namespace Go.Duo
open Go
end Go.Duo

namespace Go.Duo
open Go
abbrev Str := List UInt8
inductive Ty where
  | mk (kind prio : Int) (name : Str) (shift : Int) (labels : List Str) (kids : List Ty)
structure Vl where
  kind : Int
  name : Str
  n : Int
  deriving DecidableEq
inductive Pr where
  | mk (kind : Int) (chan var : Str) (labels : List Str) (args : List Vl) (t : Ty) (kids : List Pr)
mutual
def encT : Ty → V
  | .mk k p n s l ks => .agg [.int .i64 k, .int .i64 p, .str n, .int .i64 s, .sl (l.map .str) none, .sl (encTs ks) none]
def encTs : List Ty → List V
  | [] => []
  | t :: ts => encT t :: encTs ts
end
theorem encTs_eq (l : List Ty) : encTs l = l.map encT := by
  induction l with
  | nil => rfl
  | cons t l ih => simp [encTs, ih]
theorem encT_mk (k p : Int) (n : Str) (s : Int) (l : List Str) (ks : List Ty) : encT (.mk k p n s l ks) = .agg [.int .i64 k, .int .i64 p, .str n, .int .i64 s, .sl (l.map .str) none, .sl (ks.map encT) none] := by rw [encT, encTs_eq]
theorem encT_cells (t : Ty) : .agg (encT t).cells = encT t := by cases t; rw [encT]; rfl
theorem encT_len (t : Ty) : (encT t).cells.length = 6 := by cases t; rw [encT]; rfl
theorem encT_take (t : Ty) : (encT t).cells.take 6 = (encT t).cells := by rw [List.take_of_length_le (by rw [encT_len]; exact Nat.le_refl _)]
theorem encT_one (t : Ty) : (encT t).cells.all V.one = true := by cases t; rw [encT]; rfl
def encV (v : Vl) : V := .agg [.int .i64 v.kind, .str v.name, .int .i64 v.n]
mutual
def encP : Pr → V
  | .mk k c v l a t ks => .agg ([.int .i64 k, .str c, .str v, .sl (l.map .str) none, .sl (a.map encV) none] ++ (encT t).cells ++ [.sl (encPs ks) none])
def encPs : List Pr → List V
  | [] => []
  | t :: ts => encP t :: encPs ts
end
theorem encPs_eq (l : List Pr) : encPs l = l.map encP := by
  induction l with
  | nil => rfl
  | cons t l ih => simp [encPs, ih]
theorem encP_cells (p : Pr) : .agg (encP p).cells = encP p := by cases p; rw [encP]; rfl
theorem encP_len (p : Pr) : (encP p).cells.length = 12 := by
  obtain ⟨k, c, v, l, a, t, ks⟩ := p
  rw [encP]
  show (_ ++ (encT t).cells ++ _ : List V).length = 12
  simp only [List.length_append, encT_len, List.length_cons, List.length_nil]
theorem encP_take (p : Pr) : (encP p).cells.take 12 = (encP p).cells := by rw [List.take_of_length_le (by rw [encP_len]; exact Nat.le_refl _)]
theorem Ty.ind {p : Ty → Prop} (h : ∀ k pr n s l ks, (∀ t ∈ ks, p t) → p (.mk k pr n s l ks)) (t : Ty) : p t :=
  match t with
  | .mk k pr n s l ks => h k pr n s l ks fun t _ => Ty.ind h t
theorem Pr.ind {p : Pr → Prop} (h : ∀ k c v l a t ks, (∀ q ∈ ks, p q) → p (.mk k c v l a t ks)) (q : Pr) : p q :=
  match q with
  | .mk k c v l a t ks => h k c v l a t ks fun q _ => Pr.ind h q
theorem encT_pure (t : Ty) : PureV (encT t) ∧ (encT t).bare = encT t := by
  obtain ⟨k, p, n, s, l, ks⟩ := t
  rw [encT_mk]
  refine ⟨PureV.agg ?_, by simp [V.bare, V.bare.bareL]⟩
  intro c hc
  simp only [List.mem_cons, List.not_mem_nil, or_false] at hc
  rcases hc with rfl | rfl | rfl | rfl | rfl | rfl
  · exact PureV.int _ _
  · exact PureV.int _ _
  · exact PureV.str _
  · exact PureV.int _ _
  · exact PureV.sl _ _
  · exact PureV.sl _ _
theorem Real.ty {k p : Int} {n : Str} {s : Int} {l : List Str} {ks : List Ty} (h : Real (encT (.mk k p n s l ks))) : l.length ≤ 9223372036854775807 ∧ ks.length ≤ 9223372036854775807 ∧ ∀ t ∈ ks, ∀ c ∈ (encT t).cells, Real c := by
  rw [encT_mk] at h
  have h1 := (h.agg (.sl (l.map .str) none) (by simp)).sl
  have h2 := (h.agg (.sl (ks.map encT) none) (by simp)).sl
  refine ⟨by simpa [maxLen] using h1.1, by simpa [maxLen] using h2.1, fun t ht c hc => h2.2 c ?_⟩
  exact List.mem_flatMap.2 ⟨encT t, List.mem_map.2 ⟨t, ht, rfl⟩, hc⟩
mutual
def sameT : Ty → Ty → Bool
  | .mk k p n s l ks, .mk k' p' n' s' l' ks' => decide (k = k') && decide (p = p') && decide (n = n') && decide (s = s') && decide (l = l') && decide (ks.length = ks'.length) && sameTs ks ks'
def sameTs : List Ty → List Ty → Bool
  | t :: ts, u :: us => sameT t u && sameTs ts us
  | _, _ => true
end
theorem encP_mk (k : Int) (c v : Str) (l : List Str) (a : List Vl) (t : Ty) (ks : List Pr) : encP (.mk k c v l a t ks) = .agg (.int .i64 k :: .str c :: .str v :: .sl (l.map .str) none :: .sl (a.map encV) none :: ((encT t).cells ++ [.sl (ks.map encP) none])) := by rw [encP, encPs_eq]; rfl
theorem encP_one (p : Pr) : (encP p).cells.all V.one = true := by
  obtain ⟨k, c, v, l, a, t, ks⟩ := p
  rw [encP_mk, c_agg]
  simp [V.one, encT_one]
theorem take_T (t : Ty) (l : List V) : ((encT t).cells ++ l).take 6 = (encT t).cells := by
  have h := List.take_left (l₁ := (encT t).cells) (l₂ := l); rwa [encT_len] at h
theorem drop_T (t : Ty) (l : List V) : ((encT t).cells ++ l).drop 6 = l := by
  have h := List.drop_left (l₁ := (encT t).cells) (l₂ := l); rwa [encT_len] at h
theorem len_T (t : Ty) (l : List V) : ((encT t).cells ++ l).length = l.length + 6 := by rw [List.length_append, encT_len, Nat.add_comm]
theorem all_T (t : Ty) (l : List V) : ((encT t).cells ++ l).all V.one = l.all V.one := by rw [List.all_append, encT_one, Bool.true_and]
theorem encV_cells (v : Vl) : (encV v).cells = [.int .i64 v.kind, .str v.name, .int .i64 v.n] := rfl
theorem encP_pure (p : Pr) : PureV (encP p) ∧ (encP p).bare = encP p := by
  obtain ⟨k, c, v, l, a, t, ks⟩ := p
  have ht : ∀ x ∈ (encT t).cells, PureV x ∧ x.bare = x := fun x hx => by
    obtain ⟨k, p, n, s, l, ks⟩ := t
    rw [encT_mk] at hx
    simp only [c_agg, List.mem_cons, List.not_mem_nil, or_false] at hx
    rcases hx with rfl | rfl | rfl | rfl | rfl | rfl
    · exact ⟨PureV.int _ _, rfl⟩
    · exact ⟨PureV.int _ _, rfl⟩
    · exact ⟨PureV.str _, rfl⟩
    · exact ⟨PureV.int _ _, rfl⟩
    · exact ⟨PureV.sl _ _, rfl⟩
    · exact ⟨PureV.sl _ _, rfl⟩
  have hall : ∀ x ∈ (.int .i64 k :: .str c :: .str v :: .sl (l.map .str) none :: .sl (a.map encV) none :: ((encT t).cells ++ [.sl (ks.map encP) none]) : List V), PureV x ∧ x.bare = x := fun x hx => by
    simp only [List.mem_cons, List.mem_append, List.not_mem_nil, or_false] at hx
    rcases hx with rfl | rfl | rfl | rfl | rfl | hx | rfl
    · exact ⟨PureV.int _ _, rfl⟩
    · exact ⟨PureV.str _, rfl⟩
    · exact ⟨PureV.str _, rfl⟩
    · exact ⟨PureV.sl _ _, rfl⟩
    · exact ⟨PureV.sl _ _, rfl⟩
    · exact ht x hx
    · exact ⟨PureV.sl _ _, rfl⟩
  rw [encP_mk]
  refine ⟨PureV.agg fun x hx => (hall x hx).1, ?_⟩
  rw [V.bare_agg]
  congr 1
  exact (List.map_congr_left fun x hx => (hall x hx).2).trans (List.map_id _)
theorem Real.pr {k : Int} {c v : Str} {l : List Str} {a : List Vl} {t : Ty} {ks : List Pr} (h : Real (encP (.mk k c v l a t ks))) : l.length ≤ 9223372036854775807 ∧ a.length ≤ 9223372036854775807 ∧ ks.length ≤ 9223372036854775807 := by
  rw [encP_mk] at h
  have h1 := (h.agg (.sl (l.map .str) none) (by simp)).sl.1
  have h2 := (h.agg (.sl (a.map encV) none) (by simp)).sl.1
  have h3 := (h.agg (.sl (ks.map encP) none) (by simp)).sl.1
  simp only [maxLen, List.length_map] at h1 h2 h3
  exact ⟨h1, h2, h3⟩
mutual
def raiseT (k : Int) : Ty → Ty
  | .mk kind prio name shift labels kids => .mk kind (if 4 ≤ kind ∧ kind ≤ 7 then IntKind.wrap .i64 (prio + k) else prio) name shift labels (raiseTs k kids)
def raiseTs (k : Int) : List Ty → List Ty
  | [] => []
  | t :: ts => raiseT k t :: raiseTs k ts
end
theorem raiseTs_eq (k : Int) (l : List Ty) : raiseTs k l = l.map (raiseT k) := by
  induction l with
  | nil => rfl
  | cons t l ih => simp [raiseTs, ih]
theorem encT_bare (t : Ty) : (encT t).bare = encT t := (encT_pure t).2
theorem encP_bare (p : Pr) : (encP p).bare = encP p := (encP_pure p).2
theorem encP_dlen (p : Pr) (n : Nat) : ((encP p).cells.drop n).length = 12 - n := by rw [List.length_drop, encP_len]
end Go.Duo

namespace Go.Duo
open Go
def nameL (k : Int) (p : Bool) : Str := Lib.itoa k ++ [if p then 43 else 45]
def dig (c : UInt8) : Bool := decide (48 ≤ c.toNat) && decide (c.toNat ≤ 57)
def foldD (n : Nat) (l : Str) : Nat := l.foldl (fun n c => 10 * n + (c.toNat - 48)) n
theorem decDigits_dig (u : Nat) : ∀ c ∈ Lib.decDigits u, dig c = true := by
  induction u using Nat.strongRecOn with
  | ind u ih =>
    intro c hc
    rw [Lib.decDigits] at hc
    split at hc
    · rename_i h
      have : c = UInt8.ofNat (48 + u) := by simpa using hc
      subst this
      simp only [dig, Bool.and_eq_true, decide_eq_true_eq, UInt8.toNat_ofNat']
      omega
    · rename_i h
      rcases List.mem_append.1 hc with hc | hc
      · exact ih _ (by omega) c hc
      · have : c = UInt8.ofNat (48 + u % 10) := by simpa using hc
        subst this
        simp only [dig, Bool.and_eq_true, decide_eq_true_eq, UInt8.toNat_ofNat']
        omega
theorem foldD_append (n : Nat) (a b : Str) : foldD n (a ++ b) = foldD (foldD n a) b := List.foldl_append
theorem foldD_dec (u : Nat) : foldD 0 (Lib.decDigits u) = u := by
  induction u using Nat.strongRecOn with
  | ind u ih =>
    rw [Lib.decDigits]
    split
    · rename_i h
      simp only [foldD, List.foldl, UInt8.toNat_ofNat']
      omega
    · rename_i h
      rw [foldD_append, ih _ (by omega)]
      simp only [foldD, List.foldl, UInt8.toNat_ofNat']
      omega
theorem foldD_ge (l : Str) : ∀ n, n ≤ foldD n l := by
  induction l with
  | nil => exact fun n => Nat.le_refl n
  | cons c l ih => intro n; exact Nat.le_trans (by omega) (ih (10 * n + (c.toNat - 48)))
theorem foldD_cons (n : Nat) (c : UInt8) (l : Str) : foldD n (c :: l) = foldD (10 * n + (c.toNat - 48)) l := by unfold foldD; rw [List.foldl_cons]
theorem parseUintM_step {M acc : Nat} {c : UInt8} {l : Str} (hc : 48 ≤ c.toNat ∧ c.toNat ≤ 57) (h1 : ¬ 1844674407370955162 ≤ acc) (h2 : ¬ M < acc * 10 + (c.toNat - 48)) : Lib.parseUintM M acc (c :: l) = Lib.parseUintM M (acc * 10 + (c.toNat - 48)) l := by
  simp [Lib.parseUintM, hc, h1, h2]
theorem parseUintM_dig (M : Nat) (hM : M ≤ 4294967295) (l : Str) : ∀ (acc : Nat), (∀ c ∈ l, dig c = true) → foldD acc l ≤ M → Lib.parseUintM M acc l = .ok (foldD acc l) := by
  induction l with
  | nil => intro acc _ _; rfl
  | cons c l ih =>
    intro acc hd hf
    have hc := hd c (List.mem_cons_self ..)
    simp only [dig, Bool.and_eq_true, decide_eq_true_eq] at hc
    rw [foldD_cons] at hf
    have h1 := foldD_ge l (10 * acc + (c.toNat - 48))
    have h2 := ih _ (fun c hc => hd c (List.mem_cons_of_mem _ hc)) hf
    have h3 : ¬ 1844674407370955162 ≤ acc := by omega
    rw [parseUintM_step hc h3 (by omega), foldD_cons, Nat.mul_comm acc 10]
    exact h2
theorem decDigits_cons (u : Nat) : ∃ c l, Lib.decDigits u = c :: l ∧ dig c = true := by
  cases h : Lib.decDigits u with
  | nil => have := Lib.decDigits_length u; rw [h] at this; have h2 := Lib.nDigits_pos u; simp at this; omega
  | cons c l => exact ⟨c, l, rfl, decDigits_dig u c (by rw [h]; exact List.mem_cons_self ..)⟩
theorem parseIntB_plain {c : UInt8} {r : Str} {u : Nat} (h1 : ¬ (c.toNat = 43 ∨ c.toNat = 45)) (h2 : Lib.parseUintB 32 (c :: r) = .ok u) (h3 : u ≤ 2147483647) : Lib.parseIntB 32 (c :: r) = .ok (u : Int) := by
  have h4 : ¬ c.toNat = 45 := fun h => h1 (.inr h)
  have h5 : (if c.toNat = 43 ∨ c.toNat = 45 then r else c :: r) = c :: r := if_neg h1
  unfold Lib.parseIntB
  simp only [h5, h2]
  simp only [h4, not_false_eq_true, true_and, false_and, if_false]
  exact if_neg (by omega)
theorem parseIntB_itoa (k : Nat) (h : k ≤ 2147483647) : Lib.parseIntB 32 (Lib.itoa k) = .ok (k : Int) := by
  rw [Lib.itoa_nonneg]
  obtain ⟨c, l, hcl, hc⟩ := decDigits_cons k
  have hp : Lib.parseUintB 32 (Lib.decDigits k) = .ok k := by
    rw [Lib.parseUintB, if_neg (by rw [hcl]; simp), parseUintM_dig _ (by decide) _ _ (decDigits_dig k) (by rw [foldD_dec]; omega), foldD_dec]
  simp only [dig, Bool.and_eq_true, decide_eq_true_eq] at hc
  rw [hcl] at hp ⊢
  exact parseIntB_plain (by omega) hp h
theorem parseIntB_ok {s : Str} {k : Int} (h : Lib.parseIntB 32 s = .ok k) : k ≤ 2147483647 := by
  cases s with
  | nil => cases h
  | cons c r =>
    simp only [Lib.parseIntB] at h
    split at h
    · cases h
    · cases h
    · rename_i u hu
      split at h
      · cases h
      · split at h
        · cases h
        · rename_i h1 h2
          cases h
          split
          · omega
          · rename_i h3; have : ¬ 2147483648 ≤ u := fun h4 => h1 ⟨h3, by simpa using h4⟩; omega
theorem nameL_ne_nil (k : Int) (p : Bool) : nameL k p ≠ [] := by simp [nameL]
theorem nameL_dropLast (k : Int) (p : Bool) : (nameL k p).dropLast = Lib.itoa k := by simp [nameL]
theorem nameL_last (k : Int) (p : Bool) : (nameL k p).getLast? = some (if p then 43 else 45) := by simp [nameL]
/-- The endpoint that a name is. -/
def epL (s : Str) : Option (Nat × Bool) :=
  if foldD 0 s.dropLast ≤ 2147483647 ∧ s = nameL (foldD 0 s.dropLast) (decide (s.getLast? = some 43)) then some (foldD 0 s.dropLast, decide (s.getLast? = some 43)) else none
theorem epL_some {s : Str} {k : Nat} {p : Bool} : epL s = some (k, p) ↔ k ≤ 2147483647 ∧ s = nameL k p := by
  unfold epL
  constructor
  · intro h
    split at h
    · rename_i hh; cases h; exact hh
    · cases h
  · rintro ⟨hk, rfl⟩
    have h1 : foldD 0 (nameL k p).dropLast = k := by rw [nameL_dropLast, Lib.itoa_nonneg, foldD_dec]
    have h2 : decide ((nameL (k : Int) p).getLast? = some 43) = p := by rw [nameL_last]; cases p <;> decide
    rw [h1, h2, if_pos ⟨hk, rfl⟩]
theorem epL_none {s : Str} : epL s = none ↔ ∀ (k : Nat) (p : Bool), k ≤ 2147483647 → s ≠ nameL k p := by
  constructor
  · intro h k p hk hs
    rw [epL_some.2 ⟨hk, hs⟩] at h; cases h
  · intro h
    cases h' : epL s with
    | none => rfl
    | some x => obtain ⟨k, p⟩ := x; have := epL_some.1 h'; exact absurd this.2 (h k p this.1)
def epV (s : Str) : V := match epL s with
  | some (k, p) => .tuple [.int .i64 k, .bool p, .bool true]
  | none => .tuple [.int .i64 0, .bool false, .bool false]
theorem snoc (s : Str) (h : s ≠ []) : ∃ a c, s = a ++ [c] := ⟨s.dropLast, s.getLast h, (List.dropLast_concat_getLast h).symm⟩
/-- As the program reads it. -/
theorem epL_prog_some {a : Str} {c : UInt8} {k : Int} (h1 : Lib.parseIntB 32 a = .ok k) (h2 : nameL k (decide ([c] = [43])) = a ++ [c]) (h3 : 0 ≤ k) : epV (a ++ [c]) = .tuple [.int .i64 k, .bool (decide ([c] = [43])), .bool true] := by
  obtain ⟨n, rfl⟩ := Int.eq_ofNat_of_zero_le h3
  have := parseIntB_ok h1
  unfold epV
  rw [epL_some.2 ⟨by omega, h2.symm⟩]
theorem epL_prog_none {a : Str} {c : UInt8} (h : ∀ k : Int, Lib.parseIntB 32 a = .ok k → nameL k (decide ([c] = [43])) = a ++ [c] → k < 0) : epV (a ++ [c]) = .tuple [.int .i64 0, .bool false, .bool false] := by
  unfold epV
  cases h' : epL (a ++ [c]) with
  | none => rfl
  | some x =>
    obtain ⟨k, p⟩ := x
    obtain ⟨hk, hs⟩ := epL_some.1 h'
    have ha : a = Lib.itoa k := by rw [← nameL_dropLast k p, ← hs]; simp
    have hc : some c = some (if p then (43 : UInt8) else 45) := by rw [← nameL_last k p, ← hs]; simp
    have hp : decide ([c] = [43]) = p := by cases hc; cases p <;> decide
    have h1 := h k (by rw [ha]; exact parseIntB_itoa k hk) (by rw [hp]; exact hs.symm)
    omega
theorem epL_nil : epL [] = none := epL_none.2 fun k p _ h => nameL_ne_nil k p h.symm
/-- As the reference reads it. -/
theorem epV_ref_none {s : Str} (h : ∀ (k : Nat) (p : Bool), k ≤ 2147483647 → s ≠ nameL k p) : epV s = .tuple [.int .i64 0, .bool false, .bool false] := by
  unfold epV; rw [epL_none.2 h]
theorem epV_ref_some {s : Str} {k : Nat} (hk : k ≤ 2147483647) (p : Bool) (hs : s = nameL k p) : epV s = .tuple [.int .i64 k, .bool p, .bool true] := by
  unfold epV; rw [epL_some.2 ⟨hk, hs⟩]
theorem itoa_len31 {k : Nat} (hk : k ≤ 2147483647) : 1 ≤ (Lib.itoa k).length ∧ (Lib.itoa k).length ≤ 10 := by
  rw [Lib.itoa_nonneg, Lib.decDigits_length]
  refine ⟨Lib.nDigits_pos k, ?_⟩
  rcases Nat.lt_or_ge 10 (Lib.nDigits k) with h | h
  · exfalso
    have h1 := Lib.nDigits_pos k
    have : ∀ n u, 10 ^ n ≤ u ∨ Lib.nDigits u ≤ n ∨ n = 0 := by
      intro n
      induction n with
      | zero => intro u; exact .inr (.inr rfl)
      | succ n ih =>
        intro u
        by_cases hu : u < 10
        · rw [Lib.nDigits_small hu]; exact .inr (.inl (by omega))
        · rw [Lib.nDigits_big hu]
          rcases ih (u / 10) with h | h | h
          · refine .inl ?_; rw [Nat.pow_succ]; omega
          · exact .inr (.inl (by omega))
          · subst h; exact .inl (by omega)
    rcases this 10 k with h | h | h <;> omega
  · exact h
theorem itoa_min : Lib.itoa (-9223372036854775808) = [45, 57, 50, 50, 51, 51, 55, 50, 48, 51, 54, 56, 53, 52, 55, 55, 53, 56, 48, 56] := by
  rw [show (-9223372036854775808 : Int) = -((9223372036854775808 : Nat) : Int) from rfl, Lib.itoa_neg _ (by decide)]
  simp [Lib.decDigits]
theorem itoa_minus {n : Int} (h : n < 0) : [45] ++ Lib.itoa (0 - n) = Lib.itoa n := by
  obtain ⟨m, hm⟩ : ∃ m : Nat, n = -(m : Int) := ⟨n.natAbs, by omega⟩
  subst hm
  rw [Lib.itoa_neg m (by omega), show (0 - -(m : Int)) = (m : Int) by omega, Lib.itoa_nonneg]; rfl
theorem itoa_small {n : Int} (h0 : 0 ≤ n) (h : n < 10) : ((([48, 49, 50, 51, 52, 53, 54, 55, 56, 57] : Str).take (n % 10 + 1).toNat).drop (n % 10).toNat) = Lib.itoa n := by
  obtain ⟨m, rfl⟩ := Int.eq_ofNat_of_zero_le h0
  rw [Lib.itoa_nonneg]
  have : m < 10 := by omega
  rcases m with _ | _ | _ | _ | _ | _ | _ | _ | _ | _ | m <;> first | omega | (rw [Lib.decDigits, dif_pos (by decide)]; rfl)
theorem itoa_big {n : Int} (h : 10 ≤ n) : Lib.itoa (n / 10) ++ ((([48, 49, 50, 51, 52, 53, 54, 55, 56, 57] : Str).take (n % 10 + 1).toNat).drop (n % 10).toNat) = Lib.itoa n := by
  have h1 := itoa_small (n := n % 10) (by omega) (by omega)
  rw [show n % 10 % 10 = n % 10 by omega] at h1
  rw [h1]
  obtain ⟨m, rfl⟩ := Int.eq_ofNat_of_zero_le (show 0 ≤ n by omega)
  rw [show ((m : Int) / 10) = ((m / 10 : Nat) : Int) by omega, show ((m : Int) % 10) = ((m % 10 : Nat) : Int) by omega, Lib.itoa_nonneg, Lib.itoa_nonneg, Lib.itoa_nonneg]
  conv => rhs; rw [Lib.decDigits, dif_neg (by omega)]
  rw [Lib.decDigits_one (show m % 10 < 10 by omega)]
/-- The place of the first one, or -1. -/
def idxL (l : List Str) (c : Str) : Int := if c ∈ l then ((l.takeWhile fun x => !decide (x = c)).length : Nat) else -1
theorem idxL_ge (l : List Str) (c : Str) : decide (0 ≤ idxL l c) = decide (c ∈ l) := by
  unfold idxL; split <;> simp_all
theorem notin_step {l : List Str} {c : Str} {i : Nat} (h : c ∉ l.take i) (hlt : i < l.length) (hq : ¬ l[i] = c) : c ∉ l.take (i + 1) := by
  rw [List.take_add_one, List.getElem?_eq_getElem hlt]
  simp only [Option.toList, List.mem_append, List.mem_singleton]
  rintro (h' | h')
  · exact h h'
  · exact hq h'.symm
theorem idxL_none {l : List Str} {c : Str} (h : c ∉ l) : idxL l c = -1 := if_neg h
theorem takeWhile_first {α : Type} (p : α → Bool) : ∀ (a : List α) (x : α) (b : List α), (∀ y ∈ a, p y = true) → p x = false → (a ++ x :: b).takeWhile p = a := by
  intro a
  induction a with
  | nil => intro x b _ h; simp [h]
  | cons y a ih => intro x b h1 h2; rw [List.cons_append, List.takeWhile_cons, if_pos (h1 y (List.mem_cons_self ..)), ih x b (fun z hz => h1 z (List.mem_cons_of_mem _ hz)) h2]
theorem idxL_at {l : List Str} {c : Str} {i : Nat} (h : c ∉ l.take i) (hlt : i < l.length) (hq : l[i] = c) : idxL l c = i := by
  unfold idxL
  rw [if_pos (hq ▸ List.getElem_mem hlt)]
  have : l.takeWhile (fun x => !decide (x = c)) = l.take i := by
    conv => lhs; rw [← List.take_append_drop i l, List.drop_eq_getElem_cons hlt]
    refine takeWhile_first _ _ _ _ (fun y hy => ?_) (by simp [hq])
    have : ¬ y = c := fun h' => h (h' ▸ hy)
    simp [this]
  rw [this, List.length_take]; omega
theorem foldD_lt : ∀ (l : Str) (n : Nat), (∀ c ∈ l, dig c = true) → foldD n l + 1 ≤ (n + 1) * 10 ^ l.length := by
  intro l
  induction l with
  | nil => intro n _; simp [foldD]
  | cons c l ih =>
    intro n h
    have hc := h c (List.mem_cons_self ..)
    simp only [dig, Bool.and_eq_true, decide_eq_true_eq] at hc
    have h1 := ih (10 * n + (c.toNat - 48)) (fun c hc => h c (List.mem_cons_of_mem _ hc))
    rw [foldD_cons, List.length_cons, Nat.pow_succ]
    have h2 : 10 * n + (c.toNat - 48) + 1 ≤ 10 * (n + 1) := by omega
    have h3 := Nat.mul_le_mul_right (10 ^ l.length) h2
    calc foldD (10 * n + (c.toNat - 48)) l + 1 ≤ (10 * n + (c.toNat - 48) + 1) * 10 ^ l.length := h1
      _ ≤ 10 * (n + 1) * 10 ^ l.length := h3
      _ = (n + 1) * (10 ^ l.length * 10) := by rw [Nat.mul_comm 10 (n + 1), Nat.mul_assoc, Nat.mul_comm 10]
theorem foldD_bound {l : Str} (h : ∀ c ∈ l, dig c = true) (hl : l.length ≤ 10) : foldD 0 l ≤ 9999999999 := by
  have h1 := foldD_lt l 0 h
  have h2 : 10 ^ l.length ≤ 10 ^ 10 := Nat.pow_le_pow_right (by decide) hl
  omega
theorem foldD_take {s : Str} {i : Nat} (h : i < s.length) : foldD 0 (s.take (i + 1)) = 10 * foldD 0 (s.take i) + (s[i].toNat - 48) := by
  rw [List.take_add_one, List.getElem?_eq_getElem h, foldD_append]; simp only [Option.toList, foldD_cons]; rfl
theorem dig_take {s : Str} {i : Nat} (h : i < s.length) (h1 : ∀ c ∈ s.take i, dig c = true) (h2 : 48 ≤ s[i].toNat) (h3 : s[i].toNat ≤ 57) : ∀ c ∈ s.take (i + 1), dig c = true := by
  rw [List.take_add_one, List.getElem?_eq_getElem h]
  intro c hc
  rcases List.mem_append.1 hc with hc | hc
  · exact h1 c hc
  · have : c = s[i] := by simpa using hc
    subst this; simp [dig, h2, h3]
theorem nameL_len {k : Nat} (hk : k ≤ 2147483647) (p : Bool) : 2 ≤ (nameL k p).length ∧ (nameL k p).length ≤ 11 := by
  have := itoa_len31 hk
  simp only [nameL, List.length_append, List.length_cons, List.length_nil]; omega
theorem ref_short {s : Str} (h : s.length < 2 ∨ 11 < s.length) : epV s = .tuple [.int .i64 0, .bool false, .bool false] := epV_ref_none fun k p hk hs => by
  subst hs; have := nameL_len hk p; omega
theorem ref_nodig {s : Str} {i : Nat} (h : i < s.length) (h1 : i + 1 < s.length) (h2 : s[i].toNat < 48 ∨ 57 < s[i].toNat) : epV s = .tuple [.int .i64 0, .bool false, .bool false] := epV_ref_none fun k p hk hs => by
  have h3 : s[i] ∈ s.dropLast := by rw [List.mem_iff_getElem]; exact ⟨i, by rw [List.length_dropLast]; omega, by rw [List.getElem_dropLast]⟩
  have h4 : dig s[i] = true := decDigits_dig k _ (by rw [← Lib.itoa_nonneg, ← nameL_dropLast k p, ← hs]; exact h3)
  simp only [dig, Bool.and_eq_true, decide_eq_true_eq] at h4; omega
theorem ref_noname {s : Str} (h : 2147483647 < foldD 0 (s.take (s.length - 1)) ∨ (¬ s = nameL (foldD 0 (s.take (s.length - 1)) : Nat) true ∧ ¬ s = nameL (foldD 0 (s.take (s.length - 1)) : Nat) false)) : epV s = .tuple [.int .i64 0, .bool false, .bool false] := epV_ref_none fun k p hk hs => by
  have h1 : foldD 0 (s.take (s.length - 1)) = k := by rw [← List.dropLast_eq_take, hs, nameL_dropLast, Lib.itoa_nonneg, foldD_dec]
  rw [h1] at h
  rcases h with h | h
  · omega
  · cases p
    · exact h.2 hs
    · exact h.1 hs
theorem ref_name {s : Str} {n : Nat} (h : n ≤ 2147483647) (h1 : s.length - 1 < s.length) (h2 : s = nameL n true ∨ s = nameL n false) : epV s = .tuple [.int .i64 n, .bool (decide ((s[s.length - 1].toNat : Int) = 43)), .bool true] := by
  have h3 : s[s.length - 1]? = s.getLast? := by rw [List.getLast?_eq_getElem?]
  rw [List.getElem?_eq_getElem h1] at h3
  rcases h2 with h2 | h2
  · rw [epV_ref_some h true h2]
    have h4 : s.getLast? = some 43 := by rw [h2]; exact nameL_last n true
    rw [h4] at h3; have h5 : s[s.length - 1] = 43 := by simpa using h3
    rw [h5]; rfl
  · rw [epV_ref_some h false h2]
    have h4 : s.getLast? = some 45 := by rw [h2]; exact nameL_last n false
    rw [h4] at h3; have h5 : s[s.length - 1] = 45 := by simpa using h3
    rw [h5]; rfl
def dualV (s : Str) : V := match epL s with
  | some (k, p) => .tuple [.str (nameL k (!p)), .bool true]
  | none => .tuple [.str [], .bool false]
def epK (s : Str) : Int := match epL s with | some (k, _) => k | none => 0
def epP (s : Str) : Bool := match epL s with | some (_, p) => p | none => false
def epO (s : Str) : Bool := (epL s).isSome
theorem epV_eq (s : Str) : epV s = .tuple [.int .i64 (epK s), .bool (epP s), .bool (epO s)] := by unfold epV epK epP epO; cases epL s <;> rfl
theorem epK_lt (s : Str) : 0 ≤ epK s ∧ epK s ≤ 2147483647 := by
  unfold epK
  cases h : epL s with
  | none => simp
  | some x => obtain ⟨k, p⟩ := x; have := (epL_some.1 h).1; simp only; omega
def dualN (s : Str) : Str := if epO s = true then nameL (epK s) (!(epP s)) else []
theorem dualV_eq (s : Str) : dualV s = .tuple [.str (dualN s), .bool (epO s)] := by unfold dualV dualN epO epK epP; cases epL s <;> rfl
end Go.Duo

namespace Go.Duo
open Go
section
variable {P : Program} {gl : Nat → V} {r : Option Nat} {e : Env} {st : List O} {w w' : World} {s : S} {Q : Exit → Env → List O → Prop}
/-- More may be known of cells. -/
theorem Rep.reK {K' : Nat → Nat → Prop} (hk : Keeps w s.K w' K') {v : V} {x : Value} (h : Rep w s v x) : Rep w' { s with K := K' } v x := by
  induction h with
  | pure v x hp => exact .pure v x (hp.keeps hk)
  | undef x => exact .undef x
  | agg cs xs hl _ ih => exact .agg cs xs hl ih
  | tuple cs xs hl _ ih => exact .tuple cs xs hl ih
  | func fn fs cs xs ys hl hl' _ _ ih ih' => exact .func fn fs cs xs ys hl hl' ih ih'
  | iface t v x _ ih => exact .iface t v x ih
  | tok es id x hp ht => exact .tok es id x (hp.keeps hk) ht
  | ref id ver x h1 hr => exact .ref id ver x h1 hr
  | ptr id off b hb => exact .ptr id off b hb
  | rptr id ver off x h1 hr => exact .rptr id ver off x h1 hr
  | map id b hb => exact .map id b hb
  | yld id l F J Jx hb => exact .yld id l F J Jx hb
theorem ObjOK.reK {K' : Nat → Nat → Prop} (hk : Keeps w s.K w' K') {o : O} {g : Gh} (hos : w'.os = w.os) (htape : w'.tape = w.tape) (hout : w'.output = w.output) (hsize : w.heap.size ≤ w'.heap.size)
    (hb : o.lives = true → ∀ b, g.at = some b → w'.heap[b]? = w.heap[b]?)
    (hF : ∀ l F J Jx xs i go, g = .yl l F J Jx → o = .yld xs i go → (∀ b, F b → w'.heap[b]? = w.heap[b]?) ∧ (∀ b o, K' b o → s.K b o ∨ (l < b ∧ ¬ F b)) ∧ (∀ b, b ≤ l → w'.heap[b]? = w.heap[b]?) ∧ (∀ b o, K' b o → b < w'.heap.size))
    (h : ObjOK P w s o g) : ObjOK P w' { s with K := K' } o g := by
  cases o <;> cases g <;> simp only [ObjOK] at h ⊢
  · obtain ⟨arr, ha, hl, hr⟩ := h
    exact ⟨arr, (hb rfl _ rfl).trans ha, hl, fun i c x hc hx => (hr i c x hc hx).reK hk⟩
  · obtain ⟨es, clock, ha, h0, hv, h1, h2⟩ := h
    exact ⟨es, clock, (hb rfl _ rfl).trans ha, h0, hv, fun i c e hc he => (h1 i c e hc he).keeps hk, fun i c e hc he => (h2 i c e hc he).reK hk⟩
  · obtain ⟨xs, h1, h2⟩ := h
    refine ⟨xs, h1, ?_⟩
    rcases h2 with h2 | ⟨g, cap, cur, rfl, h3, h4, h5⟩
    · exact .inl h2
    · exact .inr ⟨g, cap, cur, rfl, h3, (hb rfl g rfl).trans h4, h5⟩
  · obtain ⟨xs, ⟨h1, h2⟩, h6, h7, h8, h9⟩ := h
    refine ⟨xs, ⟨h1, ?_⟩, h6, h7, h8, fun j c y hc hy => (h9 j c y hc hy).keeps hk⟩
    rcases h2 with h2 | ⟨g, cap, cur, rfl, h3, h4, h5⟩
    · exact .inl h2
    · exact .inr ⟨g, cap, cur, rfl, h3, (hb rfl g rfl).trans h4, h5⟩
  · obtain ⟨h1, h2, h3, h4⟩ := h
    obtain ⟨k1, k2, k3, k4⟩ := hF _ _ _ _ _ _ _ rfl rfl
    exact ⟨h2.stable _ _ _ _ _ _ _ h1 k1 hos htape hout hsize hk k2 k3 k4, h2, Nat.lt_of_lt_of_le h3 hsize, h4⟩
/-- What the owner of the loop bears from round to round. -/
def RJ (P : Program) (gl : Nat → V) (w0 : World) (s0 : S) (rc : Loop) (I : List O → Prop) (F : Nat → Prop) (K : Nat → Nat → Prop) (W : World) : Prop :=
  ∃ s' : S, s'.K = K ∧ Sim P gl W s' ∧ Evolve w0 s0 W s' ∧ I s'.st ∧ (∀ b, F b ↔ (s'.mine b ∨ s'.foreign b ∨ b = w0.heap.size ∨ b = w0.heap.size + 1)) ∧
    W.heap[w0.heap.size]? = some (.deferred (some [])) ∧ W.heap[w0.heap.size + 1]? = some (.loop rc) ∧
    (∀ b, b = w0.heap.size ∨ b = w0.heap.size + 1 → ¬ s'.mine b ∧ ¬ s'.foreign b ∧ ∀ o, ¬ K b o)
theorem RJ.stable {w0 : World} {s0 : S} {rc : Loop} {I : List O → Prop} (hs0 : Sim P gl w0 s0) {F : Nat → Prop} {K K' : Nat → Nat → Prop} {W W' : World} (h : RJ P gl w0 s0 rc I F K W) (hF : ∀ b, F b → W'.heap[b]? = W.heap[b]?) (hos : W'.os = W.os) (htape : W'.tape = W.tape) (hout : W'.output = W.output)
    (hsize : W.heap.size ≤ W'.heap.size) (hk : Keeps W K W' K') (hnew : ∀ b o, K' b o → K b o ∨ (w0.heap.size + 1 < b ∧ ¬ F b)) (hold : ∀ b, b ≤ w0.heap.size + 1 → W'.heap[b]? = W.heap[b]?) (hkin : ∀ b o, K' b o → b < W'.heap.size) : RJ P gl w0 s0 rc I F K' W' := by
  obtain ⟨s', rfl, hS, hE, hI, hFi, hD, hl, hno⟩ := h
  have hmF : ∀ b, s'.mine b → F b := fun b hb => (hFi b).2 (.inl hb)
  have hfF : ∀ b, s'.foreign b → F b := fun b hb => (hFi b).2 (.inr (.inl hb))
  have hlate : s'.late (w0.heap.size + 1) := (hs0.late (Nat.le_succ _)).evolve hE hs0.len
  refine ⟨{ s' with K := K' }, rfl, ?_, ?_, hI, hFi, (hold _ (by omega)).trans hD, (hold _ (by omega)).trans hl, fun b hb => ⟨(hno b hb).1, (hno b hb).2.1, fun o hko => ?_⟩⟩
  · refine ⟨hS.len, fun i o g ho hg => ?_, hS.inj, fun i b o ob hi hob hwr hko => ?_, hkin, fun b hb => ⟨Nat.lt_of_lt_of_le (hS.fgn b hb).1 hsize, (hS.fgn b hb).2⟩, fun g => (hS.glob g).imp (fun h => h) fun k => globKeeps hk k⟩
    · refine (hS.obj i o g ho hg).reK hk hos htape hout hsize (fun hlv b hb => hF b (hmF b ⟨i, o, g, ho, hlv, hg, hb⟩)) (fun l F2 J Jx xs k go hg' ho' => ?_)
      subst hg' ho'
      have hll := hlate i xs k l go F2 J Jx ho hg
      have hsub : ∀ b, F2 b → F b := fun b hb => hfF b ⟨i, xs, k, l, go, F2, J, Jx, ho, hg, hb⟩
      refine ⟨fun b hb => hF b (hsub b hb), fun b o hko => ?_, fun b hb => hold b (by omega), hkin⟩
      rcases hnew b o hko with h | ⟨h1, h2⟩
      · exact .inl h
      · exact .inr ⟨by omega, fun hb => h2 (hsub b hb)⟩
    · rcases hnew b o hko with h | ⟨_, h2⟩
      · exact hS.kout i b o ob hi hob hwr h
      · exact h2 (hmF b ⟨i, hi⟩)
  · refine ⟨hos.trans hE.os, htape.trans hE.tape, hout.trans hE.output, Nat.le_trans hE.size hsize, hE.keeps.trans hk, fun b o hko => ?_, fun b hb hm hf => (hold b (by omega)).trans (hE.block b hb hm hf), hE.len, hE.objs, hE.fresh, hE.noyld⟩
    rcases hnew b o hko with h | ⟨h1, _⟩
    · exact hE.knew b o h
    · exact .inr (.inl (by omega))
  · rcases hnew b o hko with h | ⟨h1, _⟩
    · exact (hno b hb).2.2 o h
    · rcases hb with rfl | rfl <;> omega
theorem Marks.putObj {n0 n : Nat} {ds : List Deferred} {o' : Obj} {rc : Loop} (hn : w.heap[n]? = some (.loop rc)) (hm : Marks w s n0 ds) : Marks (w.putObj n o') s n0 ds := by
  refine ⟨fun d hd => ?_, hm.2⟩
  obtain ⟨r, h1, h2, h3, h4, h5⟩ := hm.1 d hd
  have hne : r ≠ n := fun he => by subst he; rw [hn] at h3; cases h3
  exact ⟨r, h1, h2, (World.putObj_heap_other hne).trans h3, h4, h5⟩
end
end Go.Duo
