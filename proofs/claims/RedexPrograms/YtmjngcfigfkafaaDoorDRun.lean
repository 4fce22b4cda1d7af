/-
  A part of the proof.
-/
import Derived.Test.YtmjngcfigfkafaaDoorDAw
set_option linter.all false
namespace Go.Duo
open Go
section
variable {P : Program} {gl : Nat → V} {r : Option Nat} {e : Env} {st : List O} {w : World} {s : S} {Q : Exit → Env → List O → Prop}
theorem yielded_of {ops : Array Oper} {n0 : Nat} {a : Act} (ha : ActOK w s n0 e a) {j d : Nat} {b : Bool} (hd : (ops[j]?).bind (·.dst) = some d) (hg : e.get d = .bool b) : yielded ops a.tmps j = some b := by
  have h := ha.get d
  rw [hg] at h
  have h := h.bool_inv
  unfold yielded
  rw [hd]
  simp only [Option.bind_some]
  rw [Array.getD_eq_getD_getElem?] at h
  cases hx : a.tmps[d]? with
  | none => rw [hx] at h; simp [undef] at h
  | some v => rw [hx] at h; simp only [Option.getD_some] at h; rw [h]
theorem rep_hole (w : World) (s : S) : Rep w s (.tuple []) undef := .pure _ _ (.tuple [] [] rfl (by simp))
theorem hole_inv {x : Value} (h : Rep w s (.tuple []) x) : x = undef := by
  cases h with
  | pure _ _ h => cases h with | tuple _ xs hl _ => have : xs = [] := List.length_eq_zero_iff.1 hl.symm; subst this; rfl
  | tuple _ xs hl _ => have : xs = [] := List.length_eq_zero_iff.1 hl.symm; subst this; rfl
theorem yielded_hole {ops : Array Oper} {n0 : Nat} {a : Act} (ha : ActOK w s n0 e a) {j d : Nat} (hd : (ops[j]?).bind (·.dst) = some d) (hg : e.get d = .tuple []) : yielded ops a.tmps j = none := by
  have h := ha.get d
  rw [hg] at h
  have h := hole_inv h
  unfold yielded
  rw [hd]
  simp only [Option.bind_some]
  rw [Array.getD_eq_getD_getElem?] at h
  cases hx : a.tmps[d]? with
  | none => rfl
  | some v => rw [hx] at h; simp only [Option.getD_some] at h; rw [h]; rfl
theorem awL_sound {ops : Array Oper} {K : Env → List O → Prop} : ∀ (l : List Oper) (k : Nat) (e : Env) (st : List O), ops.toList.drop k = l → awL P gl ops l e st K → ∀ (n0 : Nat) (w : World) (s : S) (a : Act) (Q' : Exit → Act → World → Prop),
    n0 ≤ w.heap.size → s.st = st → Sim P gl w s → ActOK w s n0 e a → (∀ e' s' a' w', Sim P gl w' s' → Evolve w s w' s' → ActOK w' s' n0 e' a' → K e' s'.st → Q' .normal a' w') → wpOpsIn (Fr r) 0 P ops Q' (List.range' k l.length) a w := by
  intro l
  induction l with
  | nil =>
    intro k e st _ h n0 w s a Q' hn hst hs ha hk
    exact hk e s a w hs (Evolve.refl hs.wf) ha (hst ▸ h)
  | cons o rest ih =>
    intro k e st hdrop h n0 w s a Q' hn hst hs ha hk
    have hk0 : k < ops.toList.length := by
      apply Classical.byContradiction
      intro hc
      rw [List.drop_eq_nil_of_le (by omega)] at hdrop
      cases hdrop
    have hget : ops[k]? = some o := by
      have := List.getElem?_drop (xs := ops.toList) (i := k) (j := 0)
      rw [hdrop] at this
      simpa using this.symm
    have hdrop' : ops.toList.drop (k + 1) = rest := by
      rw [← List.drop_drop, hdrop]
      rfl
    simp only [List.length_cons, List.range'_succ]
    simp only [wpOpsIn, hget]
    unfold awL at h
    obtain ⟨hfit, h⟩ := h
    have hstep : ∀ {e : Env} {a : Act}, e.fits o.dst → ActOK w s n0 e a → step1 P gl (e.ev gl) st o.op (fun v st' => awL P gl ops rest (e.put o.dst v) st' K) → o.wpIn (Fr r) 0 P a w (wpOpsIn (Fr r) 0 P ops Q' (List.range' (k + 1) rest.length)) Q' := fun hfit ha h => by
      refine step1_sound h n0 w s _ _ Q' hn hst hs ha fun v x w' s' hs' hE hr hK => ?_
      exact ih (k + 1) _ _ hdrop' hK n0 w' s' _ Q' (Nat.le_trans hn hE.size) rfl hs' ((ha.evolve hE hs.wf).put hfit hr) fun e'' s'' a'' w'' k1 k2 k3 k4 => hk e'' s'' a'' w'' k1 (hE.trans hs.len hs'.len k2) k3 k4
    have hskip : ∀ {a : Act}, ActOK w s n0 e a → awL P gl ops rest (e.put o.dst (.tuple [])) st K → wpOpsIn (Fr r) 0 P ops Q' (List.range' (k + 1) rest.length) (a.put o.dst undef) w := fun ha h =>
      ih (k + 1) _ _ hdrop' h n0 w s _ Q' hn hst hs (ha.put hfit (rep_hole _ _)) hk
    cases hgd : o.guard with
    | none =>
      rw [hgd] at h
      simp only at h
      rw [if_pos (by simp [Region.wanted, hgd])]
      exact hstep hfit ha h
    | some jw =>
      obtain ⟨j, want⟩ := jw
      rw [hgd] at h
      simp only at h
      cases hd : (ops[j]?).bind (·.dst) with
      | none => rw [hd] at h; exact h.elim
      | some d =>
        rw [hd] at h
        simp only at h
        cases hv : e.get d <;> rw [hv] at h <;> try exact h.elim
        case tuple cs =>
          cases cs with
          | cons c cs => exact h.elim
          | nil =>
            rw [if_neg (by simp [Region.wanted, hgd, yielded_hole ha hd hv])]; exact ⟨fun _ _ => trivial, hskip ha h⟩
        rename_i b
        have hy := yielded_of ha hd hv
        have hw : Region.wanted o (yielded ops a.tmps) = (b == want) := by simp only [Region.wanted, hgd, hy]; cases b <;> cases want <;> rfl
        cases b with
        | true =>
          have h := h.1 rfl
          cases want with
          | true => rw [if_pos (by rw [hw]; rfl)]; exact hstep hfit ha (by simpa using h)
          | false => rw [if_neg (by rw [hw]; simp)]; exact ⟨fun _ _ => trivial, hskip ha (by simpa using h)⟩
        | false =>
          have h := h.2 rfl
          cases want with
          | true => rw [if_neg (by rw [hw]; simp)]; exact ⟨fun _ _ => trivial, hskip ha (by simpa using h)⟩
          | false => rw [if_pos (by rw [hw]; rfl)]; exact hstep hfit ha (by simpa using h)
theorem AW.region {id : Nat} {ops : Array Oper} (h : awL P gl ops ops.toList e st (Q .normal)) : AW P gl r (.region id ops false) Q e st := fun n0 w s a hn hst hs ha => by
  refine wpIn_region ?_
  have := awL_sound (r := r) ops.toList 0 e st rfl h n0 w s a (fun x a' w' => ∃ e' s', Sim P gl w' s' ∧ Evolve w s w' s' ∧ ActOK w' s' n0 e' a' ∧ Q x e' s'.st) hn hst hs ha (fun e' s' a' w' h1 h2 h3 h4 => ⟨e', s', h1, h2, h3, h4⟩)
  rw [← List.range_eq_range'] at this
  simpa using this
/-- What is still known when objects from number k on are forgotten. -/
def V.trim (k : Nat) : V → V
  | .agg cs => .agg (trimL k cs)
  | .tuple cs => .tuple (trimL k cs)
  | .func fn fs cs => .func fn (trimL k fs) (trimL k cs)
  | .iface t v => .iface t (v.trim k)
  | .sl es (some id) => if id < k then .sl es (some id) else .sl es none
  | .ref id v => if id < k then .ref id v else .undef
  | .rptr id v o => if id < k then .rptr id v o else .undef
  | .ptr id o => if id < k then .ptr id o else .undef
  | .map id => if id < k then .map id else .undef
  | .yld id => if id < k then .yld id else .undef
  | v => v
where trimL (k : Nat) : List V → List V
  | [] => []
  | c :: cs => c.trim k :: trimL k cs
theorem trimL_eq (k : Nat) (cs : List V) : V.trim.trimL k cs = cs.map (V.trim k) := by
  induction cs with
  | nil => rfl
  | cons c cs ih => simp [V.trim.trimL, ih]
def O.trim (k : Nat) : O → O
  | .box t cs => .box t (cs.map (V.trim k))
  | o => o
def S.trim (s : S) (k : Nat) : S := { s with g := s.g.take k, st := (s.st.take k).map (O.trim k) }
theorem trim_get {k i : Nat} {o : O} (h : (s.trim k).st[i]? = some o) : ∃ o', s.st[i]? = some o' ∧ o = o'.trim k ∧ i < k := by
  simp only [S.trim, List.getElem?_map, Option.map_eq_some_iff] at h
  obtain ⟨o', h1, rfl⟩ := h
  rw [List.getElem?_take] at h1
  split at h1
  · exact ⟨o', h1, rfl, by assumption⟩
  · cases h1
theorem trim_g {k i : Nat} {g : Gh} (h : (s.trim k).g[i]? = some g) : s.g[i]? = some g ∧ i < k := by
  simp only [S.trim] at h
  rw [List.getElem?_take] at h
  split at h
  · exact ⟨h, by assumption⟩
  · cases h
theorem trim_g' {k i : Nat} {g : Gh} (h : s.g[i]? = some g) (hi : i < k) : (s.trim k).g[i]? = some g := by
  simp only [S.trim]
  rw [List.getElem?_take_of_lt hi]
  exact h
theorem trim_st' {k i : Nat} {o : O} (h : s.st[i]? = some o) (hi : i < k) : (s.trim k).st[i]? = some (o.trim k) := by
  simp only [S.trim, List.getElem?_map]
  rw [List.getElem?_take_of_lt hi, h]
  rfl
theorem PR.trim {K : Nat → Nat → Prop} {k : Nat} {v : V} {x : Value} (h : PR w K v x) : PR w K (v.trim k) x := by
  induction h with
  | agg cs xs hl _ ih =>
    simp only [V.trim, trimL_eq]
    refine .agg _ xs (by simpa using hl) fun i c x hc hx => ?_
    rw [List.getElem?_map] at hc
    cases hci : cs[i]? with
    | none => simp [hci] at hc
    | some c0 => simp only [hci, Option.map_some, Option.some.injEq] at hc; subst hc; exact ih i c0 x hci hx
  | tuple cs xs hl _ ih =>
    simp only [V.trim, trimL_eq]
    refine .tuple _ xs (by simpa using hl) fun i c x hc hx => ?_
    rw [List.getElem?_map] at hc
    cases hci : cs[i]? with
    | none => simp [hci] at hc
    | some c0 => simp only [hci, Option.map_some, Option.some.injEq] at hc; subst hc; exact ih i c0 x hci hx
  | func fn fs cs xs ys hl hl' _ _ ih ih' =>
    simp only [V.trim, trimL_eq]
    refine .func fn _ _ xs ys (by simpa using hl) (by simpa using hl') (fun i c x hc hx => ?_) (fun i c x hc hx => ?_)
    · rw [List.getElem?_map] at hc
      cases hci : fs[i]? with
      | none => simp [hci] at hc
      | some c0 => simp only [hci, Option.map_some, Option.some.injEq] at hc; subst hc; exact ih i c0 x hci hx
    · rw [List.getElem?_map] at hc
      cases hci : cs[i]? with
      | none => simp [hci] at hc
      | some c0 => simp only [hci, Option.map_some, Option.some.injEq] at hc; subst hc; exact ih' i c0 x hci hx
  | iface t v x _ ih => exact .iface t _ x ih
  | int k n => exact .int k n
  | bool b => exact .bool b
  | str l => exact .str l
  | nil a => exact .nil a
  | sl es a cap sz x h1 h2 h3 h4 h5 h6 => exact .sl es a cap sz x h1 h2 h3 h4 h5 h6
  | nilptr => exact .nilptr
  | dptr cs b o x hc h => exact .dptr cs b o x hc h
  | pmap ks vs r es clock hb hK hk hv h h' => exact .pmap ks vs r es clock hb hK hk hv h h'
  | nilfunc => exact .nilfunc
  | niliface => exact .niliface
theorem Rep.trim {k : Nat} {v : V} {x : Value} (h : Rep w s v x) : Rep w (s.trim k) (v.trim k) x := by
  have mapc : ∀ {cs : List V} {xs : List Value}, (∀ (i : Nat) (c : V) (x : Value), cs[i]? = some c → xs[i]? = some x → Rep w (s.trim k) (c.trim k) x) → ∀ (i : Nat) (c : V) (x : Value), (cs.map (V.trim k))[i]? = some c → xs[i]? = some x → Rep w (s.trim k) c x := fun {cs xs} ih i c x hc hx => by
    rw [List.getElem?_map] at hc
    cases hci : cs[i]? with
    | none => simp [hci] at hc
    | some c0 => simp only [hci, Option.map_some, Option.some.injEq] at hc; subst hc; exact ih i c0 x hci hx
  induction h with
  | pure v x hp => exact .pure _ x (hp.trim (k := k))
  | undef x => exact .undef x
  | agg cs xs hl _ ih => simp only [V.trim, trimL_eq]; exact .agg _ xs (by simpa using hl) (mapc ih)
  | tuple cs xs hl _ ih => simp only [V.trim, trimL_eq]; exact .tuple _ xs (by simpa using hl) (mapc ih)
  | func fn fs cs xs ys hl hl' _ _ ih ih' => simp only [V.trim, trimL_eq]; exact .func fn _ _ xs ys (by simpa using hl) (by simpa using hl') (mapc ih) (mapc ih')
  | iface t v x _ ih => exact .iface t _ x ih
  | tok es id x hp ht =>
    simp only [V.trim]
    split
    · rename_i hi
      obtain ⟨o, ho, hm⟩ := ht
      refine .tok es id x hp ⟨o.trim k, trim_st' ho hi, ?_⟩
      cases o <;> first | exact hm | exact ⟨hm.1, fun e => (hm.2.1 e).imp (fun h => trim_g' h hi) (fun h => h), hm.2.2⟩
    · exact .pure _ _ hp
  | ref id ver x h1 hr =>
    simp only [V.trim]
    split
    · rename_i hi
      obtain ⟨o, ho, hm⟩ := hr
      refine .ref id ver x h1 ⟨o.trim k, trim_st' ho hi, ?_⟩
      cases o <;> first | exact hm | exact ⟨hm.1, fun e => (hm.2 e).imp (fun h => trim_g' h hi) (fun h => h)⟩
    · exact .undef x
  | rptr id ver off x h1 hr =>
    simp only [V.trim]
    split
    · rename_i hi
      obtain ⟨o, ho, hm⟩ := hr
      refine .rptr id ver off x h1 ⟨o.trim k, trim_st' ho hi, ?_⟩
      cases o <;> first | exact hm | exact ⟨hm.1, fun e => let ⟨y, b, h1, h2⟩ := hm.2 e; ⟨y, b, trim_g' h1 hi, h2⟩⟩
    · exact .undef x
  | ptr id off b hb =>
    simp only [V.trim]
    split
    · rename_i hi; exact .ptr id off b (trim_g' hb hi)
    · exact .undef _
  | map id b hb =>
    simp only [V.trim]
    split
    · rename_i hi; exact .map id b (trim_g' hb hi)
    · exact .undef _
  | yld id l F J Jx hb =>
    simp only [V.trim]
    split
    · rename_i hi; exact .yld id l F J Jx (trim_g' hb hi)
    · exact .undef _
theorem O.trim_lives (k : Nat) (o : O) : (o.trim k).lives = o.lives := by cases o <;> rfl
theorem own_trim {k i b : Nat} (h : (s.trim k).own i b) : s.own i b := by
  obtain ⟨o, g, ho, hl, hg, hat⟩ := h
  obtain ⟨o', h1, rfl, _⟩ := trim_get ho
  exact ⟨o', g, h1, by rw [O.trim_lives] at hl; exact hl, (trim_g hg).1, hat⟩
theorem ObjOK.trim {k : Nat} {o : O} {g : Gh} (h : ObjOK P w s o g) : ObjOK P w (s.trim k) (o.trim k) g := by
  cases o <;> cases g <;> simp only [ObjOK, O.trim] at h ⊢ <;> try exact h
  rotate_left
  · exact ⟨h.1, h.2.1, h.2.2.1, fun b ⟨i, hi⟩ => h.2.2.2 b ⟨i, own_trim hi⟩⟩
  obtain ⟨arr, h1, h2, h3⟩ := h
  refine ⟨arr, h1, by simpa using h2, fun i c x hc hx => ?_⟩
  rw [List.getElem?_map] at hc
  rename_i cs _
  cases hci : cs[i]? with
  | none => simp [hci] at hc
  | some c0 => simp only [hci, Option.map_some, Option.some.injEq] at hc; subst hc; exact (h3 i c0 x hci hx).trim
theorem foreign_trim {k b : Nat} (h : (s.trim k).foreign b) : s.foreign b := by
  obtain ⟨i, xs, n, l, go, F, J, Jx, ho, hg, hF⟩ := h
  obtain ⟨o', h1, he, _⟩ := trim_get ho
  cases o' <;> simp [O.trim] at he
  obtain ⟨rfl, rfl, rfl⟩ := he
  exact ⟨i, xs, n, l, go, F, J, Jx, h1, (trim_g hg).1, hF⟩
theorem Sim.trim (h : Sim P gl w s) (k : Nat) : Sim P gl w (s.trim k) where
  len := by simp [S.trim, h.len]
  obj := fun i o g ho hg => by
    obtain ⟨o', h1, rfl, _⟩ := trim_get ho
    exact (h.obj i o' g h1 (trim_g hg).1).trim
  inj := fun i j b hi hj => h.inj i j b (own_trim hi) (own_trim hj)
  kout := fun i b o ob hi hob hwr => by
    obtain ⟨o', h1, rfl, _⟩ := trim_get hob
    refine h.kout i b o o' (own_trim hi) h1 ?_
    cases o' <;> exact hwr
  kin := h.kin
  fgn := fun b hb => ⟨(h.fgn b (foreign_trim hb)).1, fun ⟨i, hi⟩ => (h.fgn b (foreign_trim hb)).2 ⟨i, own_trim hi⟩⟩
  glob := h.glob
end
end Go.Duo
