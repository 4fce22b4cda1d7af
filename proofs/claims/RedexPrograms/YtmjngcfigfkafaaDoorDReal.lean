/-
  A part of the proof.
-/
import Derived.Test.YtmjngcfigfkafaaDoorDTac
import Derived.IntWalk
set_option linter.all false
namespace Go.Duo
open Go
section
variable {P : Program} {gl : Nat → V} {r : Option Nat} {e : Env} {st : List O} {w : World} {s : S} {Q : Exit → Env → List O → Prop}
theorem PR.trim_id {K : Nat → Nat → Prop} {k : Nat} {v : V} {x : Value} (h : PR w K v x) : v.trim k = v := by
  have mapid : ∀ {cs : List V} {xs : List Value}, cs.length = xs.length → (∀ (i : Nat) (c : V) (x : Value), cs[i]? = some c → xs[i]? = some x → c.trim k = c) → cs.map (V.trim k) = cs := fun {cs xs} hl ih => by
    apply List.ext_getElem (by simp)
    intro i h1 h2
    rw [List.getElem_map]
    exact ih i _ (xs[i]'(by omega)) (List.getElem?_eq_getElem h2) (List.getElem?_eq_getElem _)
  induction h with
  | agg cs xs hl _ ih => simp only [V.trim, trimL_eq, mapid hl ih]
  | tuple cs xs hl _ ih => simp only [V.trim, trimL_eq, mapid hl ih]
  | func fn fs cs xs ys hl hl' _ _ ih ih' => simp only [V.trim, trimL_eq, mapid hl ih, mapid hl' ih']
  | iface t v x _ ih => simp only [V.trim, ih]
  | _ => rfl
theorem Rep.trim_id (hl : s.g.length = s.st.length) {k : Nat} (hk : s.st.length ≤ k) {v : V} {x : Value} (h : Rep w s v x) : v.trim k = v := by
  have mapid : ∀ {cs : List V} {xs : List Value}, cs.length = xs.length → (∀ (i : Nat) (c : V) (x : Value), cs[i]? = some c → xs[i]? = some x → c.trim k = c) → cs.map (V.trim k) = cs := fun {cs xs} hl ih => by
    apply List.ext_getElem (by simp)
    intro i h1 h2
    rw [List.getElem_map]
    exact ih i _ (xs[i]'(by omega)) (List.getElem?_eq_getElem h2) (List.getElem?_eq_getElem _)
  induction h with
  | pure v x hp => exact hp.trim_id
  | undef x => rfl
  | agg cs xs hl _ ih => simp only [V.trim, trimL_eq, mapid hl ih]
  | tuple cs xs hl _ ih => simp only [V.trim, trimL_eq, mapid hl ih]
  | func fn fs cs xs ys hl hl' _ _ ih ih' => simp only [V.trim, trimL_eq, mapid hl ih, mapid hl' ih']
  | iface t v x _ ih => simp only [V.trim, ih]
  | tok es id x hp ht =>
    obtain ⟨o, ho, _⟩ := ht
    have := (List.getElem?_eq_some_iff.1 ho).1
    simp only [V.trim, if_pos (show id < k by omega)]
  | ref id ver x h1 ht =>
    obtain ⟨o, ho, _⟩ := ht
    have := (List.getElem?_eq_some_iff.1 ho).1
    simp only [V.trim, if_pos (show id < k by omega)]
  | rptr id ver off x h1 ht =>
    obtain ⟨o, ho, _⟩ := ht
    have := (List.getElem?_eq_some_iff.1 ho).1
    simp only [V.trim, if_pos (show id < k by omega)]
  | ptr id off b hb =>
    have := (List.getElem?_eq_some_iff.1 hb).1
    simp only [V.trim, if_pos (show id < k by omega)]
  | map id b hb =>
    have := (List.getElem?_eq_some_iff.1 hb).1
    simp only [V.trim, if_pos (show id < k by omega)]
  | yld id l F J Jx hb =>
    have := (List.getElem?_eq_some_iff.1 hb).1
    simp only [V.trim, if_pos (show id < k by omega)]
/-- Nothing dangles. -/
def Clo (st : List O) : Prop := ∀ k, st.length ≤ k → st.map (O.trim k) = st
theorem Sim.clo (h : Sim P gl w s) : Clo s.st := fun k hk => by
  apply List.ext_getElem (by simp)
  intro i h1 h2
  rw [List.getElem_map]
  have ho : s.st[i]? = some s.st[i] := List.getElem?_eq_getElem h2
  have hg : s.g[i]? = some (s.g[i]'(by rw [h.len]; exact h2)) := List.getElem?_eq_getElem _
  have hk' := h.obj i _ _ ho hg
  generalize s.st[i] = o at hk'
  generalize s.g[i]'(by rw [h.len]; exact h2) = g at hk'
  cases o with
  | box t cs =>
    cases g <;> simp only [ObjOK] at hk'
    obtain ⟨arr, ha, hl, hr⟩ := hk'
    simp only [O.trim, O.box.injEq, true_and]
    apply List.ext_getElem (by simp)
    intro j h3 h4
    rw [List.getElem_map]
    exact (hr j _ (arr[j]'(by omega)) (List.getElem?_eq_getElem h4) (Array.getElem?_eq_getElem _)).trim_id h.len hk
  | _ => rfl
theorem Call.clo {k : FuncId} {args : List V} {K : V → List O → Prop} (h : Clo st → Call P gl k args st K) : Call P gl k args st K := fun w s xs hst hs hxs => h (hst ▸ hs.clo) w s xs hst hs hxs
theorem AW.clo {c : Code} (h : Clo st → AW P gl r c Q e st) : AW P gl r c Q e st := fun n0 w s a hn hst hs ha => h (hst ▸ hs.clo) n0 w s a hn hst hs ha
theorem Clo.trim (h : Clo st) : trimS st.length st = st := by
  unfold trimS
  rw [List.take_of_length_le (Nat.le_refl _)]
  exact h _ (Nat.le_refl _)
theorem Clo.trim_append (h : Clo st) (l : List O) : trimS st.length (st ++ l) = st := by
  unfold trimS
  rw [List.take_left]
  exact h _ (Nat.le_refl _)
/-- A value of some world. -/
def Real (v : V) : Prop := ∃ (w : World) (K : Nat → Nat → Prop) (x : Value), PR w K v x
theorem Call.real {k : FuncId} {args : List V} {K : V → List O → Prop} (h : (∀ v ∈ args, PureV v → Real v.bare) → Call P gl k args st K) : Call P gl k args st K := fun w s xs hst hs hxs =>
  h (fun v hv hp => by
    obtain ⟨i, hi⟩ := List.mem_iff_getElem?.1 hv
    have hlt : i < xs.length := by rw [← hxs.1]; exact (List.getElem?_eq_some_iff.1 hi).1
    exact ⟨w, s.K, _, hp w s _ (hxs.2 i v _ hi (List.getElem?_eq_getElem hlt))⟩) w s xs hst hs hxs
theorem Real.sl {es : List V} (h : Real (.sl es none)) : es.length ≤ maxLen ∧ ∀ c ∈ flat es, Real c := by
  obtain ⟨w, K, x, hp⟩ := h
  obtain ⟨a, cap, sz, y, _, h1, h2, h3, h4, h5⟩ := hp.sl_inv
  refine ⟨by omega, fun c hc => ?_⟩
  obtain ⟨j, hj⟩ := List.mem_iff_getElem?.1 hc
  exact ⟨w, K, _, (h5 j c hj).2⟩
theorem Real.agg {cs : List V} (h : Real (.agg cs)) : ∀ c ∈ cs, Real c := by
  obtain ⟨w, K, x, hp⟩ := h
  cases hp with
  | agg _ xs hl h =>
    intro c hc
    obtain ⟨i, hi⟩ := List.mem_iff_getElem?.1 hc
    have hlt : i < xs.length := by rw [← hl]; exact (List.getElem?_eq_some_iff.1 hi).1
    exact ⟨w, K, _, h i c _ hi (List.getElem?_eq_getElem hlt)⟩
theorem Real.dptr {cs : List V} (h : Real (.dptr cs)) : ∀ c ∈ cs, Real c := by
  obtain ⟨w, K, x, hp⟩ := h
  cases hp with
  | dptr _ b o x hc h =>
    intro c hc'
    obtain ⟨i, hi⟩ := List.mem_iff_getElem?.1 hc'
    exact ⟨w, K, _, h i c hi⟩
theorem getD_map {α : Type} (f : α → V) (l : List α) (i : Nat) (h : i < l.length) (u : V) : (l.map f).getD i u = f l[i] := by
  rw [List.getD_eq_getElem?_getD, List.getElem?_map, List.getElem?_eq_getElem h]; rfl
theorem i64_ok {n : Int} (h1 : -9223372036854775808 ≤ n) (h2 : n ≤ 9223372036854775807) : IntKind.wrap .i64 n = n := IntWalk.i64_in n ⟨h1, h2⟩
theorem st_get0 (l : List O) : (st ++ l)[st.length]? = l[0]? := by rw [List.getElem?_append_right (Nat.le_refl _), Nat.sub_self]
theorem st_get (l : List O) (n : Nat) : (st ++ l)[st.length + n]? = l[n]? := by rw [List.getElem?_append_right (by omega), Nat.add_sub_cancel_left]
theorem st_set0 (l : List O) (o : O) : (st ++ l).set st.length o = st ++ l.set 0 o := by rw [List.set_append_right _ _ (Nat.le_refl _), Nat.sub_self]
theorem st_set (l : List O) (n : Nat) (o : O) : (st ++ l).set (st.length + n) o = st ++ l.set n o := by rw [List.set_append_right _ _ (by omega), Nat.add_sub_cancel_left]
theorem st_len (l : List O) : (st ++ l).length = st.length + l.length := List.length_append
theorem c_agg (cs : List V) : (V.agg cs).cells = cs := rfl
theorem awL_case {ops : Array Oper} {l : List Oper} {K : Env → List O → Prop} {b : Bool} (d : Nat) (_ : e.get d = .bool b) (h1 : b = true → awL P gl ops l e st K) (h2 : b = false → awL P gl ops l e st K) : awL P gl ops l e st K := by cases b <;> simp_all
theorem awA_case {ops : Array Oper} {l : List Oper} {ups : List Up} {K : Env → List O → Prop} {b : Bool} (d : Nat) (_ : e.get d = .bool b) (h1 : b = true → awA P gl ops l e st ups K) (h2 : b = false → awA P gl ops l e st ups K) : awA P gl ops l e st ups K := by cases b <;> simp_all
/-- Reckoning with what is known of temporaries, lists and objects. -/
theorem S0 : (∀ (gl : Nat → V) (e : Env) (t : Nat), e.ev gl (.tmp t) = e.get t) ∧ (∀ (gl : Nat → V) (e : Env) (v : Value), e.ev gl (.const v) = V.ofConst v) ∧ (∀ (gl : Nat → V) (e : Env) (f : Nat), e.ev gl (.func f) = .func (.func f) [] []) ∧
    (∀ (n : Nat) (m : List (Nat × V)) (t : Nat), Env.get ⟨n, m⟩ t = getM m t) ∧ (∀ (n : Nat) (m : List (Nat × V)) (d : Nat) (v : V), Env.put ⟨n, m⟩ (some d) v = ⟨n, (d, v) :: m⟩) ∧ (∀ (e : Env) (v : V), e.put none v = e) ∧
    (∀ (a : Nat) (v : V) (m : List (Nat × V)) (t : Nat), getM ((a, v) :: m) t = if a = t then v else getM m t) ∧
    (∀ (k : IntKind) (n : Int), V.ofConst (.int k n) = .int k n) ∧ (∀ b : Bool, V.ofConst (.bool b) = .bool b) ∧ (V.ofConst (.slice none 0 0) = .nil) ∧ (V.ofConst (.pointer none) = .nilptr) ∧ (V.ofConst .nilFunc = .nilfunc) ∧ (V.ofConst .nilIface = .niliface) ∧ (∀ s : ByteArray, V.ofConst (.string s) = .str s.data.toList) ∧
    (∀ (a : Nat) (v : V) (n : Nat) (m : List (Nat × V)), Env.m ⟨n, (a, v) :: m⟩ = (a, v) :: m) := by
  refine ⟨fun _ _ _ => rfl, fun _ _ _ => rfl, fun _ _ _ => rfl, fun _ _ _ => rfl, fun _ _ _ _ => rfl, fun _ _ => rfl, fun _ _ _ _ => rfl, fun _ _ => rfl, fun _ => rfl, rfl, rfl, rfl, rfl, fun _ => rfl, fun _ _ _ _ => rfl⟩
theorem S1 : ((false = true) = False) ∧ (∀ {α : Type} (a : α) (l m : List α), (a :: l) ++ m = a :: (l ++ m)) ∧ (∀ {α : Type} (l : List α), [] ++ l = l) ∧ (∀ {α : Type} (l : List α), l ++ [] = l) ∧ (∀ {α : Type} (a : α) (l : List α), (a :: l)[0]? = some a) ∧ (∀ {α : Type} (a : α) (l : List α) (n : Nat), (a :: l)[n + 1]? = l[n]?) ∧ (∀ {α β : Type} (f : α → β) (a : α) (l : List α), (a :: l).map f = f a :: l.map f) ∧ (∀ {α β : Type} (f : α → β), ([] : List α).map f = []) ∧ (∀ {α β : Type} (l : List α) (f : α → β), (l.map f).length = l.length) ∧ (∀ {α : Type} (a : α) (l : List α), (a :: l).length = l.length + 1) ∧ (∀ {α : Type}, ([] : List α).length = 0) ∧
    (∀ {α : Type} (n : Nat) (a : α) (l : List α), (a :: l).drop (n + 1) = l.drop n) ∧ (∀ {α : Type} (l : List α), l.drop 0 = l) ∧ (∀ {α : Type} (n : Nat) (a : α) (l : List α), (a :: l).take (n + 1) = a :: l.take n) ∧ (∀ {α : Type} (l : List α), l.take 0 = []) ∧ (∀ {α : Type} (n : Nat), ([] : List α).take n = []) ∧
    (∀ {α : Type} (a : α) (l : List α) (d : α), (a :: l).headD d = a) ∧ (∀ n : Nat, (n : Int).toNat = n) ∧ (∀ n : Nat, 0 + n = n) ∧ (∀ n : Nat, n + 0 = n) ∧ (∀ n : Nat, (n ≤ n) = True) ∧ (∀ p : Prop, (True ∧ p) = p) ∧ (∀ p : Prop, (p ∧ True) = p) ∧ (∀ n : Nat, ((0 : Int) ≤ (n : Int)) = True) ∧ (∀ a b : Nat, ((a : Int) < (b : Int)) = (a < b)) ∧
    (∀ {α : Type} (p : α → Bool) (a : α) (l : List α), (a :: l).all p = (p a && l.all p)) ∧ (∀ {α : Type} (p : α → Bool), ([] : List α).all p = true) ∧ (∀ b : Bool, (b && true) = b) ∧ (∀ b : Bool, (true && b) = b) := by
  refine ⟨by simp, fun _ _ _ => rfl, fun _ => rfl, List.append_nil, fun _ _ => rfl, fun _ _ _ => rfl, fun _ _ _ => rfl, fun _ => rfl, fun _ _ => List.length_map .., fun _ _ => rfl, rfl, fun _ _ _ => rfl, fun _ => rfl, fun _ _ _ => rfl, fun _ => rfl, fun _ => List.take_nil, fun _ _ _ => rfl, fun _ => rfl, Nat.zero_add, fun _ => rfl, fun _ => by simp, fun _ => by simp, fun _ => by simp, fun _ => by simp, fun _ _ => by simp, fun _ _ _ => by simp, fun _ => rfl, Bool.and_true, Bool.true_and⟩
theorem S2 : (∀ (st l : List O), (st ++ l)[st.length]? = l[0]?) ∧ (∀ (st l : List O) (n : Nat), (st ++ l)[st.length + n]? = l[n]?) ∧ (∀ (st l : List O) (o : O), (st ++ l).set st.length o = st ++ l.set 0 o) ∧ (∀ (st l : List O) (n : Nat) (o : O), (st ++ l).set (st.length + n) o = st ++ l.set n o) ∧
    (∀ (st l : List O), (st ++ l).length = st.length + l.length) ∧ (∀ (a b c : List O), (a ++ b) ++ c = a ++ (b ++ c)) ∧ (∀ (a : O) (b c : List O), (a :: b) ++ c = a :: (b ++ c)) ∧ (∀ (a : List O), [] ++ a = a) ∧ (∀ (a : O) (b : List O), (a :: b)[0]? = some a) ∧ (∀ (a : O) (b : List O) (n : Nat), (a :: b)[n + 1]? = b[n]?) ∧
    (∀ (a c : O) (b : List O), (a :: b).set 0 c = c :: b) ∧ (∀ (a c : O) (b : List O) (n : Nat), (a :: b).set (n + 1) c = a :: b.set n c) ∧ (∀ a b c : Nat, a + b + c = a + (b + c)) := by
  refine ⟨fun _ l => st_get0 l, fun _ l n => st_get l n, fun _ l o => st_set0 l o, fun _ l n o => st_set l n o, fun _ l => st_len l, List.append_assoc, fun _ _ _ => rfl, fun _ => rfl, fun _ _ => rfl, fun _ _ _ => rfl, fun _ _ _ => rfl, fun _ _ _ _ => rfl, Nat.add_assoc⟩
theorem S3 : (∀ cs : List V, (V.agg cs).cells = cs) ∧ (∀ (k : IntKind) (n : Int), (V.int k n).cells = [.int k n]) ∧ (∀ b : Bool, (V.bool b).cells = [.bool b]) ∧ (∀ l : List UInt8, (V.str l).cells = [.str l]) ∧ (∀ (l : List V) (t : Option Nat), (V.sl l t).cells = [.sl l t]) ∧ (V.nil.cells = [.nil]) ∧
    (∀ i o : Nat, (V.ptr i o).cells = [.ptr i o]) ∧ (∀ l : List V, (V.dptr l).cells = [.dptr l]) ∧ (∀ (f : Fn) (a b : List V), (V.func f a b).cells = [.func f a b]) ∧ (∀ i : Nat, (V.map i).cells = [.map i]) ∧ (∀ a b : List V, (V.pmap a b).cells = [.pmap a b]) :=
  ⟨fun _ => rfl, fun _ _ => rfl, fun _ => rfl, fun _ => rfl, fun _ _ => rfl, rfl, fun _ _ => rfl, fun _ => rfl, fun _ _ _ => rfl, fun _ => rfl, fun _ _ => rfl⟩
/-- Cells, objects: each at least as the other says. -/
def CLe (S : List O) : List V → List V → Prop
  | [], [] => True
  | c :: cs, d :: ds => V.le S c d ∧ CLe S cs ds
  | _, _ => False
def OLe (S : List O) : List O → List O → Prop
  | [], [] => True
  | o :: l, o' :: l' => O.le S o o' ∧ OLe S l l'
  | _, _ => False
theorem CLe.spec {S : List O} : ∀ {cs ds : List V}, CLe S cs ds → cs.length = ds.length ∧ ∀ (i : Nat) (c d : V), cs[i]? = some c → ds[i]? = some d → V.le S c d := by
  intro cs
  induction cs with
  | nil => intro ds h; cases ds with
    | nil => exact ⟨rfl, by simp⟩
    | cons => exact h.elim
  | cons c cs ih =>
    intro ds h
    cases ds with
    | nil => exact h.elim
    | cons d ds =>
      obtain ⟨h1, h2⟩ := h
      obtain ⟨h3, h4⟩ := ih h2
      refine ⟨by simp [h3], fun i a b ha hb => ?_⟩
      cases i with
      | zero => simp only [List.getElem?_cons_zero, Option.some.injEq] at ha hb; subst ha hb; exact h1
      | succ i => exact h4 i a b (by simpa using ha) (by simpa using hb)
theorem O.le_box {S : List O} {t : TypeId} {cs ds : List V} (h : CLe S cs ds) : O.le S (.box t cs) (.box t ds) := ⟨ds, rfl, h.spec.1, h.spec.2⟩
theorem OLe.spec {S : List O} : ∀ {l l' : List O}, OLe S l l' → l.length = l'.length ∧ ∀ (i : Nat) (c d : O), l[i]? = some c → l'[i]? = some d → O.le S c d := by
  intro cs
  induction cs with
  | nil => intro ds h; cases ds with
    | nil => exact ⟨rfl, by simp⟩
    | cons => exact h.elim
  | cons c cs ih =>
    intro ds h
    cases ds with
    | nil => exact h.elim
    | cons d ds =>
      obtain ⟨h1, h2⟩ := h
      obtain ⟨h3, h4⟩ := ih h2
      refine ⟨by simp [h3], fun i a b ha hb => ?_⟩
      cases i with
      | zero => simp only [List.getElem?_cons_zero, Option.some.injEq] at ha hb; subst ha hb; exact h1
      | succ i => exact h4 i a b (by simpa using ha) (by simpa using hb)
theorem StLe.app {l l' : List O} (h : OLe (st ++ l) l l') : StLe (st ++ l) (st ++ l') := by
  obtain ⟨h1, h2⟩ := h.spec
  refine ⟨by simp [h1], fun i o o' ho ho' => ?_⟩
  by_cases hi : i < st.length
  · rw [List.getElem?_append_left hi] at ho ho'
    rw [ho] at ho'
    simp only [Option.some.injEq] at ho'
    subst ho'
    exact O.le_refl _ _
  · rw [List.getElem?_append_right (by omega)] at ho ho'
    exact h2 _ o o' ho ho'
theorem trimS_app (h : Clo st) {k : Nat} (hk : st.length ≤ k) (l : List O) : trimS k (st ++ l) = st ++ (l.take (k - st.length)).map (O.trim k) := by
  unfold trimS
  rw [List.take_append, List.map_append, List.take_of_length_le hk, h k hk]
theorem awA_cyes {ops : Array Oper} {o : Oper} {rest : List Oper} {ups : List Up} {K : Env → List O → Prop} {j d : Nat} {want : Bool} (hg : o.guard = some (j, want)) (hd : (ops[j]?).bind (·.dst) = some d) (hv : e.get d = .bool want) (hc : calm o.op = true) (hf : fitB e o.dst = true)
    (h : ∀ K2 : V → List O → Prop, (∀ v st', st' = st → awA P gl ops rest (e.put o.dst v) st ups K → K2 v st') → step1 P gl (e.ev gl) st o.op K2) : awA P gl ops (o :: rest) e st ups K := by
  refine awA_kyes hg hd hv hf fun K3 h3 _ => ?_
  have h1 := h (fun v _ => K3 v none) (fun v st' _ hk => h3 v hk)
  unfold stepA
  cases ho : o.op <;> rw [ho] at hc h1 <;> first
    | (simp only [calm, Bool.false_eq_true] at hc; done)
    | exact (if_pos hc).symm ▸ h1
    | skip
  rename_i c
  simp only at h1 ⊢
  cases hcal : c.callee with
  | value f => simp only [calm, hcal, Bool.false_eq_true] at hc
  | invoke a b => simp only [calm, hcal, Bool.false_eq_true] at hc
  | builtin b =>
    simp only [calm, hcal] at hc
    cases b <;> first
      | (simp only [Bool.false_eq_true] at hc; done)
      | (simp only [calm, hcal]; rw [if_pos trivial]; exact h1)
end
end Go.Duo
