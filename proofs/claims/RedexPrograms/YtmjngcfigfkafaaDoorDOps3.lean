/-
  A part of the proof.
-/
import Derived.Test.YtmjngcfigfkafaaDoorDOps2
set_option linter.all false
namespace Go.Duo
open Go
def bndOf (d : Int) : Option V → Option Int
  | none => some d
  | some (.int _ n) => some n
  | some _ => none
def sliceP (P : Program) (t : TypeId) (x : V) (lo hi mx : Option V) (K : V → Prop) : Prop :=
  match x with
  | .str s => P.underlying t = some .string ∧ match mx, bndOf 0 lo, bndOf s.length hi with
    | none, some l, some h => 0 ≤ l ∧ l ≤ h ∧ h ≤ s.length ∧ K (.str ((s.take h.toNat).drop l.toNat))
    | _, _, _ => False
  | .sl es _ => match elt P t with
    | none => False
    | some (_, sz, _) => match mx, bndOf 0 lo, bndOf es.length hi with
      | none, some l, some h => (∀ e ∈ es, e.cells.length = sz) ∧ 0 ≤ l ∧ l ≤ h ∧ h ≤ es.length ∧ K (.sl ((es.take h.toNat).drop l.toNat) none)
      | some (.int _ m), some l, some h => hi.isSome = true ∧ m = 0 ∧ l = 0 ∧ h = 0 ∧ K .nil
      | _, _, _ => False
  | .nil => match elt P t with
    | none => False
    | some _ => match mx, bndOf 0 lo, bndOf 0 hi with
      | none, some l, some h => l = 0 ∧ h = 0 ∧ K .nil
      | some (.int _ m), some l, some h => hi.isSome = true ∧ m = 0 ∧ l = 0 ∧ h = 0 ∧ K .nil
      | _, _, _ => False
  | .dptr cs => match arr P t, lo, hi, mx with
    | some (len, 1, false), none, none, none => len ≤ cs.length ∧ len ≤ maxLen ∧ (cs.take len).all V.one = true ∧ K (.sl (cs.take len) none)
    | _, _, _, _ => False
  | _ => False
section
variable {P : Program} {gl : Nat → V} {w : World} {s : S} {x y : Value} {a b : V} {K : V → Prop}
/-- Bounds, as they come. -/
inductive RepO (w : World) (s : S) : Option V → Option Value → Prop
  | none : RepO w s none none
  | some (v : V) (x : Value) (h : Rep w s v x) : RepO w s (some v) (some x)
theorem RepO.mk {ρ : Operand → Value} {e : Operand → V} (h : ∀ o, Rep w s (e o) (ρ o)) (o : Option Operand) : RepO w s (o.map e) (o.map ρ) := by
  cases o with
  | none => exact .none
  | some o => exact .some _ _ (h o)
theorem run_bound {k : IntKind} {n : Int} {m : Nat} {c : BoundsCode} (h0 : 0 ≤ n) (h1 : n ≤ m) : (Instr.sliceBound (.int k n) m c).run P w = .ok n.toNat w := by
  simp only [Instr.sliceBound, asIntOf, Sem.run_bind, Sem.run_pure, Result.andThen_ok]
  rw [if_pos ⟨h0, h1⟩]
  rfl
theorem run_bounds {isSlice : Bool} {len cap : Nat} {lo hi : Option V} {l h : Int} {xl xh : Option Value} (hl : RepO w s lo xl) (hh : RepO w s hi xh) (el : bndOf 0 lo = some l) (eh : bndOf len hi = some h) (h0 : 0 ≤ l) (h1 : l ≤ h) (h2 : h ≤ cap) :
    (Instr.sliceBounds isSlice len cap xl xh none).run P w = .ok (l.toNat, h.toNat, cap) w := by
  cases hh with
  | none =>
    simp only [bndOf, Option.some.injEq] at eh
    subst eh
    cases hl with
    | none =>
      simp only [bndOf, Option.some.injEq] at el
      subst el
      simp [Instr.sliceBounds]
    | some v z hv =>
      cases v with
      | int k n =>
        simp only [bndOf, Option.some.injEq] at el
        subst el
        cases hv.int_inv
        simp [Instr.sliceBounds, run_bound h0 h1]
      | _ => simp [bndOf] at el
  | some u y hu =>
    cases u with
    | int k' n' =>
      simp only [bndOf, Option.some.injEq] at eh
      subst eh
      cases hu.int_inv
      have hb := fun c => run_bound (P := P) (w := w) (k := k') (c := c) (show (0 : Int) ≤ n' by omega) h2
      cases hl with
      | none =>
        simp only [bndOf, Option.some.injEq] at el
        subst el
        simp [Instr.sliceBounds, hb]
      | some v z hv =>
        cases v with
        | int k n =>
          simp only [bndOf, Option.some.injEq] at el
          subst el
          cases hv.int_inv
          have hb' := fun c => run_bound (P := P) (w := w) (k := k) (c := c) (m := n'.toNat) h0 (by omega)
          simp [Instr.sliceBounds, hb, hb']
        | _ => simp [bndOf] at el
    | _ => simp [bndOf] at eh
/-- Bounds that are all 0. -/
theorem run_bounds0 {len cap : Nat} {lo hi : Option V} {xl xh : Option Value} {x : Value} {l h : Int} {k : IntKind} (hl : RepO w s lo xl) (hh : RepO w s hi xh) (hv : Rep w s (.int k 0) x) (el : bndOf 0 lo = some l) (eh : bndOf len hi = some h) (h0 : l = 0) (h1 : h = 0)
    (hi0 : hi.isSome = true) : (Instr.sliceBounds true len cap xl xh (some x)).run P w = .ok (0, 0, 0) w := by
  subst h0 h1
  cases hv.int_inv
  have hb := fun (k : IntKind) (c : BoundsCode) (m : Nat) => run_bound (P := P) (w := w) (k := k) (c := c) (n := 0) (m := m) (Int.le_refl _) (by omega)
  cases hh with
  | none => cases hi0
  | some u y hu =>
    cases u with
    | int k' n' =>
      simp only [bndOf, Option.some.injEq] at eh
      subst eh
      cases hu.int_inv
      cases hl with
      | none => simp [Instr.sliceBounds, hb]
      | some v z hv =>
        cases v with
        | int k n =>
          simp only [bndOf, Option.some.injEq] at el
          subst el
          cases hv.int_inv
          simp [Instr.sliceBounds, hb]
        | _ => simp [bndOf] at el
    | _ => simp [bndOf] at eh
theorem pr_cut {es : List V} {ad : Option Addr} {cap sz l h : Nat} (hp : PR w s.K (.sl es none) (.slice ad es.length cap)) (hl : l ≤ h) (hh : h ≤ es.length) (hsz : ∀ sz', (∀ e ∈ es, e.cells.length = sz') → es ≠ [] → sz' = sz) :
    PR w s.K (.sl ((es.take h).drop l) none) (.slice (if cap = l then ad else ad.map (·.add (l * sz))) (h - l) (cap - l)) := by
  obtain ⟨ad', cap', sz', y, he, hc1, hc2, hall, h1, hcell⟩ := hp.sl_inv
  simp only [Value.slice.injEq] at he
  obtain ⟨rfl, _, rfl⟩ := he
  have hlen : ((es.take h).drop l).length = h - l := by simp; omega
  rw [← hlen]
  have hmem : ∀ e ∈ (es.take h).drop l, e ∈ es := fun e he => List.mem_of_mem_take (List.mem_of_mem_drop he)
  have hfm : ∀ c ∈ flat ((es.take h).drop l), c ∈ flat es := fun c hc => by
    obtain ⟨e, he, hce⟩ := List.mem_flatMap.1 hc
    exact List.mem_flatMap.2 ⟨e, hmem e he, hce⟩
  have hidx : ∀ j c, (flat ((es.take h).drop l))[j]? = some c → (flat es)[l * sz' + j]? = some c := fun j c hj => by
    have hsplit : es = es.take l ++ ((es.take h).drop l ++ es.drop h) := by
      have e1 : es.take h = es.take l ++ (es.take h).drop l := by
        conv => lhs; rw [← List.take_append_drop l (es.take h)]
        rw [List.take_take, Nat.min_eq_left hl]
      rw [← List.append_assoc, ← e1, List.take_append_drop]
    have hf : flat es = flat (es.take l) ++ (flat ((es.take h).drop l) ++ flat (es.drop h)) := by
      conv => lhs; rw [hsplit]
      rw [flat_append, flat_append]
    have hfl : (flat (es.take l)).length = l * sz' := by
      rw [flat_length (sz := sz') (fun e he => hall e (List.mem_of_mem_take he))]
      simp [Nat.min_eq_left (Nat.le_trans hl hh)]
    rw [hf, List.getElem?_append_right (by omega), hfl, show l * sz' + j - l * sz' = j by omega, List.getElem?_append_left (List.getElem?_eq_some_iff.1 hj).1]
    exact hj
  refine .sl _ _ _ sz' (fun j => y (l * sz' + j)) (by omega) (by omega) (fun e he => hall e (hmem e he)) (fun c hc => h1 c (hfm c hc)) (fun j c hj => ?_) (fun j c hj => (hcell _ c (hidx j c hj)).2)
  have hne : es ≠ [] := fun hn => by subst hn; simp at hj
  obtain rfl := hsz sz' hall hne
  obtain ⟨b, o, rfl, hc⟩ := (hcell _ c (hidx j c hj)).1
  have hlt : l < h := by
    apply Classical.byContradiction
    intro hn
    have : (es.take h).drop l = [] := List.eq_nil_of_length_eq_zero (by rw [hlen]; omega)
    rw [this] at hj
    simp at hj
  rw [if_neg (by omega)]
  refine ⟨b, o + l * sz', ?_, ?_⟩
  · simp [addr_add]
  · rw [Nat.add_assoc]
    exact hc
theorem slice_sound {t : TypeId} {lo hi mx : Option V} {xl xh xm : Option Value} (hx : Rep w s a x) (hl : RepO w s lo xl) (hh : RepO w s hi xh) (hm : RepO w s mx xm) (h : sliceP P t a lo hi mx K) :
    ∃ v z, (Instr.sliceAt t x xl xh xm).run P w = .ok z w ∧ Rep w s v z ∧ K v := by
  cases a with
  | str st =>
    obtain ⟨hu, h⟩ := h
    cases hx.str_inv
    cases mx with
    | some m => simp at h
    | none =>
      cases hm
      cases el : bndOf 0 lo with
      | none => simp [el] at h
      | some l =>
        cases eh : bndOf st.length hi with
        | none => simp [el, eh] at h
        | some hg =>
          rw [el, eh] at h
          obtain ⟨h0, h1, h2, h⟩ := h
          refine ⟨_, _, ?_, .pure _ _ (.str _), h⟩
          have hsz : (⟨st.toArray⟩ : ByteArray).size = st.length := by simp [ByteArray.size]
          have hb := run_bounds (P := P) (w := w) (isSlice := false) (len := st.length) (cap := st.length) hl hh el eh h0 h1 h2
          simp only [Instr.sliceAt, Instr.slice, Sem.run_bind, run_underlying hu, Result.andThen_ok, Option.isSome_none, Bool.false_eq_true, if_false, Sem.run_pure, hsz, hb, Result.ok.injEq, Value.string.injEq, and_true]
          apply ByteArray.ext
          apply Array.ext'
          rw [Lib.extract_data]
          simp [List.drop_take]
  | sl es tk =>
    simp only [sliceP] at h
    cases he : elt P t with
    | none => simp [he] at h
    | some o =>
      obtain ⟨e, sz, by_⟩ := o
      rw [he] at h
      obtain ⟨hu, hsize⟩ := elt_lay he w
      have hp : PR w s.K (.sl es none) x := hx.sl_inv
      obtain ⟨ad, cap, _, _, rfl, hcap, hmax, _⟩ := hp.sl_inv
      cases el : bndOf 0 lo with
      | none => cases mx <;> simp [el] at h
      | some l =>
        cases eh : bndOf es.length hi with
        | none => cases mx <;> simp [el, eh] at h
        | some hg =>
          cases mx with
          | none =>
            cases hm
            rw [el, eh] at h
            obtain ⟨hall, h0, h1, h2, h⟩ := h
            have hb := run_bounds (P := P) (w := w) (isSlice := true) (len := es.length) (cap := cap) hl hh el eh h0 h1 (by omega)
            refine ⟨_, _, ?_, .pure _ _ (pr_cut hp (l := l.toNat) (h := hg.toNat) (sz := sz) (by omega) (by omega) (fun sz' ha hne => by
              obtain ⟨e0, he0⟩ := List.exists_mem_of_ne_nil es hne
              exact (ha e0 he0).symm.trans (hall e0 he0))), h⟩
            simp only [Instr.sliceAt, Instr.slice, Sem.run_bind, run_underlying hu, Result.andThen_ok, Sem.run_pure, hb, hsize]
          | some m =>
            cases m with
            | int k n =>
              rw [el, eh] at h
              obtain ⟨hi0, rfl, h0, h1, h⟩ := h
              cases hm with
              | some _ xm hm =>
                have hb := run_bounds0 (P := P) (len := es.length) (cap := cap) hl hh hm el eh h0 h1 hi0
                refine ⟨_, _, ?_, .pure _ _ (.nil ad), h⟩
                simp [Instr.sliceAt, Instr.slice, run_underlying hu, hb, hsize]
            | _ => simp [el, eh] at h
  | nil =>
    simp only [sliceP] at h
    cases he : elt P t with
    | none => simp [he] at h
    | some o =>
      obtain ⟨e, sz, by_⟩ := o
      rw [he] at h
      obtain ⟨hu, hsize⟩ := elt_lay he w
      obtain ⟨ad, rfl⟩ := hx.nil_inv
      cases el : bndOf 0 lo with
      | none => cases mx <;> simp [el] at h
      | some l =>
        cases eh : bndOf 0 hi with
        | none => cases mx <;> simp [el, eh] at h
        | some hg =>
          cases mx with
          | none =>
            cases hm
            rw [el, eh] at h
            obtain ⟨rfl, rfl, h⟩ := h
            have hb := run_bounds (P := P) (w := w) (isSlice := true) (len := 0) (cap := 0) hl hh el eh (by omega) (by omega) (by omega)
            refine ⟨_, _, ?_, .pure _ _ (.nil ad), h⟩
            simp [Instr.sliceAt, Instr.slice, run_underlying hu, hb, hsize]
          | some m =>
            cases m with
            | int k n =>
              rw [el, eh] at h
              obtain ⟨hi0, rfl, h0, h1, h⟩ := h
              cases hm with
              | some _ xm hm =>
                have hb := run_bounds0 (P := P) (len := 0) (cap := 0) hl hh hm el eh h0 h1 hi0
                refine ⟨_, _, ?_, .pure _ _ (.nil ad), h⟩
                simp [Instr.sliceAt, Instr.slice, run_underlying hu, hb, hsize]
            | _ => simp [el, eh] at h
  | dptr cs =>
    simp only [sliceP] at h
    cases ha : arr P t with
    | none => simp [ha] at h
    | some o =>
      obtain ⟨len, sz, g⟩ := o
      rw [ha] at h
      rcases sz with _ | _ | sz
      · cases g <;> cases lo <;> cases hi <;> cases mx <;> simp at h
      · cases g with
        | true => simp at h
        | false =>
          cases lo with
          | some _ => simp at h
          | none =>
            cases hi with
            | some _ => simp at h
            | none =>
              cases mx with
              | some _ => simp at h
              | none =>
                obtain ⟨h1, h2, h3, h⟩ := h
                cases hl; cases hh; cases hm
                obtain ⟨e, hu, hle⟩ := arr_runs ha
                obtain ⟨bk, o, rfl, y, hy⟩ := hx.dptr_inv
                have hcell : ∀ v ∈ cs.take len, v.cells = [v] := fun v hv => by
                  have := List.all_eq_true.1 h3 v hv
                  cases v <;> first | rfl | simp [V.one] at this
                have hfl : flat (cs.take len) = cs.take len := by
                  have : ∀ l : List V, (∀ v ∈ l, v.cells = [v]) → flat l = l := fun l hl => by
                    induction l with
                    | nil => rfl
                    | cons v l ih => rw [flat_cons, hl v (by simp), ih (fun v hv => hl v (List.mem_cons_of_mem _ hv))]; rfl
                  exact this _ hcell
                have hlen : (cs.take len).length = len := by simp; omega
                refine ⟨_, .slice (some ⟨bk, o, none⟩) (cs.take len).length len, ?_, .pure _ _ (.sl (cs.take len) _ len 1 y (by omega) h2 (fun v hv => by rw [hcell v hv]; rfl) (fun c hc => by rw [hfl] at hc; exact List.all_eq_true.1 h3 c hc) (fun j c hj => ?_) (fun j c hj => ?_)), h⟩
                · have hne : ∀ m : Nat, (if m = 0 then (⟨bk, o, none⟩ : Addr) else ⟨bk, o, none⟩) = ⟨bk, o, none⟩ := fun m => by split <;> rfl
                  simp [Instr.sliceAt, Sem.run_bind, run_underlying hu, Instr.sureAddr, Instr.sliceBounds, (lay_runs hle w).1, Nat.min_eq_left h1, Addr.add]
                · rw [hfl] at hj
                  have hjl : j < len := by have := (List.getElem?_eq_some_iff.1 hj).1; omega
                  rw [List.getElem?_take_of_lt hjl] at hj
                  exact ⟨bk, o, rfl, (hy j c hj).1⟩
                · rw [hfl] at hj
                  have hjl : j < len := by have := (List.getElem?_eq_some_iff.1 hj).1; omega
                  rw [List.getElem?_take_of_lt hjl] at hj
                  exact (hy j c hj).2
      · cases g <;> cases lo <;> cases hi <;> cases mx <;> simp at h
  | _ => exact h.elim
end
end Go.Duo
