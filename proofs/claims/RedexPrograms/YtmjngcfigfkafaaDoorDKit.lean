/-
  A part of the proof.
-/
import Derived.Test.YtmjngcfigfkafaaDoorDRange
import Derived.Test.YtmjngcfigfkafaaDoorDLate
set_option linter.all false
namespace Go.Duo
open Go
theorem i64w (n : Int) (h1 : -9223372036854775808 ≤ n) (h2 : n ≤ 9223372036854775807) : IntKind.wrap .i64 n = n := i64_ok h1 h2
theorem getD_lt {α : Type} (f : α → V) (l : List α) (i : Nat) (u : V) (h : i < l.length) : (l.map f).getD i u = f (l[i]'h) := getD_map f l i h u
theorem getD_ltI {α : Type} (l : List α) (i : Nat) (u : α) (h : i < l.length) : l.getD i u = l[i]'h := by rw [List.getD_eq_getElem?_getD, List.getElem?_eq_getElem h]; rfl
theorem tmod_nn (a b : Int) (h : 0 ≤ a) : a.tmod b = a % b := Int.tmod_eq_emod_of_nonneg h
theorem tdiv_nn (a b : Int) (h : 0 ≤ a) : a.tdiv b = a / b := Int.tdiv_eq_ediv_of_nonneg h
theorem toNat_sub1 (n : Nat) : ((n : Int) - 1).toNat = n - 1 := by omega
theorem snoc_len {α : Type} (a : List α) (c : α) : (a ++ [c]).length = a.length + 1 := by simp
theorem snoc_drop {α : Type} (a : List α) (c : α) : List.drop a.length (a ++ [c]) = [c] := by simp
theorem snoc_take {α : Type} (a : List α) (c : α) : List.take a.length (a ++ [c]) = a := by simp
theorem snoc_take1 {α : Type} (a : List α) (c : α) : List.take (a.length + 1) (a ++ [c]) = a ++ [c] := List.take_of_length_le (by simp)
/-- All cells are pure. -/
def PureL (l : List V) : Prop := ∀ c ∈ l, PureV c
theorem PureL.nil : PureL [] := by intro c hc; cases hc
theorem PureL.cons {c : V} {l : List V} (h : PureV c) (h2 : PureL l) : PureL (c :: l) := by
  intro d hd
  rcases List.mem_cons.1 hd with rfl | hd
  · exact h
  · exact h2 d hd
theorem PureL.app {l m : List V} (h : PureL l) (h2 : PureL m) : PureL (l ++ m) := by
  intro d hd
  rcases List.mem_append.1 hd with hd | hd
  · exact h d hd
  · exact h2 d hd
def PartOK (sz : Nat) (v : V) : Prop := v.cells.length = sz ∧ v.cells.all V.one = true ∧ PureL v.cells
theorem parts_nil {sz : Nat} : ∀ p ∈ ([] : List (Nat × V)), p.2.cells.length = sz ∧ p.2.cells.all V.one = true ∧ ∀ c ∈ p.2.cells, PureV c := by intro p hp; cases hp
theorem parts_cons {sz n : Nat} {v : V} {l : List (Nat × V)} (h : PartOK sz v) (h2 : ∀ p ∈ l, p.2.cells.length = sz ∧ p.2.cells.all V.one = true ∧ ∀ c ∈ p.2.cells, PureV c) : ∀ p ∈ (n, v) :: l, p.2.cells.length = sz ∧ p.2.cells.all V.one = true ∧ ∀ c ∈ p.2.cells, PureV c := by
  intro p hp
  rcases List.mem_cons.1 hp with rfl | hp
  · exact h
  · exact h2 p hp
theorem els_nil {sz : Nat} : ∀ el ∈ ([] : List V), el.cells.length = sz := by intro p hp; cases hp
theorem els_cons {sz : Nat} {v : V} {l : List V} (h : v.cells.length = sz) (h2 : ∀ el ∈ l, el.cells.length = sz) : ∀ el ∈ v :: l, el.cells.length = sz := by
  intro p hp
  rcases List.mem_cons.1 hp with rfl | hp
  · exact h
  · exact h2 p hp
theorem trimS_y {xs : List (List V)} {i : Nat} {go : Bool} {l : List O} : trimS 1 (.yld xs i go :: l) = [.yld xs i go] := rfl
theorem trimS_yb {xs : List (List V)} {i i' : Nat} {go go' : Bool} {t : TypeId} {cs : List V} {l : List O} (h : Clo [.yld xs i go, .box t cs]) : trimS 2 (.yld xs i' go' :: .box t cs :: l) = [.yld xs i' go', .box t cs] := by
  have h2 := h 2 (Nat.le_refl 2)
  simp only [List.map_cons, List.map_nil, List.cons.injEq, and_true] at h2
  unfold trimS
  simp only [List.take_succ_cons, List.take_zero, List.map_cons, List.map_nil, h2.2]
  rfl
mutual
theorem fz_of_trim (k : Nat) (cs : List V) : ∀ v : V, v.trim k = v → v.fz k cs = v
  | .agg xs, h => by simp only [V.trim, V.agg.injEq] at h; simp only [V.fz, fz_of_trimL k cs xs h]
  | .tuple xs, h => by simp only [V.trim, V.tuple.injEq] at h; simp only [V.fz, fz_of_trimL k cs xs h]
  | .func fn a b, h => by simp only [V.trim, V.func.injEq, true_and] at h; simp only [V.fz, fz_of_trimL k cs a h.1, fz_of_trimL k cs b h.2]
  | .iface t v, h => by simp only [V.trim, V.iface.injEq, true_and] at h; simp only [V.fz, fz_of_trim k cs v h]
  | .ptr j off, h => by
    simp only [V.trim] at h
    split at h
    · rename_i hj; simp only [V.fz]; rw [if_neg (by omega)]
    · cases h
  | .undef, _ | .int _ _, _ | .bool _, _ | .str _, _ | .sl _ _, _ | .nil, _ | .ref _ _, _ | .dptr _, _ | .nilptr, _ | .pmap _ _, _ | .map _, _ | .nilfunc, _ | .niliface, _ | .yld _, _ | .rptr _ _ _, _ => rfl
theorem fz_of_trimL (k : Nat) (cs : List V) : ∀ xs : List V, V.trim.trimL k xs = xs → V.fz.fzL k cs xs = xs
  | [], _ => rfl
  | x :: xs, h => by simp only [V.trim.trimL, List.cons.injEq] at h; simp only [V.fz.fzL, fz_of_trim k cs x h.1, fz_of_trimL k cs xs h.2]
end
theorem O.fz_of_trim (k : Nat) (cs : List V) (o : O) (h : o.trim k = o) : o.fz k cs = o := by
  cases o with
  | box t xs =>
    simp only [O.trim, O.box.injEq, true_and] at h
    simp only [O.fz, O.box.injEq, true_and]
    rw [← fzL_eq]
    exact fz_of_trimL k cs xs (by rw [trimL_eq]; exact h)
  | _ => rfl
theorem fz_clo {st : List O} (h : Clo st) (b : O) (cs : List V) : trimS st.length (((st ++ [b]).set st.length .dead).map (O.fz st.length cs)) = st := by
  have h1 := h st.length (Nat.le_refl _)
  have h2 : st.map (O.fz st.length cs) = st := by
    have : ∀ o ∈ st, O.fz st.length cs o = o := fun o ho => by
      refine O.fz_of_trim _ _ _ ?_
      obtain ⟨i, hi, rfl⟩ := List.mem_iff_getElem.1 ho
      have := congrArg (fun l => l[i]?) h1
      simpa [hi] using this
    exact (List.map_congr_left this).trans (List.map_id _)
  rw [List.set_append_right _ _ (Nat.le_refl _), List.map_append, h2, trimS_app h (Nat.le_refl _)]
  simp
/-- A cell that holds a row that is only read, or none. -/
def rowOK (v : V) : Prop := v = .nil ∨ ∃ es, v = .sl es none
theorem rowOK.nil : rowOK .nil := .inl rfl
theorem rowOK.sl (es : List V) : rowOK (.sl es none) := .inr ⟨es, rfl⟩
theorem rowOK.one {v : V} (h : rowOK v) : v.one = true := by rcases h with rfl | ⟨es, rfl⟩ <;> rfl
theorem rowOK.cells {v : V} (h : rowOK v) : v.cells = [v] := by rcases h with rfl | ⟨es, rfl⟩ <;> rfl
theorem rowOK.le {v : V} (h : rowOK v) (st : List O) : V.le st v v.bare := by
  rcases h with rfl | ⟨es, rfl⟩
  · exact V.le_nil _
  · exact V.le_of_eq (by rw [V.bare])
theorem rowOK.pure {v : V} (h : rowOK v) : PureV v := by
  rcases h with rfl | ⟨es, rfl⟩
  · exact PureV.nil
  · exact PureV.sl _ _
theorem rowOK.bare {v : V} (h : rowOK v) : rowOK v.bare ∧ v.bare.bare = v.bare := by
  rcases h with rfl | ⟨es, rfl⟩ <;> exact ⟨.inr ⟨_, by rw [V.bare]⟩, by simp [V.bare]⟩
theorem one_sl (es : List V) (t : Option Nat) : (V.sl es t).one = true := rfl
theorem rowOK.trimv {v : V} (h : rowOK v) (k : Nat) : v.trim k = v := by rcases h with rfl | ⟨es, rfl⟩ <;> rfl
theorem _root_.Go.Duo.Call.argle {P : Program} {gl : Nat → V} {k : FuncId} {as bs : List V} {st : List O} {K : V → List O → Prop} (h : CLe st as bs) (hc : Duo.Call P gl k bs st K) : Duo.Call P gl k as st K := fun w s xs hst hs hxs => by
  obtain ⟨hl, hle⟩ := h.spec
  refine hc w s xs hst hs ⟨hl ▸ hxs.1, fun i c x hci hxi => ?_⟩
  have hi : i < as.length := by rw [hl]; exact (List.getElem?_eq_some_iff.1 hci).1
  exact hle i as[i] c (List.getElem?_eq_getElem hi) hci w s x hst (hxs.2 i as[i] x (List.getElem?_eq_getElem hi) hxi)
end Go.Duo
