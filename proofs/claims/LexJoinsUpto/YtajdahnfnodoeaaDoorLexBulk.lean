/-
  What a bound on the bulk says of the texts of tokens.
-/
import Derived.Test.YtajdahnfnodoeaaDoorLexBridge2
import Derived.Test.YtajdahnfnodoeaaDoorDLex7
set_option linter.all false
namespace Go.Proofs.YtajdahnfnodoeaaDoor
open Go Go.Duo Go.ChangeShapes Go.WideShapes Go.ChangeAt Go.RowKit
def tlen : List Tok → Nat
  | [] => 0
  | x :: r => x.text.length + 1 + tlen r
theorem join_tlen : ∀ (l : List Tok), (Lib.join (txts l) [32]).length ≤ tlen l
  | [] => by simp [txts, Lib.join_nil]
  | [x] => by simp [txts, Lib.join_one, tlen]
  | x :: y :: r => by
    have h := join_tlen (y :: r)
    simp only [txts, List.map_cons] at h ⊢
    rw [Lib.join_cons] at h ⊢
    simp only [Lib.joinTail, List.map_cons, List.flatten_cons, List.length_append, tlen, List.length_cons, List.length_nil] at h ⊢
    omega
theorem part_le {H : Type} {d : DataW H} {l : List (DataW H)} (h : d ∈ l) : Rows.uptoBulk d ≤ Rows.uptoBulkAll l := by
  induction l with
  | nil => cases h
  | cons x r ih =>
    simp only [Rows.uptoBulkAll]
    cases List.mem_cons.1 h with
    | inl e => subst e; omega
    | inr e => have := ih e; omega
theorem sum_le {H : Type} : ∀ (l : List Tok) (ds : List (DataW H)), l.length = ds.length → (∀ (i : Nat) t d, l[i]? = some t → ds[i]? = some d → t.text.length + 1 ≤ Rows.uptoBulk d) → tlen l ≤ Rows.uptoBulkAll ds
  | [], [], _, _ => by simp [tlen]
  | [], _ :: _, h, _ => by simp at h
  | _ :: _, [], h, _ => by simp at h
  | t :: l, d :: ds, h, hh => by
    have h1 := hh 0 t d rfl rfl
    have h2 := sum_le l ds (by simpa using h) (fun i t d ht hd => hh (i + 1) t d (by simpa using ht) (by simpa using hd))
    simp only [tlen, Rows.uptoBulkAll]; omega
theorem flat_tok (l : List Tok) (i : Nat) (t : Tok) (h : l[i]? = some t) : (flat (l.map encK))[i * 4 + 1]? = some (.str t.text) := by
  have hi := (List.getElem?_eq_some_iff.1 h).1
  have hsz : ∀ el ∈ l.map encK, el.cells.length = 4 := fun el hel => by obtain ⟨x, _, rfl⟩ := List.mem_map.1 hel; rfl
  have := flat_at hsz (i := i) (by simpa using hi) (j := 1) (c := .str t.text) (by
    rw [List.getElem_map, (List.getElem?_eq_some_iff.1 h).2]; rfl)
  exact this
theorem tok_bulk {H : Type} {enc : TypeId × Value → H} {w : World} {K : Nat → Nat → Prop} {base : Nat} {sp : Nat → Bool} {held : Bool} {fuel : Nat} {v : Value} {d : DataW H} {ps : List MemPlace} {l : List Tok}
    (hf : DataW.trod enc Tryd.prog w base sp held fuel 23 [v] = some (d, ps)) (hp : PR w K (.sl (l.map encK) none) v) : tlen l ≤ Rows.uptoBulk d := by
  rcases DataW.trod_slice Tryd.underlying23 hf with ⟨hv, hx⟩ | ⟨a, len, cap, elems, rest, n, _, hv, hx, hb, hl, hm, hlen, hel, _, _⟩
  · simp only [List.cons.injEq, and_true] at hv
    subst hv
    obtain ⟨a, cap, sz, y, he, h1, h2, h3, h4, h5⟩ := hp.sl_inv
    simp only [Value.slice.injEq] at he
    have hl0 : l = [] := List.eq_nil_of_length_eq_zero (by have := he.2.1; simpa using this.symm)
    subst hl0; simp [tlen]
  · simp only [List.cons.injEq, and_true] at hv
    subst hv
    obtain ⟨a', cap', sz, y, he, h1, h2, h3, h4, h5⟩ := hp.sl_inv
    simp only [Value.slice.injEq] at he
    obtain ⟨rfl, hle, _⟩ := he
    rw [List.length_map] at hle
    simp only [Prod.mk.injEq] at hx
    obtain ⟨rfl, _⟩ := hx
    have hfin : ∀ (i : Nat) t d', l[i]? = some t → (elems.map (·.1))[i]? = some d' → t.text.length + 1 ≤ Rows.uptoBulk d' := by
      intro i t d' ht hd
      have hi := (List.getElem?_eq_some_iff.1 ht).1
      have he := hel i (by omega)
      rw [c39] at he
      rw [List.getElem?_map] at hd
      cases hei : elems[i]? with
      | none => rw [hei] at hd; cases hd
      | some x =>
        rw [hei] at hd
        simp only [Option.map_some, Option.some.injEq] at hd
        subst hd
        cases hcs : w.cells? base (a.add (i * 4)) 4 with
        | none => rw [hcs, hei] at he; cases he
        | some cs =>
          rw [hcs, hei] at he
          simp only [Option.bind_some] at he
          obtain ⟨xs, n', _, hx, hcl, hxl, hfs⟩ := DataW.trod_struct Tryd.underlying39 he
          have h9 := hfs 1 _ rfl
          change DataW.trod enc Tryd.prog w base sp held n' 9 ((cs.drop 1).take (Tryd.prog.cellsOf 9)) = _ at h9
          rw [c9] at h9
          cases hx1 : xs[1]? with
          | none =>
            have := List.getElem?_eq_none_iff.1 hx1
            have hsz : xs.length = 4 := hxl
            omega
          | some z =>
            rw [hx1] at h9
            obtain ⟨s, hs1, hs2, _⟩ := DataW.trod_string Tryd.underlying9 h9
            obtain ⟨g1, g2⟩ := cells_get hcs
            obtain ⟨xv, hxv, hcell⟩ := g2 1 (by omega)
            have hxs : xv = .string s := by
              have := congrArg (·[0]?) hs1
              simp only [List.getElem?_take, List.getElem?_drop] at this
              rw [if_pos (by omega), hxv] at this
              simpa using this
            obtain ⟨⟨b', o', hb', hcl'⟩, hpr⟩ := h5 (i * 4 + 1) _ (flat_tok l i t ht)
            simp only [Option.some.injEq] at hb'
            subst hb'
            have ha : ((⟨b', o', none⟩ : Addr).add (i * 4)).add 1 = ⟨b', o' + (i * 4 + 1), none⟩ := by
              unfold Addr.add
              by_cases h0 : i * 4 = 0
              · simp [h0]
              · simp [h0, Nat.add_assoc]
            rw [ha, hcl'.1, hxs] at hcell
            simp only [Option.some.injEq] at hcell
            rw [hcell] at hpr
            have ht2 : s.data.toList = t.text := by
              cases hpr; simp
            rw [hx]
            have hz : z.1 ∈ xs.map (·.1) := List.mem_map.2 ⟨z, List.mem_of_getElem? hx1, rfl⟩
            have hzb := part_le hz
            rw [hs2] at hzb
            simp only [Rows.uptoBulk, ht2] at hzb ⊢
            omega
    have := sum_le l (elems.map (·.1)) (by rw [List.length_map]; omega) hfin
    simp only [Rows.uptoBulk]; omega
end Go.Proofs.YtajdahnfnodoeaaDoor
