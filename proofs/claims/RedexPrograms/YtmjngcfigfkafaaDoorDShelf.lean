/-
  A part of the proof.
-/
import Derived.Test.YtmjngcfigfkafaaDoorDReal
import Derived.Lib.LaidTab
set_option linter.all false
namespace Go.Duo
open Go
section
variable {P : Program} {gl : Nat → V} {st : List O}
/-- A function that makes new blocks at most; what it gives is known wherever. -/
theorem Call.of_grow {k : FuncId} {args : List V} {K : V → List O → Prop}
    (h : ∀ (w : World) (s : S) (xs : List Value), s.st = st → Sim P gl w s → RepL w s args xs → Calls P k xs.toArray w fun e w' => RowKit.Below w.heap.size w w' ∧ ∃ v x, e = .returned x ∧ K v st ∧ ∀ w2 s2, Rep w2 s2 v x) : Call P gl k args st K := fun w s xs hst hs hxs => by
  refine (callsIn_wide.2 (h w s xs hst hs hxs)).mono ?_
  rintro e w' ⟨hb, v, x, rfl, hK, hr⟩
  have hS := hs.grow (w' := w') hb.os hb.tape hb.output hb.size hb.block (fun _ _ => False) (fun _ _ h => h.elim)
  have hE := Evolve.grow (w := w) (w' := w') hs.wf hb.os hb.tape hb.output hb.size hb.block (fun _ _ => False) (fun _ _ h => h.elim)
  exact ⟨v, x, _, rfl, hS, hE, hr _ _, by subst hst; exact hK⟩
/-- A package's table, as the shelf wants it. -/
theorem glob_tab {w : World} {s : S} (hs : Sim P gl w s) {g : Nat} {name : String} {k : IntKind} {zs : List Int} (hn : P.globalNamed name = some g) (hg : gl g = .dptr (zs.map (.int k))) : Lib.TabIs P w name k zs := by
  rcases hs.glob g with h | ⟨hp, _, cs, t, fr, h1, h2⟩
  · rw [hg] at h; cases h
  · rw [hg] at hp h2
    unfold Lib.TabIs World.var?
    rw [hn]
    simp only [Option.bind_some, h1]
    simp only [V.dlen, List.length_map] at h2
    congr 1
    apply Array.ext
    · simp [h2]
    · intro j hj hj'
      simp only [List.size_toArray, List.length_map] at hj'
      cases hp with
      | dptr _ _ _ y hc hh =>
        have hj2 : (zs.map (V.int k))[j]? = some (.int k zs[j]) := by rw [List.getElem?_map, List.getElem?_eq_getElem hj']; rfl
        have h3 := (hc j _ hj2).1
        have h4 := hh j _ hj2
        cases h4' : y j <;> rw [h4'] at h4 <;> cases h4
        rw [Nat.zero_add] at h3
        have h5 := cell_of_row w g j cs t fr h1
        rw [h3, h4'] at h5
        rw [Array.getElem?_eq_getElem hj] at h5
        simp only [Option.some.injEq] at h5
        rw [← h5]
        simp
/-- A package's variable of an interface's type. -/
theorem glob_iface {w : World} {s : S} (hs : Sim P gl w s) {g : Nat} {t : TypeId} {v : V} (hg : gl g = .dptr [.iface t v]) : ∃ ev, w.cell? ⟨g, 0, none⟩ = some ev ∧ (ev = .nilIface ∨ ∃ te pe, ev = .iface te pe) := by
  rcases hs.glob g with h | ⟨hp, _, _⟩
  · rw [hg] at h; cases h
  · rw [hg] at hp
    cases hp with
    | dptr _ _ _ y hc hh =>
      have h3 := (hc 0 _ rfl).1
      have h4 := hh 0 _ rfl
      refine ⟨y 0, h3, ?_⟩
      generalize y 0 = z at h4
      cases h4
      exact .inr ⟨_, _, rfl⟩
end
end Go.Duo
