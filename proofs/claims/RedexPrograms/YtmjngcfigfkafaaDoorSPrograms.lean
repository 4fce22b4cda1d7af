/-
  A part of the proof.
-/
import Derived.Test.YtmjngcfigfkafaaDoorBridge
import Derived.Test.YtmjngcfigfkafaaDoorCards
import Derived.Test.YtmjngcfigfkafaaDoorTie
import Derived.Test.YtmjngcfigfkafaaDoorKlm
import Derived.SevenTiedAt
set_option linter.all false
namespace Go.Proofs.YtmjngcfigfkafaaDoor.redexPrograms
open Go Go.Duo Go.ChangeShapes Go.WideShapes Go.ChangeAt Go.RowKit
open Go.Proofs.YtmjngcfigfkafaaDoor
set_option maxRecDepth 100000 in
theorem lifted (os : Os) (started : os.Started) (H : Type) (enc : TypeId × Value → H) :
    ReturnsInHanded {} Tryd.checked os 5 .any (fun w args => (Rows.redexProgramsSpec.pre enc Tryd.prog Tryd.f5 [] false w args ∧ laidMet Tryd.prog laidList w) ∧ sizedMet enc Tryd.prog Tryd.f5 (OpenSpec.ofChange Rows.redexProgramsSpec) false w args)
      (Rows.redexProgramsSpec.post enc Tryd.prog Tryd.f5 false true false false) := by
  refine returnsInHanded_of_change_and (C := Tryd.checked) (X := fun w _ => laidMet Tryd.prog laidList w) (fun _ _ _ hh h => h.of_heap hh) own started (by kernel_rfl) Tryd.func5
    (ChangeSpec.witness_at (enc := enc) (C := Tryd.checked) (os := os) (X := fun w _ => laidMet Tryd.prog laidList w) false (laidWorld os) #[.agg #[.slice none 0 0, .int .i64 0, .string ⟨#[]⟩, .string ⟨#[]⟩, .slice none 0 0, .slice none 0 0, .int .i64 0, .int .i64 0, .string ⟨#[]⟩, .int .i64 0, .slice none 0 0, .slice none 0 0, .slice none 0 0]] 8 rfl (by kernel_rfl) (by kernel_rfl) (by kernel_rfl) (by kernel_rfl) (by kernel_rfl) (laidWorld_met os _)) ?_
  intro W base args ds gs before hval0 hW _ _ hL _
  have hval : ∀ (j : Nat) t v, Tryd.f5.params[j]? = some t → args[j]? = some v → Value.okWide Tryd.prog W .any base t v := hval0
  have hW' := hW
  obtain ⟨p, q, hA0, hV, rfl, hfz, hnd⟩ := hW
  have hA : DataW.TrodAll enc Tryd.prog W 0 (fun _ => true) true Tryd.f5.params.toList args.toList ds p := hA0
  rw [Tryd.params5] at hA hval
  obtain ⟨v0, vs0, d0, ds0, p0, q0, hargs, rfl, rfl, h0, r0⟩ := trodAll_cons hA
  obtain ⟨rfl, rfl, rfl⟩ := trodAll_nil r0
  obtain rfl : args = #[v0] := by cases args; simp_all
  obtain ⟨rfl, rfl⟩ := trodVars_none hV
  obtain ⟨cs0, rfl, sz0⟩ := okWide_struct Tryd.underlying62 (hval 0 62 v0 rfl rfl)
  have k0 := h0
  have lt0 : ∀ x ∈ p0, x.block < W.heap.size := by obtain ⟨m, hm⟩ := k0; exact DataW.trod_lt m _ _ _ hm
  obtain ⟨fuel0, hf0⟩ := h0
  obtain ⟨us0, hprl0, hhas0⟩ := trodV (K := (startS W).K) (fun b o hb => hb) fuel0 62 _ _ _ flat62 hf0
  obtain ⟨l0, hl0, ok0⟩ := pg_of _ _ hhas0
  rw [hl0] at hprl0
  have pr0 := PRL.agg hprl0
  clear hA0 hval0
  refine (run_law (Tryd.progs_spec l0 ok0 []) hL (xs := [.agg cs0]) ⟨rfl, fun i c x hc hx => ?_⟩).mono fun e W' ⟨he, bel⟩ => ?_
  · rcases i with _ | i
    · simp only [List.getElem?_cons_zero, List.getElem?_cons_succ, Option.some.injEq] at hc hx; subst hc hx; exact pr0
    · simp at hc
  subst he
  exact ⟨_, rfl, _, _, _, [], _, [], hW', trodAll_mk1 (shut_bool Tryd.underlying4 _), trodAll_cons_mk (Below.trod laidOut (by kernel_rfl) (of_decide_eq_true (by kernel_rfl)) k0 bel lt0) (trodAll_mk0), rfl, bel.frame _, fun h => by cases h⟩
theorem over : Rows.redexProgramsRow.holds Tryd.pinned (OpenSpec.ofChange Rows.redexProgramsSpec) :=
  OpenClaim.holds_of_wide 5 Tryd.f5 rfl rfl rfl rfl rfl rfl rfl ⟨rfl, rfl, rfl, rfl, rfl⟩ rfl rfl rfl rfl rfl (by kernel_rfl) Tryd.func5 (by kernel_rfl)
    (of_decide_eq_true (by kernel_rfl)) (by unfold Func.isWrapper; first | (rw [if_pos (by decide +kernel)]; kernel_rfl) | (rw [if_neg (by decide +kernel)]; exact ⟨rfl, rfl⟩))
    (fun os started H enc _ => lifted os started H enc)
theorem proved : Rows.RedexProgramsSaid := over
end Go.Proofs.YtmjngcfigfkafaaDoor.redexPrograms
namespace Go.Proofs.YtmjngcfigfkafaaDoor
open Go
theorem redexPrograms_card : Rows.RedexProgramsCardSaid :=
  Claim7.holds_tied_plain_at .later [] [.data, .data, .data, .sentinel, .sentinel] true (true, "7551a3a46548d40cd10c57eb7e3eb6ecb9b30394686acd6e801e11f015c87786") true
    redexPrograms.proved (fun _ h => by cases h) (by kernel_rfl) (fun _ h => by cases h) redexPrograms_row_tie rfl ⟨rfl, rfl⟩ (by kernel_rfl) rfl
    (fun f fn hf hfn => by
      obtain rfl : f = 5 := Option.some.inj ((show Tryd.prog.funcNamed "duologue/duologuelaw18.RedexPrograms" = some 5 by kernel_rfl).symm.trans hf) |>.symm
      obtain rfl : fn = Tryd.f5 := (Option.some.inj (Tryd.func5.symm.trans hfn)).symm
      exact ⟨by kernel_rfl, fun j t ht => by
        rw [Tryd.params5] at ht
        have h3 : t = 62 := by
          rcases j with _ | j
          · exact by simpa using ht.symm
          · simp at ht
        rcases h3 with rfl
        · exact (show Tryd.prog.wantsStandIn 62 = false by kernel_rfl)⟩)
    (by kernel_rfl)
#print axioms redexPrograms_card
end Go.Proofs.YtmjngcfigfkafaaDoor
