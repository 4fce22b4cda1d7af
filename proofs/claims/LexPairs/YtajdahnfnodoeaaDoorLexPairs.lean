/-
  For any two texts, LexPairs returns true and leaves its arguments as they were; the package variables that it reads are tied to the program's text.
-/
import Derived.Test.YtajdahnfnodoeaaDoorLexBridge
import Derived.Test.YtajdahnfnodoeaaDoorCards
import Derived.Test.YtajdahnfnodoeaaDoorTie
import Derived.Test.YtajdahnfnodoeaaDoorLexL
import Derived.SevenTiedAt
set_option linter.all false
namespace Go.Proofs.YtajdahnfnodoeaaDoor.lexPairs
open Go Go.Duo Go.ChangeShapes Go.WideShapes Go.ChangeAt Go.RowKit
open Go.Proofs.YtajdahnfnodoeaaDoor
set_option maxRecDepth 100000 in
theorem lifted (os : Os) (started : os.Started) (H : Type) (enc : TypeId × Value → H) :
    ReturnsInHanded {} Tryd.checked os 6 .any (fun w args => (Rows.lexPairsSpec.pre enc Tryd.prog Tryd.f6 [] false w args ∧ laidMet Tryd.prog laidList w) ∧ sizedMet enc Tryd.prog Tryd.f6 (OpenSpec.ofChange Rows.lexPairsSpec) false w args)
      (Rows.lexPairsSpec.post enc Tryd.prog Tryd.f6 false true false false) := by
  refine returnsInHanded_of_change_and (C := Tryd.checked) (X := fun w _ => laidMet Tryd.prog laidList w) (fun _ _ _ hh h => h.of_heap hh) own started (by kernel_rfl) Tryd.func6
    (ChangeSpec.witness_at (enc := enc) (C := Tryd.checked) (os := os) (X := fun w _ => laidMet Tryd.prog laidList w) false (laidWorld os) #[.string ⟨#[]⟩, .string ⟨#[]⟩] 8 rfl (by kernel_rfl) (by kernel_rfl) (by kernel_rfl) (by kernel_rfl) (by kernel_rfl) (laidWorld_met os _)) ?_
  intro W base args ds gs before hval0 hW _ _ hL _
  have hval : ∀ (j : Nat) t v, Tryd.f6.params[j]? = some t → args[j]? = some v → Value.okWide Tryd.prog W .any base t v := hval0
  have hW' := hW
  obtain ⟨p, q, hA0, hV, rfl, hfz, hnd⟩ := hW
  have hA : DataW.TrodAll enc Tryd.prog W 0 (fun _ => true) true Tryd.f6.params.toList args.toList ds p := hA0
  rw [Tryd.params6] at hA hval
  obtain ⟨v0, vs0, d0, ds0, p0, q0, hargs, rfl, rfl, h0, r0⟩ := trodAll_cons hA
  obtain ⟨v1, vs1, d1, ds1, p1, q1, rfl, rfl, rfl, h1, r1⟩ := trodAll_cons r0
  obtain ⟨rfl, rfl, rfl⟩ := trodAll_nil r1
  obtain rfl : args = #[v0, v1] := by cases args; simp_all
  obtain ⟨rfl, rfl⟩ := trodVars_none hV
  obtain ⟨s0, rfl, rfl, rfl, w0⟩ := ChangeMaps.open_string Tryd.underlying9 (hval 0 9 v0 rfl rfl) h0
  have z0 := str_len w0
  obtain ⟨s1, rfl, rfl, rfl, w1⟩ := ChangeMaps.open_string Tryd.underlying9 (hval 1 9 v1 rfl rfl) h1
  have z1 := str_len w1
  clear hA0 hval0
  refine (run_law (Tryd.lawPairs_spec s0.data.toList z0 s1.data.toList z1 []) hL (xs := [.string s0, .string s1]) ⟨rfl, fun i c x hc hx => ?_⟩).mono fun e W' ⟨he, bel⟩ => ?_
  · rcases i with _ | _ | i
    · simp only [List.getElem?_cons_zero, List.getElem?_cons_succ, Option.some.injEq] at hc hx; subst hc hx; exact pr_str _
    · simp only [List.getElem?_cons_zero, List.getElem?_cons_succ, Option.some.injEq] at hc hx; subst hc hx; exact pr_str _
    · simp at hc
  subst he
  exact ⟨_, rfl, _, _, _, [], _, [], hW', trodAll_mk1 (shut_bool Tryd.underlying4 _), trodAll_cons_mk (ChangeMaps.shut_string Tryd.underlying9 w0) (trodAll_cons_mk (ChangeMaps.shut_string Tryd.underlying9 w1) (trodAll_mk0)), rfl, bel.frame _, fun h => by cases h⟩
theorem over : Rows.lexPairsRow.holds Tryd.pinned (OpenSpec.ofChange Rows.lexPairsSpec) :=
  OpenClaim.holds_of_wide 6 Tryd.f6 rfl rfl rfl rfl rfl rfl rfl ⟨rfl, rfl, rfl, rfl, rfl⟩ rfl rfl rfl rfl rfl (by kernel_rfl) Tryd.func6 (by kernel_rfl)
    (of_decide_eq_true (by kernel_rfl)) (by unfold Func.isWrapper; first | (rw [if_pos (by decide +kernel)]; kernel_rfl) | (rw [if_neg (by decide +kernel)]; exact ⟨rfl, rfl⟩))
    (fun os started H enc _ => lifted os started H enc)
theorem proved : Rows.LexPairsSaid := over
end Go.Proofs.YtajdahnfnodoeaaDoor.lexPairs
namespace Go.Proofs.YtajdahnfnodoeaaDoor
open Go
theorem lexPairs_card : Rows.LexPairsCardSaid :=
  Claim7.holds_tied_plain_at .later [] [.data, .data, .data, .sentinel, .sentinel, .widerDeep] true (true, "8f2c4994f3a7aab0724bec39601fd884380253aba648fb5dbbd5152a4bc60d1a") true
    lexPairs.proved (fun _ h => by cases h) (by kernel_rfl) (fun _ h => by cases h) lexPairs_row_tie rfl ⟨rfl, rfl⟩ (by kernel_rfl) rfl
    (fun f fn hf hfn => by
      obtain rfl : f = 6 := Option.some.inj ((show Tryd.prog.funcNamed "duologue/duologuelaw01.LexPairs" = some 6 by kernel_rfl).symm.trans hf) |>.symm
      obtain rfl : fn = Tryd.f6 := (Option.some.inj (Tryd.func6.symm.trans hfn)).symm
      exact ⟨by kernel_rfl, fun j t ht => by
        rw [Tryd.params6] at ht
        have h3 : t = 9 ∨ t = 9 := by
          rcases j with _ | _ | j
          · exact .inl (by simpa using ht.symm)
          · exact .inr ((by simpa using ht.symm))
          · simp at ht
        rcases h3 with rfl | rfl
        · exact (show Tryd.prog.wantsStandIn 9 = false by kernel_rfl)
        · exact (show Tryd.prog.wantsStandIn 9 = false by kernel_rfl)⟩)
    (by kernel_rfl)
#print axioms lexPairs_card
end Go.Proofs.YtajdahnfnodoeaaDoor
