/-
  For every number, LexNumbers returns true; the package variables that it reads are tied to the program's text.
-/
import Derived.Test.YtajdahnfnodoeaaDoorLexBridge
import Derived.Test.YtajdahnfnodoeaaDoorCards
import Derived.Test.YtajdahnfnodoeaaDoorTie
import Derived.Test.YtajdahnfnodoeaaDoorLexK
import Derived.SevenTiedAt
set_option linter.all false
namespace Go.Proofs.YtajdahnfnodoeaaDoor.lexNumbers
open Go Go.Duo Go.ChangeShapes Go.WideShapes Go.ChangeAt Go.RowKit
open Go.Proofs.YtajdahnfnodoeaaDoor
set_option maxRecDepth 100000 in
theorem lifted (os : Os) (started : os.Started) (H : Type) (enc : TypeId × Value → H) :
    ReturnsInHanded {} Tryd.checked os 7 .any (fun w args => (Rows.lexNumbersSpec.pre enc Tryd.prog Tryd.f7 [] false w args ∧ laidMet Tryd.prog laidList w) ∧ sizedMet enc Tryd.prog Tryd.f7 (OpenSpec.ofChange Rows.lexNumbersSpec) false w args)
      (Rows.lexNumbersSpec.post enc Tryd.prog Tryd.f7 false true false false) := by
  refine returnsInHanded_of_change_and (C := Tryd.checked) (X := fun w _ => laidMet Tryd.prog laidList w) (fun _ _ _ hh h => h.of_heap hh) own started (by kernel_rfl) Tryd.func7
    (ChangeSpec.witness_at (enc := enc) (C := Tryd.checked) (os := os) (X := fun w _ => laidMet Tryd.prog laidList w) false (laidWorld os) #[.int .i64 0] 8 rfl (by kernel_rfl) (by kernel_rfl) (by kernel_rfl) (by kernel_rfl) (by kernel_rfl) (laidWorld_met os _)) ?_
  intro W base args ds gs before hval0 hW _ _ hL _
  have hval : ∀ (j : Nat) t v, Tryd.f7.params[j]? = some t → args[j]? = some v → Value.okWide Tryd.prog W .any base t v := hval0
  have hW' := hW
  obtain ⟨p, q, hA0, hV, rfl, hfz, hnd⟩ := hW
  have hA : DataW.TrodAll enc Tryd.prog W 0 (fun _ => true) true Tryd.f7.params.toList args.toList ds p := hA0
  rw [Tryd.params7] at hA hval
  obtain ⟨v0, vs0, d0, ds0, p0, q0, hargs, rfl, rfl, h0, r0⟩ := trodAll_cons hA
  obtain ⟨rfl, rfl, rfl⟩ := trodAll_nil r0
  obtain rfl : args = #[v0] := by cases args; simp_all
  obtain ⟨rfl, rfl⟩ := trodVars_none hV
  obtain ⟨n0, rfl, rfl, rfl, w0⟩ := open_int Tryd.underlying2 (hval 0 2 v0 rfl rfl) h0
  clear hA0 hval0
  refine (run_law (Tryd.lawNumbers_spec n0 (wf64 w0).1 (wf64 w0).2 []) hL (xs := [.int .i64 n0]) ⟨rfl, fun i c x hc hx => ?_⟩).mono fun e W' ⟨he, bel⟩ => ?_
  · rcases i with _ | i
    · simp at hc hx; subst hc hx; exact .int _ _
    · simp at hc
  subst he
  exact ⟨_, rfl, _, _, _, [], _, [], hW', trodAll_mk1 (shut_bool Tryd.underlying4 _), trodAll_cons_mk (shut_int Tryd.underlying2 w0) (trodAll_mk0), rfl, bel.frame _, fun h => by cases h⟩
theorem over : Rows.lexNumbersRow.holds Tryd.pinned (OpenSpec.ofChange Rows.lexNumbersSpec) :=
  OpenClaim.holds_of_wide 7 Tryd.f7 rfl rfl rfl rfl rfl rfl rfl ⟨rfl, rfl, rfl, rfl, rfl⟩ rfl rfl rfl rfl rfl (by kernel_rfl) Tryd.func7 (by kernel_rfl)
    (of_decide_eq_true (by kernel_rfl)) (by unfold Func.isWrapper; first | (rw [if_pos (by decide +kernel)]; kernel_rfl) | (rw [if_neg (by decide +kernel)]; exact ⟨rfl, rfl⟩))
    (fun os started H enc _ => lifted os started H enc)
theorem proved : Rows.LexNumbersSaid := over
end Go.Proofs.YtajdahnfnodoeaaDoor.lexNumbers
namespace Go.Proofs.YtajdahnfnodoeaaDoor
open Go
theorem lexNumbers_card : Rows.LexNumbersCardSaid :=
  Claim7.holds_tied_plain_at .later [] [.data, .data, .data, .sentinel, .sentinel, .widerDeep] true (true, "8f2c4994f3a7aab0724bec39601fd884380253aba648fb5dbbd5152a4bc60d1a") true
    lexNumbers.proved (fun _ h => by cases h) (by kernel_rfl) (fun _ h => by cases h) lexNumbers_row_tie rfl ⟨rfl, rfl⟩ (by kernel_rfl) rfl
    (fun f fn hf hfn => by
      obtain rfl : f = 7 := Option.some.inj ((show Tryd.prog.funcNamed "duologue/duologuelaw01.LexNumbers" = some 7 by kernel_rfl).symm.trans hf) |>.symm
      obtain rfl : fn = Tryd.f7 := (Option.some.inj (Tryd.func7.symm.trans hfn)).symm
      exact ⟨by kernel_rfl, fun j t ht => by
        rw [Tryd.params7] at ht
        have h3 : t = 2 := by
          rcases j with _ | j
          · exact by simpa using ht.symm
          · simp at ht
        rcases h3 with rfl
        · exact (show Tryd.prog.wantsStandIn 2 = false by kernel_rfl)⟩)
    (by kernel_rfl)
#print axioms lexNumbers_card
end Go.Proofs.YtajdahnfnodoeaaDoor
