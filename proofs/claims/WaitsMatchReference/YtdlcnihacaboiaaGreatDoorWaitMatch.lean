/-
  A part of the proof.
-/
import Derived.Test.YtdlcnihacaboiaaGreatDoorWaitMatchO
import Derived.Test.YtdlcnihacaboiaaGreatDoorCards
import Derived.Test.YtdlcnihacaboiaaGreatDoorTie
import Derived.SevenTiedAt
set_option linter.all false
namespace Go.Proofs.YtdlcnihacaboiaaGreatDoor
open Go
theorem waitsMatchReference_card : Rows.WaitsMatchReferenceCardSaid :=
  Claim7.holds_tied_plain_at .later [] _ _ _ _
    waitsMatchReference.proved (fun _ h => by cases h) (by kernel_rfl) (fun _ h => by cases h) waitsMatchReference_row_tie rfl ⟨rfl, rfl⟩ (by kernel_rfl) rfl
    (fun f fn hf hfn => by
      obtain rfl : f = 5 := Option.some.inj ((show Tryz.prog.funcNamed "duologue/duologuelaw24.WaitsMatchReference" = some 5 by kernel_rfl).symm.trans hf) |>.symm
      obtain rfl : fn = Tryz.f5 := (Option.some.inj (Tryz.func5.symm.trans hfn)).symm
      exact ⟨by kernel_rfl, fun j t ht => by
        rw [Tryz.params5] at ht
        have h3 : t = 48 ∨ t = 49 ∨ t = 3 := by
          rcases j with _ | _ | _ | j
          · exact .inl (by simpa using ht.symm)
          · exact .inr (.inl (by simpa using ht.symm))
          · exact .inr (.inr ((by simpa using ht.symm)))
          · simp at ht
        rcases h3 with rfl | rfl | rfl
        · exact (show Tryz.prog.wantsStandIn 48 = false by kernel_rfl)
        · exact (show Tryz.prog.wantsStandIn 49 = false by kernel_rfl)
        · exact (show Tryz.prog.wantsStandIn 3 = false by kernel_rfl)⟩)
    (by kernel_rfl)
#print axioms waitsMatchReference_card
end Go.Proofs.YtdlcnihacaboiaaGreatDoor
