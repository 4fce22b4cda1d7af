/-
  A part of the proof.
-/
import Derived.Test.YtdlcnihacaboiaaGreatDoorWaitExplainO
import Derived.Test.YtdlcnihacaboiaaGreatDoorCards
import Derived.Test.YtdlcnihacaboiaaGreatDoorTie
import Derived.SevenTiedAt
set_option linter.all false
namespace Go.Proofs.YtdlcnihacaboiaaGreatDoor
open Go
theorem waitsExplain_card : Rows.WaitsExplainCardSaid :=
  Claim7.holds_tied_plain_at .later [] _ _ _ _
    waitsExplain.proved (fun _ h => by cases h) (by kernel_rfl) (fun _ h => by cases h) waitsExplain_row_tie rfl ⟨rfl, rfl⟩ (by kernel_rfl) rfl
    (fun f fn hf hfn => by
      obtain rfl : f = 7 := Option.some.inj ((show Tryz.prog.funcNamed "duologue/duologuelaw24.WaitsExplain" = some 7 by kernel_rfl).symm.trans hf) |>.symm
      obtain rfl : fn = Tryz.f7 := (Option.some.inj (Tryz.func7.symm.trans hfn)).symm
      exact ⟨by kernel_rfl, fun j t ht => by
        rw [Tryz.params7] at ht
        have h3 : t = 48 ∨ t = 49 := by
          rcases j with _ | _ | j
          · exact .inl (by simpa using ht.symm)
          · exact .inr ((by simpa using ht.symm))
          · simp at ht
        rcases h3 with rfl | rfl
        · exact (show Tryz.prog.wantsStandIn 48 = false by kernel_rfl)
        · exact (show Tryz.prog.wantsStandIn 49 = false by kernel_rfl)⟩)
    (by kernel_rfl)
#print axioms waitsExplain_card
end Go.Proofs.YtdlcnihacaboiaaGreatDoor
