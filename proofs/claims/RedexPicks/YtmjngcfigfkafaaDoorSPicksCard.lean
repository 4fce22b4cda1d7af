/-
  For every list of redexes and every number, RedexPicks returns true and leaves its arguments as they were; the package variables that it reads are tied to the program's text.
-/
import Derived.Test.YtmjngcfigfkafaaDoorSPicks
import Derived.Test.YtmjngcfigfkafaaDoorCards
import Derived.Test.YtmjngcfigfkafaaDoorTie
import Derived.SevenTiedAt
set_option linter.all false
namespace Go.Proofs.YtmjngcfigfkafaaDoor
open Go
/-- RedexPicks, for every input. -/
theorem redexPicks_card : Rows.RedexPicksCardSaid :=
  Claim7.holds_tied_plain_at .later [] [.data, .data, .data, .sentinel, .sentinel] true (true, "7551a3a46548d40cd10c57eb7e3eb6ecb9b30394686acd6e801e11f015c87786") true
    redexPicks.proved (fun _ h => by cases h) (by kernel_rfl) (fun _ h => by cases h) redexPicks_row_tie rfl ⟨rfl, rfl⟩ (by kernel_rfl) rfl
    (fun f fn hf hfn => by
      obtain rfl : f = 6 := Option.some.inj ((show Tryd.prog.funcNamed "duologue/duologuelaw18.RedexPicks" = some 6 by kernel_rfl).symm.trans hf) |>.symm
      obtain rfl : fn = Tryd.f6 := (Option.some.inj (Tryd.func6.symm.trans hfn)).symm
      exact ⟨by kernel_rfl, fun j t ht => by
        rw [Tryd.params6] at ht
        have h3 : t = 47 ∨ t = 3 := by
          rcases j with _ | _ | j
          · exact .inl (by simpa using ht.symm)
          · exact .inr (by simpa using ht.symm)
          · simp at ht
        rcases h3 with rfl | rfl
        · exact (show Tryd.prog.wantsStandIn 47 = false by kernel_rfl)
        · exact (show Tryd.prog.wantsStandIn 3 = false by kernel_rfl)⟩)
    (by kernel_rfl)
#print axioms redexPicks_card
end Go.Proofs.YtmjngcfigfkafaaDoor
