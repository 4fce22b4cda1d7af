/-
  A part of the proof.
-/
import Derived.Test.YtdlcnihacaboiaaGreatDoorWaitBridge
import Derived.Test.YtdlcnihacaboiaaGreatDoorCards
import Derived.Test.YtdlcnihacaboiaaGreatDoorTie
import Derived.Test.YtdlcnihacaboiaaGreatDoorGU
import Derived.Test.YtdlcnihacaboiaaGreatDoorWaitMeetK1
import Derived.Test.YtdlcnihacaboiaaGreatDoorWaitMeetK2
import Derived.SevenTiedAt
set_option linter.all false
namespace Go.Proofs.YtdlcnihacaboiaaGreatDoor.waitsMeet
open Go Go.Duo Go.ChangeShapes Go.WideShapes Go.ChangeAt Go.RowKit
open Go.Proofs.YtdlcnihacaboiaaGreatDoor
set_option maxRecDepth 100000 in
theorem lifted (os : Os) (started : os.Started) (H : Type) (enc : TypeId × Value → H) :
    ReturnsInHanded {} Tryz.checked os 9 .any (fun w args => (Rows.waitsMeetSpec.pre enc Tryz.prog Tryz.f9 [] false w args ∧ laidMet Tryz.prog laidList2 w) ∧ sizedMet enc Tryz.prog Tryz.f9 (OpenSpec.ofChange Rows.waitsMeetSpec) false w args)
      (Rows.waitsMeetSpec.post enc Tryz.prog Tryz.f9 false true false false) := by
  refine returnsInHanded_of_change_and (C := Tryz.checked) (X := fun w _ => laidMet Tryz.prog laidList2 w) (fun _ _ _ hh h => h.of_heap hh) own started (by kernel_rfl) Tryz.func9
    (ChangeSpec.witness_at (enc := enc) (C := Tryz.checked) (os := os) (X := fun w _ => laidMet Tryz.prog laidList2 w) false (laidWorld2 os) #[.slice none 0 0] 8 rfl (by kernel_rfl) (by kernel_rfl) (by kernel_rfl) (by kernel_rfl) (by kernel_rfl) (laidWorld2_met os _)) ?_
  intro W base args ds gs before hval0 hW _ _ hL _
  have hval : ∀ (j : Nat) t v, Tryz.f9.params[j]? = some t → args[j]? = some v → Value.okWide Tryz.prog W .any base t v := hval0
  have hW' := hW
  obtain ⟨p, q, hA0, hV, rfl, hfz, hnd⟩ := hW
  have hA : DataW.TrodAll enc Tryz.prog W 0 (fun _ => true) true Tryz.f9.params.toList args.toList ds p := hA0
  rw [Tryz.params9] at hA hval
  obtain ⟨v0, vs0, d0, ds0, p0, q0, hargs, rfl, rfl, h0, r0⟩ := trodAll_cons hA
  obtain ⟨rfl, rfl, rfl⟩ := trodAll_nil r0
  obtain rfl : args = #[v0] := by cases args; simp_all
  obtain ⟨rfl, rfl⟩ := trodVars_none hV
  obtain ⟨a0, len0, cap0, rfl⟩ := okWide_slice Tryz.underlying66 (hval 0 66 v0 rfl rfl)
  have k0 := h0
  have lt0 : ∀ x ∈ p0, x.block < W.heap.size := by obtain ⟨m, hm⟩ := k0; exact DataW.trod_lt m _ _ _ hm
  obtain ⟨fuel0, hf0⟩ := h0
  obtain ⟨us0, hprl0, hhas0⟩ := trodV (K := (startS W).K) (fun b o hb => hb) fuel0 66 _ _ _ flat66 hf0
  obtain ⟨l0, hl0⟩ := th_of _ _ hhas0
  rw [hl0] at hprl0
  clear hA0 hval0
  refine (run_law2 (Tryz.waitsMeet_spec l0 []) hL (xs := [.slice a0 len0 cap0]) ⟨rfl, fun i c x hc hx => ?_⟩).mono fun e W' ⟨he, bel⟩ => ?_
  · rcases i with _ | i
    · simp at hc hx; subst hc hx; exact (hprl0.2 0 _ _ rfl rfl).1
    · simp at hc
  subst he
  exact ⟨_, rfl, _, _, _, [], _, [], hW', trodAll_mk1 (shut_bool Tryz.underlying4 _), trodAll_cons_mk (Below.trod laidOut (by kernel_rfl) (of_decide_eq_true (by kernel_rfl)) k0 bel lt0) (trodAll_mk0), rfl, bel.frame _, fun h => by cases h⟩
theorem facts : joinedFacts Tryz.pinned.checked.prog 9 Tryz.f9 Rows.waitsMeetSpec Rows.waitsMeetRow = true := by
  unfold joinedFacts; rw [k1, k2, k3, k4]; kernel_rfl
theorem inst : Tryz.f9.isInstance Tryz.pinned.checked.prog Rows.waitsMeetRow.origin Rows.waitsMeetRow.targs := of_decide_eq_true (by kernel_rfl)
theorem wrap : Tryz.f9.isWrapper Tryz.pinned.checked.prog Rows.waitsMeetRow.wrapper Rows.waitsMeetRow.mainSum := by
  unfold Func.isWrapper; first | (rw [if_pos (by decide +kernel)]; kernel_rfl) | (rw [if_neg (by decide +kernel)]; exact ⟨rfl, rfl⟩)
theorem over : Rows.waitsMeetRow.holds Tryz.pinned (OpenSpec.ofChange Rows.waitsMeetSpec) :=
  OpenClaim.holds_of_wide 9 Tryz.f9 rfl rfl rfl rfl rfl rfl rfl ⟨rfl, rfl, rfl, rfl, rfl⟩ rfl rfl rfl rfl rfl fnName Tryz.func9 facts inst wrap
    (fun os started H enc _ => lifted os started H enc)
theorem proved : Rows.WaitsMeetSaid := over
end Go.Proofs.YtdlcnihacaboiaaGreatDoor.waitsMeet
namespace Go.Proofs.YtdlcnihacaboiaaGreatDoor
open Go
theorem waitsMeet_card : Rows.WaitsMeetCardSaid :=
  Claim7.holds_tied_plain_at .later [] _ _ _ _
    waitsMeet.proved (fun _ h => by cases h) (by kernel_rfl) (fun _ h => by cases h) waitsMeet_row_tie rfl ⟨rfl, rfl⟩ (by kernel_rfl) rfl
    (fun f fn hf hfn => by
      obtain rfl : f = 9 := Option.some.inj ((show Tryz.prog.funcNamed "duologue/duologuelaw24.WaitsMeet" = some 9 by kernel_rfl).symm.trans hf) |>.symm
      obtain rfl : fn = Tryz.f9 := (Option.some.inj (Tryz.func9.symm.trans hfn)).symm
      exact ⟨by kernel_rfl, fun j t ht => by
        rw [Tryz.params9] at ht
        have h3 : t = 66 := by
          rcases j with _ | j
          · simpa using ht.symm
          · simp at ht
        rcases h3 with rfl
        · exact (show Tryz.prog.wantsStandIn 66 = false by kernel_rfl)⟩)
    (by kernel_rfl)
#print axioms waitsMeet_card
end Go.Proofs.YtdlcnihacaboiaaGreatDoor
