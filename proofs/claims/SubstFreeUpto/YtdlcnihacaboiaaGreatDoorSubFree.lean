/-
  A part of the proof.
-/
import Derived.Test.YtdlcnihacaboiaaGreatDoorSubBridge
import Derived.Test.YtdlcnihacaboiaaGreatDoorSubFreeK1
import Derived.Test.YtdlcnihacaboiaaGreatDoorSubFreeK2
import Derived.Test.YtdlcnihacaboiaaGreatDoorCards
import Derived.Test.YtdlcnihacaboiaaGreatDoorTie
import Derived.Test.YtdlcnihacaboiaaGreatDoorSubD
import Derived.SevenTiedAt
import Derived.Deep.DeepHandedRow
set_option linter.all false
namespace Go.Proofs.YtdlcnihacaboiaaGreatDoor.substFree
open Go Go.Duo Go.ChangeShapes Go.WideShapes Go.ChangeAt Go.RowKit
open Go.Proofs.YtdlcnihacaboiaaGreatDoor
theorem reads (os : Os) {H : Type} (enc : TypeId × Value → H) : ∃ d places, DataW.whole enc Tryz.prog ((laidWorld os).forCall (fun _ _ => 0) ⟨#[], #[.agg #[.int .i64 0, .string ⟨#[]⟩, .string ⟨#[]⟩, .slice none 0 0, .slice none 0 0, .int .i64 0, .int .i64 0, .string ⟨#[]⟩, .int .i64 0, .slice none 0 0, .slice none 0 0, .slice none 0 0]], []⟩).memory Tryz.f3.params.toList Rows.substFreeSpec.vars false (#[Value.agg #[.int .i64 0, .string ⟨#[]⟩, .string ⟨#[]⟩, .slice none 0 0, .slice none 0 0, .int .i64 0, .int .i64 0, .string ⟨#[]⟩, .int .i64 0, .slice none 0 0, .slice none 0 0, .slice none 0 0]] : Array Value).toList 8 = some ([d], [], places) ∧ Rows.uptoSmall H [d] = true :=
  ⟨.agg [.lit (.int .i64 0), .lit (.string []), .lit (.string []), .nil, .nil, .agg [.lit (.int .i64 0), .lit (.int .i64 0), .lit (.string []), .lit (.int .i64 0), .nil, .nil], .nil], [], by kernel_rfl, by kernel_rfl⟩
set_option maxRecDepth 100000 in
theorem lifted (os : Os) (started : os.Started) (H : Type) (enc : TypeId × Value → H) (F : Stop.Interp) :
    ReturnsInHanded {} Tryz.checked os 3 .any ((Rows.OpenSpec.upto Rows.substFreeSpec).preRow enc Tryz.prog Tryz.f3 Rows.substFreeUptoRow.domain false Rows.substFreeUptoRow.laid) (((Rows.OpenSpec.upto Rows.substFreeSpec).at F).post enc Tryz.prog Tryz.f3 false true false false) := by
  obtain ⟨d0, places, hx, hsm⟩ := reads os enc
  refine returnsInHanded_of_row (C := Tryz.checked) (s := Rows.OpenSpec.upto Rows.substFreeSpec) own started (by kernel_rfl) Tryz.func3
    (witness_row_at (enc := enc) (C := Tryz.checked) false (laidWorld os) #[.agg #[.int .i64 0, .string ⟨#[]⟩, .string ⟨#[]⟩, .slice none 0 0, .slice none 0 0, .int .i64 0, .int .i64 0, .string ⟨#[]⟩, .int .i64 0, .slice none 0 0, .slice none 0 0, .slice none 0 0]] rfl (by kernel_rfl) (by kernel_rfl) (by kernel_rfl)
      (OpenSpec.preRow_of_cond 8 hx (by kernel_rfl) (fun k hk => by cases hk; exact hsm) (by kernel_rfl) (laidWorld_met os _))) ?_
  intro W base args ds gs before hval0 hW x1 x2 x3 hL _ _
  have hval : ∀ (j : Nat) t v, Tryz.f3.params[j]? = some t → args[j]? = some v → Value.okWide Tryz.prog W .any base t v := hval0
  have hW' := hW
  obtain ⟨p, q, hA0, hV, rfl, hfz, hnd⟩ := hW
  have hA : DataW.TrodAll enc Tryz.prog W 0 (fun _ => true) true Tryz.f3.params.toList args.toList ds p := hA0
  rw [Tryz.params3] at hA hval
  obtain ⟨v0, vs0, d0, ds0, p0, q0, hargs, rfl, rfl, h0, r0⟩ := trodAll_cons hA
  obtain ⟨rfl, rfl, rfl⟩ := trodAll_nil r0
  obtain rfl : args = #[v0] := by cases args; simp_all
  obtain ⟨rfl, rfl⟩ := trodVars_none hV
  obtain ⟨cs0, rfl, sz0⟩ := okWide_struct Tryz.underlying29 (hval 0 29 v0 rfl rfl)
  have k0 := h0
  have lt0 : ∀ x ∈ p0, x.block < W.heap.size := by obtain ⟨m, hm⟩ := k0; exact DataW.trod_lt m _ _ _ hm
  obtain ⟨fuel0, hf0⟩ := h0
  obtain ⟨us0, hprl0, hhas0, hsm0⟩ := trodB bulk_meas (K := (startS W).K) (fun b o hb => hb) fuel0 29 _ _ _ (fun n => (flat29 n).1) hf0
  obtain ⟨l0, hl0, ok0⟩ := (pr_of _ _).1 hhas0
  have sm0 : smA l0 := by
    have hk := of_decide_eq_true (x2 _ rfl)
    simp only [List.append_nil, List.cons_append, List.nil_append, Rows.uptoBulkAll] at hk
    rw [hl0] at hsm0
    exact sm_P (M := 1048576) (by omega) l0 (hsm0 1048576 (by omega))
  rw [hl0] at hprl0
  have pr0 : PR W (startS W).K (encP l0) (.agg cs0) := by
    have := PRL.agg hprl0
    rw [encP_cells] at this
    exact this
  clear hA0 hval0
  refine (run_law (Tryz.free_law_spec l0 ok0 sm0 []) hL (xs := [.agg cs0]) ⟨rfl, fun i c x hc hx => ?_⟩).mono fun e W' ⟨he, bel⟩ => ?_
  · rcases i with _ | i
    · simp only [List.getElem?_cons_zero, List.getElem?_cons_succ, Option.some.injEq] at hc hx; subst hc hx; exact pr0
    · simp at hc
  subst he
  exact ⟨_, rfl, _, _, _, [], _, [], hW', trodAll_mk1 (shut_bool Tryz.underlying4 _), trodAll_cons_mk (Below.trod laidOut (by kernel_rfl) (of_decide_eq_true (by kernel_rfl)) k0 bel lt0) (trodAll_mk0), rfl, bel.frame _, fun h => by cases h⟩
theorem facts : joinedFacts Tryz.pinned.checked.prog 3 Tryz.f3 (Rows.OpenSpec.upto Rows.substFreeSpec).bare Rows.substFreeUptoRow = true := by
  unfold joinedFacts; rw [k1, k2, k3, k4]; kernel_rfl
theorem inst : Tryz.f3.isInstance Tryz.pinned.checked.prog Rows.substFreeUptoRow.origin Rows.substFreeUptoRow.targs := of_decide_eq_true (by kernel_rfl)
theorem wrap : Tryz.f3.isWrapper Tryz.pinned.checked.prog Rows.substFreeUptoRow.wrapper Rows.substFreeUptoRow.mainSum := by
  unfold Func.isWrapper; first | (rw [if_pos (by decide +kernel)]; kernel_rfl) | (rw [if_neg (by decide +kernel)]; exact ⟨rfl, rfl⟩)
theorem proved : Rows.SubstFreeUptoSaid :=
  OpenClaim.holds_of_cond 3 Tryz.f3 rfl rfl rfl rfl rfl rfl rfl ⟨rfl, rfl, rfl, rfl, rfl⟩ rfl rfl rfl rfl rfl fnName Tryz.func3 facts inst wrap
    (fun os started H enc _ F => by rw [OpenClaim.pre_eq_preRow]; exact lifted os started H enc F)
end Go.Proofs.YtdlcnihacaboiaaGreatDoor.substFree
namespace Go.Proofs.YtdlcnihacaboiaaGreatDoor
open Go
theorem substFreeUpto_card : Rows.SubstFreeUptoCardSaid :=
  Claim7.holds_tied_plain_at .later [] _ _ _ _ substFree.proved (fun _ h => by cases h) (by kernel_rfl) (fun _ h => by cases h) substFreeUpto_row_tie rfl ⟨rfl, rfl⟩ (by kernel_rfl) rfl
    (fun f fn hf hfn => by
      obtain rfl : f = 3 := Option.some.inj ((show Tryz.prog.funcNamed "duologue/duologuelaw16.SubstFree" = some 3 by kernel_rfl).symm.trans hf) |>.symm
      obtain rfl : fn = Tryz.f3 := (Option.some.inj (Tryz.func3.symm.trans hfn)).symm
      exact ⟨by kernel_rfl, fun j t ht => by
        rw [Tryz.params3] at ht
        have h3 : t = 29 := by
          rcases j with _ | j
          · simpa using ht.symm
          · simp at ht
        subst h3
        exact (show Tryz.prog.wantsStandIn 29 = false by kernel_rfl)⟩)
    (by kernel_rfl)
#print axioms substFreeUpto_card
end Go.Proofs.YtdlcnihacaboiaaGreatDoor
