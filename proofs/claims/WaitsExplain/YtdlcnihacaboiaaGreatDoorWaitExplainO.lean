/-
  A part of the proof.
-/
import Derived.Test.YtdlcnihacaboiaaGreatDoorGS
import Derived.Test.YtdlcnihacaboiaaGreatDoorWaitX
import Derived.Test.YtdlcnihacaboiaaGreatDoorWaitExplainK1
import Derived.Test.YtdlcnihacaboiaaGreatDoorWaitExplainK2
set_option linter.all false
namespace Go.Proofs.YtdlcnihacaboiaaGreatDoor.waitsExplain
open Go Go.Duo Go.ChangeShapes Go.WideShapes Go.ChangeAt Go.RowKit
open Go.Proofs.YtdlcnihacaboiaaGreatDoor
set_option maxRecDepth 100000 in
theorem lifted (os:Os) (started:os.Started) (H:Type) (enc:TypeId × Value → H) :
    ReturnsInHanded {} Tryz.checked os 7 .any (fun w args => (Rows.waitsExplainSpec.pre enc Tryz.prog Tryz.f7 [] false w args ∧ laidMet Tryz.prog laidList2 w) ∧ sizedMet enc Tryz.prog Tryz.f7 (OpenSpec.ofChange Rows.waitsExplainSpec) false w args)
      (Rows.waitsExplainSpec.post enc Tryz.prog Tryz.f7 false true false false):=by
  refine returnsInHanded_of_change_and (C:=Tryz.checked) (X:=fun w _ => laidMet Tryz.prog laidList2 w) (fun _ _ _ hh h => h.of_heap hh) own started (by kernel_rfl) Tryz.func7
    (ChangeSpec.witness_at (enc:=enc) (C:=Tryz.checked) (os:=os) (X:=fun w _ => laidMet Tryz.prog laidList2 w) false (laidWorld2 os) #[.agg #[.slice none 0 0,.int .i64 0,.string ⟨#[]⟩,.string ⟨#[]⟩,.slice none 0 0,.slice none 0 0,.int .i64 0,.int .i64 0,.string ⟨#[]⟩,.int .i64 0,.slice none 0 0,.slice none 0 0,.slice none 0 0],.slice none 0 0] 8 rfl (by kernel_rfl) (by kernel_rfl) (by kernel_rfl) (by kernel_rfl) (by kernel_rfl) (laidWorld2_met os _)) ?_
  intro W base args ds gs before hval0 hW _ _ hL _
  have hval:∀ (j:Nat) t v,Tryz.f7.params[j]? = some t → args[j]? = some v → Value.okWide Tryz.prog W .any base t v:=hval0
  have hW':=hW
  obtain ⟨p,q,hA0,hV,rfl,hfz,hnd⟩:=hW
  have hA:DataW.TrodAll enc Tryz.prog W 0 (fun _ => true) true Tryz.f7.params.toList args.toList ds p:=hA0
  rw [Tryz.params7] at hA hval
  obtain ⟨v0,vs0,d0,ds0,p0,q0,hargs,rfl,rfl,h0,r0⟩:=trodAll_cons hA
  obtain ⟨v1,vs1,d1,ds1,p1,q1,rfl,rfl,rfl,h1,r1⟩:=trodAll_cons r0
  obtain ⟨rfl,rfl,rfl⟩:=trodAll_nil r1
  obtain rfl:args = #[v0,v1]:=by cases args;simp_all
  obtain ⟨rfl,rfl⟩:=trodVars_none hV
  obtain ⟨cs0,rfl,sz0⟩:=okWide_struct Tryz.underlying48 (hval 0 48 v0 rfl rfl)
  have k0:=h0
  have lt0:∀ x ∈ p0,x.block < W.heap.size:=by obtain ⟨m,hm⟩:=k0;exact DataW.trod_lt m _ _ _ hm
  obtain ⟨fuel0,hf0⟩:=h0
  obtain ⟨us0,hprl0,hhas0⟩:=trodV (K:=(startS W).K) (fun b o hb => hb) fuel0 48 _ _ _ flat48 hf0
  obtain ⟨l0,hl0,ok0⟩:=pg_of _ _ hhas0
  rw [hl0] at hprl0
  have pr0:=PRL.agg hprl0
  obtain ⟨a1,len1,cap1,rfl⟩:=okWide_slice Tryz.underlying49 (hval 1 49 v1 rfl rfl)
  have k1:=h1
  have lt1:∀ x ∈ p1,x.block < W.heap.size:=by obtain ⟨m,hm⟩:=k1;exact DataW.trod_lt m _ _ _ hm
  obtain ⟨fuel1,hf1⟩:=h1
  obtain ⟨us1,hprl1,hhas1⟩:=trodV (K:=(startS W).K) (fun b o hb => hb) fuel1 49 _ _ _ flat49 hf1
  obtain ⟨l1,hl1,ok1,_⟩:=scr_of _ _ hhas1
  rw [hl1] at hprl1
  clear hA0 hval0
  refine (run_law2 (Tryz.waitsExplain_spec l0 ok0 l1 ok1 []) hL (xs:=[.agg cs0,.slice a1 len1 cap1]) ⟨rfl,fun i c x hc hx => ?_⟩).mono fun e W' ⟨he,bel⟩ => ?_
  · rcases i with _ | _ | i
    · simp only [List.getElem?_cons_zero,List.getElem?_cons_succ,Option.some.injEq] at hc hx;subst hc hx;exact pr0
    · simp at hc hx;subst hc hx;exact (hprl1.2 0 _ _ rfl rfl).1
    · simp at hc
  subst he
  exact ⟨_,rfl,_,_,_,[],_,[],hW',trodAll_mk1 (shut_bool Tryz.underlying4 _),trodAll_cons_mk (Below.trod laidOut (by kernel_rfl) (of_decide_eq_true (by kernel_rfl)) k0 bel lt0) (trodAll_cons_mk (Below.trod laidOut (by kernel_rfl) (of_decide_eq_true (by kernel_rfl)) k1 bel lt1) (trodAll_mk0)),rfl,bel.frame _,fun h => by cases h⟩
theorem facts:joinedFacts Tryz.pinned.checked.prog 7 Tryz.f7 Rows.waitsExplainSpec Rows.waitsExplainRow = true:=by
  unfold joinedFacts;rw [k1,k2,k3,k4];kernel_rfl
theorem inst:Tryz.f7.isInstance Tryz.pinned.checked.prog Rows.waitsExplainRow.origin Rows.waitsExplainRow.targs:=of_decide_eq_true (by kernel_rfl)
theorem wrap:Tryz.f7.isWrapper Tryz.pinned.checked.prog Rows.waitsExplainRow.wrapper Rows.waitsExplainRow.mainSum:=by
  unfold Func.isWrapper;first | (rw [if_pos (by decide +kernel)];kernel_rfl) | (rw [if_neg (by decide +kernel)];exact ⟨rfl,rfl⟩)
theorem over:Rows.waitsExplainRow.holds Tryz.pinned (OpenSpec.ofChange Rows.waitsExplainSpec) :=
  OpenClaim.holds_of_wide 7 Tryz.f7 rfl rfl rfl rfl rfl rfl rfl ⟨rfl,rfl,rfl,rfl,rfl⟩ rfl rfl rfl rfl rfl fnName Tryz.func7 facts inst wrap
    (fun os started H enc _ => lifted os started H enc)
theorem proved:Rows.WaitsExplainSaid:=over
end Go.Proofs.YtdlcnihacaboiaaGreatDoor.waitsExplain
