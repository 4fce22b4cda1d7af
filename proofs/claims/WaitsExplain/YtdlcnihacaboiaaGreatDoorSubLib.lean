/-
  A part of the proof.
-/
import Derived.Test.YtdlcnihacaboiaaGreatDoorSubShelf
import Derived.Test.YtdlcnihacaboiaaGreatDoorSubFacts
import Derived.Test.YtdlcnihacaboiaaGreatDoorGJ
import Derived.Test.YtdlcnihacaboiaaGreatDoorGI
import Derived.Lib.QuietBelow
import Derived.Lib.AppendIntMem
set_option linter.all false
namespace Go.Proofs
open Go Go.Duo
namespace Tryz
def gl:Nat → V
  | 3 => .dptr (Lib.pow10Tab.map (.int .u64))
  | _ => .undef
theorem fmtInt_spec (n:Int) (h0:-9223372036854775808 ≤ n) (h1:n ≤ 9223372036854775807) (st:List O):Duo.Call Tryz.prog gl 189 [.int .i64 n,.int .i64 10] st (fun v st' => v = .str (Lib.itoa n) ∧ st' = st):=by
  refine Duo.Call.of_grow fun w s xs hst hs hxs => ?_
  obtain ⟨hl,hr⟩:=hxs
  match xs,hl with
  | [x,y],_ =>
    cases (hr 0 _ _ rfl rfl).int_inv
    cases (hr 1 _ _ rfl rfl).int_inv
    refine (Tryz.strconv_FormatInt_10 n h0 h1 w (glob_tab hs (g:=3) (by kernel_rfl) rfl)).mono ?_
    rintro e w' ⟨rfl,k,os,rfl⟩
    exact ⟨Lib.below_grow _ w (Nat.le_refl _) k os,_,_,rfl,⟨rfl,rfl⟩,fun _ _ => .pure _ _ (.str _)⟩
theorem cloneM_spec (ks vs:List V) (st:List O):Duo.Call Tryz.prog gl 143 [.pmap ks vs] st (fun v st' => v = .map st.length ∧ st' = st ++ [.map ks vs]):=fun w s xs hst hs hxs => by
  obtain ⟨hl,hr⟩:=hxs
  match xs,hl with
  | [x],_ =>
    have hx:=hr 0 _ _ rfl rfl
    cases hx with
    | pure _ _ h =>
      cases h with
      | pmap _ _ r es clock hb hK hk hv h1 h2 =>
        refine (callsIn_wide.2 (Tryz.maps_Clone r es clock w hb)).mono ?_
        rintro e w' ⟨rfl,rfl⟩
        obtain ⟨hS,hE,hR⟩:=new_map hs (ks:=ks) (vs:=vs) (es:=es) clock hk hv h1 (fun i c e hc he => .pure _ _ (h2 i c e hc he))
        exact ⟨_,_,_,rfl,hS,hE,hR,by rw [hst],by show s.st ++ _ = _;rw [hst]⟩
end Tryz
end Go.Proofs
