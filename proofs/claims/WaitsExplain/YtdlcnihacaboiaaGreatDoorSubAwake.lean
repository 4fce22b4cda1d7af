/-
  A part of the proof.
-/
import Derived.Test.YtdlcnihacaboiaaGreatDoorSubA
import Derived.Test.YtdlcnihacaboiaaGreatDoorZTok
import Derived.Test.YtdlcnihacaboiaaGreatDoorGO
set_option linter.all false
namespace Go.Proofs
open Go Go.Duo
namespace Tryz
theorem cloneO_spec (i:Nat) (ks vs:List V) (st:List O) (h:st[i]? = some (.map ks vs)):Duo.Call Tryz.prog gl 143 [.map i] st (fun v st' => v = .map st.length ∧ st' = st ++ [.map ks vs]):=fun w s xs hst hs hxs => by
  obtain ⟨hl,hr⟩:=hxs
  match xs,hl with
  | [x],_ =>
    have hx:=hr 0 _ _ rfl rfl
    cases hx with
    | pure _ _ h => cases h
    | map _ b hb =>
      have hob:=hs.obj i _ _ (hst ▸ h) hb
      simp only [ObjOK] at hob
      obtain ⟨es,clock,h1,h2,h3,h4,h5⟩:=hob
      refine (callsIn_wide.2 (Tryz.maps_Clone b es clock w h1)).mono ?_
      rintro e w' ⟨rfl,rfl⟩
      obtain ⟨hS,hE,hR⟩:=new_map hs (ks:=ks) (vs:=vs) (es:=es) clock h2 h3 h4 h5
      exact ⟨_,_,_,rfl,hS,hE,hR,by rw [hst],by show s.st ++ _ = _;rw [hst]⟩
def strsV:List V → Option (List Str)
  | [] => some []
  | .str s :: l => match strsV l with
    | some r => some (s :: r)
    | none => none
  | _ => none
theorem strsV_eq:∀ {l:List V} {r:List Str},strsV l = some r → l = r.map .str
  | [],r,h => by cases h;rfl
  | v :: l,r,h => by
    cases v <;> simp only [strsV] at h <;> try (cases h;done)
    split at h
    · rename_i r' hr
      cases h
      rw [strsV_eq hr];rfl
    · cases h
def valsV:List V → Option (List Vl)
  | [] => some []
  | .agg [.int .i64 k,.str s,.int .i64 n] :: l => match valsV l with
    | some r => some (⟨k,s,n⟩ :: r)
    | none => none
  | _ => none
theorem valsV_eq:∀ {l:List V} {r:List Vl},valsV l = some r → l = r.map encV
  | [],r,h => by cases h;rfl
  | v :: l,r,h => by
    unfold valsV at h
    split at h
    · rename_i heq;cases heq
    · rename_i k s n l' heq
      cases heq
      split at h
      · rename_i r' hr
        cases h
        rw [valsV_eq hr];rfl
      · cases h
    · cases h
end Tryz
end Go.Proofs
