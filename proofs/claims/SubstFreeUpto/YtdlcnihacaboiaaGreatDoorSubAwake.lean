/-
  A part of the proof.
-/
import Derived.Test.YtdlcnihacaboiaaGreatDoorSubA
import Derived.Test.YtdlcnihacaboiaaGreatDoorZTok
import Derived.Test.YtdlcnihacaboiaaGreatDoorGQ
set_option linter.all false
namespace Go.Proofs
open Go Go.Duo
namespace Tryz
theorem cloneO_spec (i : Nat) (ks vs : List V) (st : List O) (h : st[i]? = some (.map ks vs)) : Duo.Call Tryz.prog gl 143 [.map i] st (fun v st' => v = .map st.length ∧ st' = st ++ [.map ks vs]) := fun w s xs hst hs hxs => by
  obtain ⟨hl, hr⟩ := hxs
  match xs, hl with
  | [x], _ =>
    have hx := hr 0 _ _ rfl rfl
    cases hx with
    | pure _ _ h => cases h
    | map _ b hb =>
      have hob := hs.obj i _ _ (hst ▸ h) hb
      simp only [ObjOK] at hob
      obtain ⟨es, clock, h1, h2, h3, h4, h5⟩ := hob
      refine (callsIn_wide.2 (Tryz.maps_Clone b es clock w h1)).mono ?_
      rintro e w' ⟨rfl, rfl⟩
      obtain ⟨hS, hE, hR⟩ := new_map hs (ks := ks) (vs := vs) (es := es) clock h2 h3 h4 h5
      exact ⟨_, _, _, rfl, hS, hE, hR, by rw [hst], by show s.st ++ _ = _; rw [hst]⟩
def strsV : List V → Option (List Str)
  | [] => some []
  | .str s :: l => match strsV l with
    | some r => some (s :: r)
    | none => none
  | _ => none
theorem strsV_eq : ∀ {l : List V} {r : List Str}, strsV l = some r → l = r.map .str
  | [], r, h => by cases h; rfl
  | v :: l, r, h => by
    cases v <;> simp only [strsV] at h <;> try (cases h; done)
    split at h
    · rename_i r' hr
      cases h
      rw [strsV_eq hr]; rfl
    · cases h
def valsV : List V → Option (List Vl)
  | [] => some []
  | .agg [.int .i64 k, .str s, .int .i64 n] :: l => match valsV l with
    | some r => some (⟨k, s, n⟩ :: r)
    | none => none
  | _ => none
theorem valsV_eq : ∀ {l : List V} {r : List Vl}, valsV l = some r → l = r.map encV
  | [], r, h => by cases h; rfl
  | v :: l, r, h => by
    unfold valsV at h
    split at h
    · rename_i heq; cases heq
    · rename_i k s n l' heq
      cases heq
      split at h
      · rename_i r' hr
        cases h
        rw [valsV_eq hr]; rfl
      · cases h
    · cases h
/-- What is known of functions that are not reckoned. -/
noncomputable def kn : CallE := fun k args st => match Nat.beq k 125 with
  | true => match args with
    | [.str s] => match Nat.ble s.length 1000 with
      | true => some (encT3 (lexT s), st)
      | false => none
    | _ => none
  | false => match Nat.beq k 189 with
    | true => match args with
      | [.int .i64 (.ofNat n), .int .i64 10] => match Nat.ble n 1000000 with
        | true => some (.str (Lib.itoa n), st)
        | false => none
      | _ => none
    | false => match Nat.beq k 185 with
      | true => match args with
        | [.str s] => match Nat.ble s.length 1000 with
          | true => some (.bool (nameB s), st)
          | false => none
        | _ => none
      | false => match Nat.beq k 143 with
        | true => match args with
          | [.pmap ks vs] => some (.map st.length, st ++ [.map ks vs])
          | [.map i] => match st[i]? with
            | some (.map ks vs) => some (.map st.length, st ++ [.map ks vs])
            | _ => none
          | _ => none
        | false => match Nat.beq k 144 with
          | true => match args with
            | [.sl es _] => match strsV es with
              | some l => match Nat.ble l.length 1000 with
                | true => some (.sl (l.map .str) none, st)
                | false => none
              | none => none
            | [.nil] => some (.sl [] none, st)
            | _ => none
          | false => match Nat.beq k 145 with
            | true => match args with
              | [.sl es _] => match valsV es with
                | some l => match Nat.ble l.length 1000 with
                  | true => some (.sl (l.map encV) none, st)
                  | false => none
                | none => none
              | [.nil] => some (.sl [] none, st)
              | _ => none
            | false => none
theorem kn_ok : CallE.ok Tryz.prog gl kn := by
  intro k args st v st' h
  unfold kn at h
  split at h
  · rename_i hk; obtain rfl := Nat.eq_of_beq_eq_true hk
    split at h <;> try (cases h; done)
    split at h <;> try (cases h; done)
    rename_i s _ hs
    cases h
    have := Nat.le_of_ble_eq_true hs
    exact rtokens_spec s (by omega) st
  split at h
  · rename_i hk; obtain rfl := Nat.eq_of_beq_eq_true hk
    split at h <;> try (cases h; done)
    split at h <;> try (cases h; done)
    rename_i n _ hn
    cases h
    have := Nat.le_of_ble_eq_true hn
    exact fmtInt_spec n (by omega) (by omega) st
  split at h
  · rename_i hk; obtain rfl := Nat.eq_of_beq_eq_true hk
    split at h <;> try (cases h; done)
    split at h <;> try (cases h; done)
    rename_i s _ hs
    cases h
    have := Nat.le_of_ble_eq_true hs
    exact refname_spec s (by omega) st
  split at h
  · rename_i hk; obtain rfl := Nat.eq_of_beq_eq_true hk
    split at h <;> try (cases h; done)
    · cases h; exact cloneM_spec _ _ st
    · split at h <;> try (cases h; done)
      rename_i hst
      cases h; exact cloneO_spec _ _ _ st hst
  split at h
  · rename_i hk; obtain rfl := Nat.eq_of_beq_eq_true hk
    split at h <;> try (cases h; done)
    · split at h <;> try (cases h; done)
      rename_i hes
      split at h <;> try (cases h; done)
      rename_i hl
      cases h
      have := Nat.le_of_ble_eq_true hl
      rw [strsV_eq hes]
      exact Duo.Call.argle (show CLe _ [_] [_] from ⟨V.le_sl _ _ _, trivial⟩) (cloneS_spec _ (by omega) st)
    · cases h
      exact Duo.Call.argle (bs := [.sl (([] : List Str).map .str) none]) (show CLe _ [_] [_] from ⟨V.le_nil _, trivial⟩) (cloneS_spec [] (by simp) st)
  split at h
  · rename_i hk; obtain rfl := Nat.eq_of_beq_eq_true hk
    split at h <;> try (cases h; done)
    · split at h <;> try (cases h; done)
      rename_i hes
      split at h <;> try (cases h; done)
      rename_i hl
      cases h
      have := Nat.le_of_ble_eq_true hl
      rw [valsV_eq hes]
      exact Duo.Call.argle (show CLe _ [_] [_] from ⟨V.le_sl _ _ _, trivial⟩) (cloneV_spec _ (by omega) st)
    · cases h
      exact Duo.Call.argle (bs := [.sl (([] : List Vl).map encV) none]) (show CLe _ [_] [_] from ⟨V.le_nil _, trivial⟩) (cloneV_spec [] (by simp) st)
  · cases h
set_option maxRecDepth 1000000 in
theorem awake_run : funQ Tryz.prog gl kn 40 60 13 [] [] = some (.bool true, []) := by kernel_rfl
theorem awake_spec (st : List O) : Duo.Call Tryz.prog gl 13 [] st (fun v st' => v = .bool true ∧ st' = st) :=
  Duo.Call.frame0 (funQ_sound kn_ok mix 60 13 [] [] _ _ awake_run) st
end Tryz
end Go.Proofs
