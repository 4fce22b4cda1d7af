/-
  A part of the proof.
-/
import Derived.Test.YtdlcnihacaboiaaGreatDoorSubLib
import Derived.Test.YtdlcnihacaboiaaGreatDoorGP
import Derived.Test.YtdlcnihacaboiaaGreatDoorDS3
import Derived.Test.YtdlcnihacaboiaaGreatDoorGQ
import Derived.Test.YtdlcnihacaboiaaGreatDoorWaitLib
import Derived.Test.YtdlcnihacaboiaaGreatDoorWaitC
import Derived.Test.YtdlcnihacaboiaaGreatDoorSubAwake
import Derived.Test.YtdlcnihacaboiaaGreatDoorZProgL
import Derived.Test.YtdlcnihacaboiaaGreatDoorGT
import Derived.Test.YtdlcnihacaboiaaGreatDoorGO
set_option linter.all false
namespace Go.Proofs
open Go Go.Duo
namespace Tryz
attribute [local irreducible] awL awA awT AW
set_option maxRecDepth 100000 in
set_option maxHeartbeats 8000000 in
theorem cloneT_spec (l : List Str) (hn : l.length ≤ 2000000) (hl : l ≠ []) (st : List O) : Duo.Call Tryz.prog Tryz.gl 144 [.sl (l.map .str) none] st (fun v st' => v = .sl (l.map .str) (some st.length) ∧ st' = st ++ [.tok 9 1 l.length]) := by
  refine Duo.Call.clo fun hst => ?_
  refine Duo.Call.body 8 [(0, .sl (l.map .str) none)] Tryz.func144 rfl rfl ?_
  repeat' first
    | (refine AW.seqK fun K hK => ?_; refine AW.regionNil (v := .sl (l.map .str) none) rfl rfl elt22 (Nat.le_of_ble_eq_true rfl) (Nat.le_of_ble_eq_true rfl) fun b hq => ?_; (cases b; rotate_left; ((exfalso; (cases l with | nil => exact hl rfl | cons a l => exact absurd (hq rfl) (by simp [rowEs, V.cells, V.str]))))))
    | refine AW.seqK fun K hK => ?_
    | (refine hK _ _ ?_; clear hK K)
    | refine AW.region ?_
    | refine awL_nil ?_
    | refine awL_S1 rfl rfl (by simp (disch := omega) only [go_sem, ↓reduceIte, Nat.reduceEqDiff, Nat.reduceAdd, Nat.reduceLeDiff, Nat.reduceMul, Nat.reduceSub, Nat.reduceLT, List.length_map, List.nil_append, List.append_nil]; rfl) ?_
    | (refine AW.condK _ rfl (fun hb => ?_) (fun hb => ?_) <;> (try simp only [Int.ofNat_inj, not_true_eq_false, not_false_eq_true, Bool.false_eq_true, Bool.true_eq_false, decide_eq_true_eq, decide_eq_false_iff_not, Bool.not_eq_true, Bool.not_eq_false, Bool.not_eq_true', Bool.not_eq_false', Int.not_lt, Int.not_le, ne_eq, Decidable.not_not, List.length_map, Bool.and_eq_true, Bool.or_eq_true, Bool.and_eq_false_imp, Int.ofNat_lt, Int.ofNat_le] at hb) <;> try (exfalso; omega))
    | refine AW.skip ?_
    | refine useK (by assumption) ?_
    | (refine AW.ret ?_; show (_ ∨ _) ∧ _; refine ⟨.inr rfl, ?_⟩; show resP _ _ _ [.tmp 2] _; simp (disch := omega) only [go_sem, ↓reduceIte, Nat.reduceEqDiff, Nat.reduceAdd, Nat.reduceLeDiff, Nat.reduceMul, Nat.reduceSub, Nat.reduceLT, List.length_map, List.nil_append, List.append_nil]; refine ⟨st.length + 1, _, _, Nat.le_add_right _ _, V.le_refl _ _, StLe.refl _, ?_⟩; (try simp (disch := omega) only [go_sem, ↓reduceIte, Nat.reduceEqDiff, Nat.reduceAdd, Nat.reduceLeDiff, Nat.reduceMul, Nat.reduceSub, Nat.reduceLT, List.length_map, List.nil_append, List.append_nil, hst.trim, hst.trim_append]))
  all_goals (rw [trimS_app hst (by omega), show st.length + 1 - st.length = 1 from by omega]; rfl)
end Tryz
end Go.Proofs

namespace Go.Proofs
open Go Go.Duo
namespace Tryz
/-- What is known of functions that are not reckoned. -/
noncomputable def kn2 : CallE := fun k args st => match Nat.beq k 125 with
  | true => match args with
    | [.str s] => match Nat.ble s.length 1000 with
      | true => some (encT3 (lexT s), st)
      | false => none
    | _ => none
  | false => match Nat.beq k 107 with
    | true => match args with
      | [.str s, .int .i64 (.ofNat 10), .int .i64 (.ofNat 32)] => match Nat.ble s.length 1000 with
        | true => some (parV s, st)
        | false => none
      | _ => none
    | false => match Nat.beq k 108 with
    | true => match args with
      | [.int .i64 (.ofNat n)] => match Nat.ble n 1000000 with
        | true => some (.str (Lib.itoa n), st)
        | false => none
      | _ => none
    | false => match Nat.beq k 189 with
    | true => match args with
      | [.int .i64 (.ofNat n), .int .i64 10] => match Nat.ble n 1000000 with
        | true => some (.str (Lib.itoa n), st)
        | false => none
      | _ => none
    | false => match Nat.beq k 185 with
      | true => match args with
        | [.str s] => match Nat.ble s.length 1000 with
          | true => some (.bool (nameB s), st)
          | false => none
        | _ => none
      | false => match Nat.beq k 143 with
        | true => match args with
          | [.pmap ks vs] => some (.map st.length, st ++ [.map ks vs])
          | [.map i] => match st[i]? with
            | some (.map ks vs) => some (.map st.length, st ++ [.map ks vs])
            | _ => none
          | _ => none
        | false => match Nat.beq k 144 with
          | true => match args with
            | [.sl es _] => match strsV es with
              | some l => match Nat.ble l.length 1000 with
                | true => some (.sl (l.map .str) none, st)
                | false => none
              | none => none
            | [.nil] => some (.nil, st)
            | _ => none
          | false => match Nat.beq k 145 with
            | true => match args with
              | [.sl es _] => match valsV es with
                | some l => match Nat.ble l.length 1000 with
                  | true => some (.sl (l.map encV) none, st)
                  | false => none
                | none => none
              | [.nil] => some (.sl [] none, st)
              | _ => none
            | false => none
theorem kn2_ok : CallE.ok Tryz.prog gl2 kn2 := by
  intro k args st v st' h
  unfold kn2 at h
  split at h
  · rename_i hk; obtain rfl := Nat.eq_of_beq_eq_true hk
    split at h <;> try (cases h; done)
    split at h <;> try (cases h; done)
    rename_i s _ hs
    cases h
    have := Nat.le_of_ble_eq_true hs
    exact up (rtokens_spec s (by omega) st)
  split at h
  · rename_i hk; obtain rfl := Nat.eq_of_beq_eq_true hk
    split at h <;> try (cases h; done)
    split at h <;> try (cases h; done)
    rename_i s _ hs
    cases h
    have := Nat.le_of_ble_eq_true hs
    exact parse_spec s (by omega) st
  split at h
  · rename_i hk; obtain rfl := Nat.eq_of_beq_eq_true hk
    split at h <;> try (cases h; done)
    split at h <;> try (cases h; done)
    rename_i n _ hn
    cases h
    have := Nat.le_of_ble_eq_true hn
    exact itoa_spec n (by omega) (by omega) st
  split at h
  · rename_i hk; obtain rfl := Nat.eq_of_beq_eq_true hk
    split at h <;> try (cases h; done)
    split at h <;> try (cases h; done)
    rename_i n _ hn
    cases h
    have := Nat.le_of_ble_eq_true hn
    exact up (fmtInt_spec n (by omega) (by omega) st)
  split at h
  · rename_i hk; obtain rfl := Nat.eq_of_beq_eq_true hk
    split at h <;> try (cases h; done)
    split at h <;> try (cases h; done)
    rename_i s _ hs
    cases h
    have := Nat.le_of_ble_eq_true hs
    exact up (refname_spec s (by omega) st)
  split at h
  · rename_i hk; obtain rfl := Nat.eq_of_beq_eq_true hk
    split at h <;> try (cases h; done)
    · cases h; exact up (cloneM_spec _ _ st)
    · split at h <;> try (cases h; done)
      rename_i hst
      cases h; exact up (cloneO_spec _ _ _ st hst)
  split at h
  · rename_i hk; obtain rfl := Nat.eq_of_beq_eq_true hk
    split at h <;> try (cases h; done)
    · split at h <;> try (cases h; done)
      rename_i hes
      split at h <;> try (cases h; done)
      rename_i hl
      cases h
      have := Nat.le_of_ble_eq_true hl
      rw [strsV_eq hes]
      exact up (Duo.Call.argle (show CLe _ [_] [_] from ⟨V.le_sl _ _ _, trivial⟩) (cloneS_spec _ (by omega) st))
    · cases h
      exact up (cloneN_spec st)
  split at h
  · rename_i hk; obtain rfl := Nat.eq_of_beq_eq_true hk
    split at h <;> try (cases h; done)
    · split at h <;> try (cases h; done)
      rename_i hes
      split at h <;> try (cases h; done)
      rename_i hl
      cases h
      have := Nat.le_of_ble_eq_true hl
      rw [valsV_eq hes]
      exact up (Duo.Call.argle (show CLe _ [_] [_] from ⟨V.le_sl _ _ _, trivial⟩) (cloneV_spec _ (by omega) st))
    · cases h
      exact up (Duo.Call.argle (bs := [.sl (([] : List Vl).map encV) none]) (show CLe _ [_] [_] from ⟨V.le_nil _, trivial⟩) (cloneV_spec [] (by simp) st))
  · cases h
def decL {α : Type} (f : V → Option α) : List V → Option (List α)
  | [] => some []
  | v :: l => match f v with
    | some a => match decL f l with
      | some r => some (a :: r)
      | none => none
    | none => none
def decT : Nat → V → Option Ty
  | 0, _ => none
  | n + 1, v => match v with
    | .agg [.int .i64 k, .int .i64 p, .str s, .int .i64 sh, .sl ls none, .sl ks none] => match strsV ls with
      | some l => match decL (decT n) ks with
        | some kk => some (.mk k p s sh l kk)
        | none => none
      | none => none
    | _ => none
def decP : Nat → V → Option Pr
  | 0, _ => none
  | n + 1, v => match v with
    | .agg [.int .i64 k, .str c, .str w, .sl ls none, .sl ar none, t1, t2, t3, t4, t5, t6, .sl ks none] => match strsV ls with
      | some l => match valsV ar with
        | some a => match decT 20 (.agg [t1, t2, t3, t4, t5, t6]) with
          | some ty => match decL (decP n) ks with
            | some kk => some (.mk k c w l a ty kk)
            | none => none
          | none => none
        | none => none
      | none => none
    | _ => none
def okVB (x : Vl) : Bool := (decide (-9223372036854775808 ≤ x.kind) && decide (x.kind ≤ 9223372036854775807)) && (Nat.ble x.name.length 1000 && (decide (-9223372036854775808 ≤ x.n) && decide (x.n ≤ 9223372036854775807)))
theorem okVB_ok {x : Vl} (h : okVB x = true) : okV x := by
  unfold okVB at h
  simp only [Bool.and_eq_true, decide_eq_true_eq] at h
  have := Nat.le_of_ble_eq_true h.2.1
  exact ⟨h.1, (show x.name.length ≤ _ by omega), h.2.2⟩
def iB (k : Int) : Bool := decide (-9223372036854775808 ≤ k) && decide (k ≤ 9223372036854775807)
theorem iB_ok {k : Int} (h : iB k = true) : inI k := by
  unfold iB at h
  simp only [Bool.and_eq_true, decide_eq_true_eq] at h
  exact h
def sB (s : Str) : Bool := Nat.ble s.length 1000
theorem sB_ok {s : Str} (h : sB s = true) : inS s := by
  have := Nat.le_of_ble_eq_true h
  exact (show s.length ≤ _ by omega)
theorem lB_ok {α : Type} {l : List α} (h : Nat.ble l.length 1000 = true) : inL l := by
  have := Nat.le_of_ble_eq_true h
  exact (show l.length ≤ _ by omega)
mutual
def okTB : Ty → Bool
  | .mk k p n s l ks => iB k && (iB p && (sB n && (iB s && ((Nat.ble l.length 1000 && l.all sB) && (Nat.ble ks.length 1000 && okTBs ks)))))
def okTBs : List Ty → Bool
  | [] => true
  | t :: ts => okTB t && okTBs ts
end
theorem okTBs_eq (l : List Ty) : okTBs l = l.all okTB := by induction l with | nil => rfl | cons t l ih => rw [okTBs, ih]; rfl
theorem okTB_ok (t : Ty) : okTB t = true → okT t := by
  induction t using Ty.ind with
  | _ k p n s l ks ih =>
    intro h
    rw [okTB, okTBs_eq] at h
    simp only [Bool.and_eq_true, List.all_eq_true] at h
    obtain ⟨h1, h2, h3, h4, ⟨h5, h6⟩, h7, h8⟩ := h
    exact (okT_iff _).2 ⟨iB_ok h1, iB_ok h2, sB_ok h3, iB_ok h4, ⟨lB_ok h5, fun x hx => sB_ok (h6 x hx)⟩, lB_ok h7, fun u hu => ih u hu (h8 u hu)⟩
mutual
def okPB : Pr → Bool
  | .mk k c v l a t ks => iB k && (sB c && (sB v && ((Nat.ble l.length 1000 && l.all sB) && ((Nat.ble a.length 1000 && a.all okVB) && (okTB t && (Nat.ble ks.length 1000 && okPBs ks))))))
def okPBs : List Pr → Bool
  | [] => true
  | t :: ts => okPB t && okPBs ts
end
theorem okPBs_eq (l : List Pr) : okPBs l = l.all okPB := by induction l with | nil => rfl | cons t l ih => rw [okPBs, ih]; rfl
theorem okPB_ok (p : Pr) : okPB p = true → okP p := by
  induction p using Pr.ind with
  | _ k c v l a t ks ih =>
    intro h
    rw [okPB, okPBs_eq] at h
    simp only [Bool.and_eq_true, List.all_eq_true] at h
    obtain ⟨h1, h2, h3, ⟨h4, h5⟩, ⟨h6, h7⟩, h8, h9, h10⟩ := h
    exact (okP_iff _).2 ⟨iB_ok h1, sB_ok h2, sB_ok h3, ⟨lB_ok h4, fun x hx => sB_ok (h5 x hx)⟩, ⟨lB_ok h6, fun x hx => okVB_ok (h7 x hx)⟩, okTB_ok t h8, lB_ok h9, fun u hu => ih u hu (h10 u hu)⟩
noncomputable def staK (args : List V) (st : List O) : Option (V × List O) := match args with
  | [v] => match V.norm v with
    | .agg (_ :: cells) => match decP 60 (.agg cells) with
      | some m => match V.eqb (V.norm v) (encPg ⟨[], m⟩) && (okPB m && rightPg ⟨[], m⟩ 100) with
        | true => some (.agg [.sl ((startC ⟨[], m⟩).th.map encP) none, .sl ((startC ⟨[], m⟩).ch.map encT) none], st)
        | false => none
      | none => none
    | _ => none
  | _ => none
theorem staK_ok {args : List V} {st : List O} {v : V} {st' : List O} (h : staK args st = some (v, st')) : Duo.Call Tryz.prog gl2 44 args st (fun v' st'' => v' = v ∧ st'' = st') := by
  unfold staK at h
  split at h <;> try (cases h; done)
  split at h <;> try (cases h; done)
  split at h <;> try (cases h; done)
  rename_i m hm
  split at h <;> try (cases h; done)
  rename_i hb
  cases h
  simp only [Bool.and_eq_true] at hb
  obtain ⟨he, b5, b6⟩ := hb
  refine Duo.Call.argle (show CLe _ [_] [_] from ⟨?_, trivial⟩) (up (start_spec ⟨[], m⟩ (by simp) startN (start_all (p := ⟨[], m⟩) ⟨okPB_ok m b5, by simp [inL], fun d hd => by cases hd⟩ b6).2.1 st))
  rw [← V.eqb_eq he]
  exact V.le_norm _ _
noncomputable def kn3 : CallE := fun k args st => match Nat.beq k 44 with
  | true => staK args st
  | false => kn2 k args st
theorem kn3_ok : CallE.ok Tryz.prog gl2 kn3 := by
  intro k args st v st' h
  unfold kn3 at h
  split at h
  · rename_i hk; obtain rfl := Nat.eq_of_beq_eq_true hk
    exact staK_ok h
  · exact kn2_ok _ _ _ _ _ h
noncomputable def tk3 : CallE := fun k args st => match Nat.beq k 144 with
  | true => match args with
    | [.sl (x :: es) _] => match strsV (x :: es) with
      | some (y :: l) => match Nat.ble (y :: l).length 1000 with
        | true => some (.sl ((y :: l).map .str) (some st.length), st ++ [.tok 9 1 (y :: l).length])
        | false => none
      | _ => none
    | _ => none
  | false => none
theorem tk3_ok : CallE.ok Tryz.prog gl2 tk3 := by
  intro k args st v st' h
  unfold tk3 at h
  split at h <;> try (cases h; done)
  rename_i hk; obtain rfl := Nat.eq_of_beq_eq_true hk
  split at h <;> try (cases h; done)
  split at h <;> try (cases h; done)
  rename_i hes
  split at h <;> try (cases h; done)
  rename_i hl
  cases h
  have := Nat.le_of_ble_eq_true hl
  rw [strsV_eq hes]
  exact up (Duo.Call.argle (show CLe _ [_] [_] from ⟨V.le_sl _ _ _, trivial⟩) (cloneT_spec _ (by omega) (by simp) st))
def tx24 : Str := [109, 97, 105, 110, 32, 61, 32, 110, 101, 119, 32, 40, 97, 44, 32, 98, 58, 32, 33, 49, 32, 105, 110, 116, 46, 101, 110, 100, 41, 32, 110, 101, 119, 32, 40, 99, 44, 32, 100, 58, 32, 33, 50, 32, 105, 110, 116, 46, 101, 110, 100, 41, 32, 40, 97, 33, 60, 49, 62, 46, 99, 33, 60, 50, 62, 46, 115, 116, 111, 112, 32, 124, 32, 100, 63, 40, 121, 41, 46, 98, 63, 40, 120, 41, 46, 115, 116, 111, 112, 41, 59]
def m24 : Pr := .mk 6 [97] [98] [] [] (.mk 4 1 [] 0 [] [.mk 1 0 [] 0 [] [], .mk 3 0 [] 0 [] []]) [.mk 6 [99] [100] [] [] (.mk 4 2 [] 0 [] [.mk 1 0 [] 0 [] [], .mk 3 0 [] 0 [] []])
  [.mk 7 [] [] [] [] .z [.mk 2 [97] [] [] [⟨2, [], 1⟩] .z [.mk 2 [99] [] [] [⟨2, [], 2⟩] .z [.mk 1 [] [] [] [] .z []]], .mk 3 [100] [121] [] [] .z [.mk 3 [98] [120] [] [] .z [.mk 1 [] [] [] [] .z []]]]]]
noncomputable def par24 (r : Option (V × List O)) : Bool := match r with
  | some (.tuple [p, a, b], _) => V.eqb (V.norm (p.trim 0)) (encPg ⟨[], m24⟩) && (V.eqb (a.trim 0) (.int .i64 0) && V.eqb (b.trim 0) (.int .i64 0))
  | _ => false
set_option maxRecDepth 1000000 in
theorem parse24_run : par24 (funQ Tryz.prog gl2 kn3 tk3 40 59 51 [.str tx24] []) = true := by kernel_rfl
theorem parse24_spec : Duo.Call Tryz.prog gl2 51 [.str tx24] [] (fun v st' => v = .tuple [encPg ⟨[], m24⟩, .int .i64 0, .int .i64 0] ∧ st' = []) := by
  have h := parse24_run
  generalize hr : funQ Tryz.prog gl2 kn3 tk3 40 59 51 [.str tx24] [] = r at h
  unfold par24 at h
  split at h <;> try (cases h; done)
  rename_i p a b st0
  simp only [Bool.and_eq_true] at h
  obtain ⟨h1, h2, h3⟩ := h
  refine Duo.Call.cut0 (funQ_sound kn3_ok tk3_ok mix 59 51 _ _ _ _ hr) fun s => ?_
  show V.le s (.tuple [p.trim 0, a.trim 0, b.trim 0]) _
  rw [V.eqb_eq h2, V.eqb_eq h3, ← V.eqb_eq h1]
  refine V.le_tuple rfl fun i c d hc hd => ?_
  match i with
  | 0 => cases hc; cases hd; exact V.le_norm _ _
  | 1 => cases hc; cases hd; exact V.le_refl _ _
  | 2 => cases hc; cases hd; exact V.le_refl _ _
  | n + 3 => cases hc
noncomputable def kn4 : CallE := fun k args st => match Nat.beq k 51, st with
  | true, [] => match args with
    | [.str s] => match decide (s = tx24) with
      | true => some (.tuple [encPg ⟨[], m24⟩, .int .i64 0, .int .i64 0], [])
      | false => none
    | _ => none
  | _, _ => kn3 k args st
theorem kn4_ok : CallE.ok Tryz.prog gl2 kn4 := by
  intro k args st v st' h
  unfold kn4 at h
  split at h
  · rename_i hk; obtain rfl := Nat.eq_of_beq_eq_true hk
    split at h <;> try (cases h; done)
    split at h <;> try (cases h; done)
    rename_i hs
    cases h
    obtain rfl := of_decide_eq_true hs
    exact parse24_spec
  · exact kn3_ok _ _ _ _ _ h
set_option maxRecDepth 1000000 in
theorem awake24_run : funQ Tryz.prog gl2 kn4 tk3 40 60 23 [] [] = some (.bool true, []) := by kernel_rfl
theorem awake24_spec (st : List O) : Duo.Call Tryz.prog gl2 23 [] st (fun v st' => v = .bool true ∧ st' = st) :=
  Duo.Call.frame0 (funQ_sound kn4_ok tk3_ok mix 60 23 [] [] _ _ awake24_run) st
end Tryz
end Go.Proofs

namespace Go.Proofs
open Go Go.Duo
namespace Tryz
attribute [local irreducible] awL awA awT AW
set_option maxRecDepth 100000 in
set_option maxHeartbeats 8000000 in
theorem numbers_spec (a b : List Nat) (ha : a.length ≤ 1000000) (st : List O) : Duo.Call Tryz.prog Tryz.gl2 27 [.sl (a.map encN) none, .sl (b.map encN) none] st (fun v st' => v = .bool (decide (a = b)) ∧ st' = st) := by
  refine Duo.Call.clo fun hst => ?_
  refine Duo.Call.body 26 [(0, .sl (a.map encN) none), (1, .sl (b.map encN) none)] Tryz.func27 rfl rfl ?_
  repeat' first
    | refine AW.seqK fun K hK => ?_
    | (refine hK _ _ ?_; clear hK K)
    | refine AW.region ?_
    | refine AW.any (id := 6) mix 8 (by decide +kernel) ?_
    | refine awA_nil (by simp only [applyUps, List.nil_append, List.cons_append, S0, S2]; rfl) ?_
    | refine awL_nil ?_
    | refine awL_S1 rfl rfl (by simp (disch := omega) only [go_sem, ↓reduceIte, Nat.reduceEqDiff, Nat.reduceAdd, Nat.reduceLeDiff, Nat.reduceMul, Nat.reduceSub, Nat.reduceLT, encN_mk, List.length_map]; rfl) ?_
    | refine awA_S1 rfl rfl (by simp (disch := omega) only [go_sem, ↓reduceIte, Nat.reduceEqDiff, Nat.reduceAdd, Nat.reduceLeDiff, Nat.reduceMul, Nat.reduceSub, Nat.reduceLT, encN_mk, List.length_map]; rfl) ?_
    | (refine AW.condK _ rfl (fun hb => ?_) (fun hb => ?_) <;> (try simp only [Int.ofNat_inj, not_true_eq_false, not_false_eq_true, Bool.false_eq_true, Bool.true_eq_false, decide_eq_true_eq, decide_eq_false_iff_not, Bool.not_eq_true, Bool.not_eq_false, Bool.not_eq_true', Bool.not_eq_false', Int.not_lt, Int.not_le, ne_eq, Decidable.not_not, List.length_map, Bool.and_eq_true, Bool.or_eq_true, Bool.and_eq_false_imp, Int.ofNat_lt, Int.ofNat_le] at hb) <;> try (exfalso; omega))
    | refine AW.block ?_
    | refine bq_s ?_
    | refine bq_o rfl ?_
    | refine tq_e ?_
    | refine AW.exit ?_
    | refine AW.skip ?_
    | refine useK (by assumption) ?_
    | (refine AW.loopS (α := { i : Nat // i ≤ a.length ∧ a.take i = b.take i }) 26 (fun i => [(0, .sl (a.map encN) none), (1, .sl (b.map encN) none), (5, .int .i64 (i.1 : Nat))]) (fun i => st) (fun i => a.length - i.1) ⟨0, Nat.zero_le _, by simp⟩ rfl ?_ ?_ ?_; (focus (simp (disch := omega) only [go_sem, ↓reduceIte, Nat.reduceEqDiff, Nat.reduceAdd, Nat.reduceLeDiff, Nat.reduceMul, Nat.reduceSub, Nat.reduceLT]; done)); (focus (simp (disch := omega) only [go_sem, ↓reduceIte, Nat.reduceEqDiff, Nat.reduceAdd, Nat.reduceLeDiff, Nat.reduceMul, Nat.reduceSub, Nat.reduceLT]; done)); rintro ⟨i, hi, hpre⟩ hlc; dsimp only)
    | (refine ⟨⟨i + 1, by omega, takeN_step hpre (by omega) (by omega) (by omega)⟩, by simp only []; omega, _, Nat.le_refl _, Nat.le_of_ble_eq_true rfl, ?_, ?_⟩ <;> (simp (disch := omega) only [go_sem, ↓reduceIte, Nat.reduceEqDiff, Nat.reduceAdd, Nat.reduceLeDiff, Nat.reduceMul, Nat.reduceSub, Nat.reduceLT, List.length_append, hlc.trim, hlc.trim_append, trimS_app hst]))
    | (refine AW.ret ?_; show (_ ∨ _) ∧ _; refine ⟨.inr rfl, ?_⟩; show resP _ _ _ [.tmp 4] _; simp (disch := omega) only [go_sem, ↓reduceIte, Nat.reduceEqDiff, Nat.reduceAdd, Nat.reduceLeDiff, Nat.reduceMul, Nat.reduceSub, Nat.reduceLT, encN_mk, List.length_map]; refine ⟨_, _, _, Nat.le_refl _, V.le_refl _ _, StLe.refl _, ?_⟩; (try simp (disch := omega) only [go_sem, ↓reduceIte, Nat.reduceEqDiff, Nat.reduceAdd, Nat.reduceLeDiff, Nat.reduceMul, Nat.reduceSub, Nat.reduceLT, encN_mk, List.length_map, hst.trim, hst.trim_append]))
  all_goals first | (rw [decide_eq_false (by rintro rfl; omega)]; done) | (rw [decide_eq_true (takeN_end hpre (by omega) (by omega))]; done) | (rw [decide_eq_false (neN_at (i := i) (by omega) (by omega) (by omega))]; done) | trace_state
theorem thr_all (l : List Th) : ∀ p ∈ l.map threadL, thrP p := fun p hp => by
  obtain ⟨t, _, rfl⟩ := List.mem_map.1 hp
  have hc : (chanL t).length ≤ 2147483647 := by
    unfold chanL
    split
    · simp
    · have := (nameL_len (k := t.ch.toNat) (by have := UInt8.toNat_lt t.ch; omega) t.p).2
      omega
  have hz : smU Ty.z := (smU_iff _).2 ⟨by simp [Ty.z, Ty.labels], by simp [Ty.z, Ty.kids]⟩
  have hs : smA stopL := (smA_iff _).2 ⟨by simp [stopL, Pr.labels], by simp [stopL, Pr.args], hz, by simp [stopL, Pr.kids]⟩
  have hzl : smL Ty.z := (smL_iff _).2 ⟨by simp [Ty.z, Ty.labels], by simp [Ty.z, Ty.kids]⟩
  have hsl : smLP stopL := (smLP_iff _).2 ⟨by simp [stopL, Pr.labels], by simp [stopL, Pr.args], by show Ty.z.sz ≤ _; rw [Ty.sz_eq]; simp [Ty.z, Ty.kids, Ty.szs], hzl, by simp [stopL, Pr.kids]⟩
  have hk : ∀ q ∈ (threadL t).kids, q = stopL := fun q hq => by
    unfold threadL at hq
    split at hq
    · simpa [Pr.kids] using hq
    · split at hq
      · simpa [Pr.kids] using hq
      · split at hq <;> simpa [Pr.kids] using hq
  have hkl : (threadL t).kids.length ≤ 2 := by
    unfold threadL
    split
    · simp [Pr.kids]
    · split
      · simp [Pr.kids]
      · split <;> simp [Pr.kids]
  have hch : (threadL t).chan = chanL t := by
    unfold threadL
    split
    · rfl
    · split
      · rfl
      · split <;> rfl
  have hty : (threadL t).typ = Ty.z := by
    unfold threadL
    split
    · rfl
    · split
      · rfl
      · split <;> rfl
  have hla : (threadL t).labels.length ≤ 2 ∧ (threadL t).args.length ≤ 2 := by
    unfold threadL
    split
    · simp [Pr.labels, Pr.args]
    · split
      · simp [Pr.labels, Pr.args]
      · split <;> simp [Pr.labels, Pr.args]
  have hpre : preK (threadL t).kind = true := by
    unfold threadL
    split
    · rfl
    · split
      · rfl
      · split <;> rfl
  exact {
    fl := ⟨hpre, fun q hq => by rw [hk q hq]; exact ⟨rfl, rfl, rfl⟩⟩
    sm := (smA_iff _).2 ⟨by omega, by omega, by rw [hty]; exact hz, fun q hq => by rw [hk q hq]; exact hs⟩
    kl := by omega
    cl := by rw [hch]; exact hc
    sz := by
      unfold threadL
      split
      · exact Nat.le_of_ble_eq_true rfl
      · split
        · exact Nat.le_of_ble_eq_true rfl
        · split <;> exact Nat.le_of_ble_eq_true rfl
    dp := by
      unfold threadL
      split
      · exact Nat.le_of_ble_eq_true rfl
      · split
        · exact Nat.le_of_ble_eq_true rfl
        · split <;> exact Nat.le_of_ble_eq_true rfl
    lp := (smLP_iff _).2 ⟨by omega, by omega, by rw [hty, Ty.sz_eq]; simp [Ty.z, Ty.kids, Ty.szs], by rw [hty]; exact hzl, fun q hq => by rw [hk q hq]; exact hsl⟩
    cp := by
      unfold threadL
      split
      · rfl
      · split
        · rfl
        · split <;> rfl }
theorem cyc_ok (l : List Pr) : decide ((cycW l).isSome = decide (0 < ((cycW l).getD []).length)) = true := by rw [decide_eq_true_eq]; exact cyc_pos l
theorem forW_len (l : List Pr) (i : Nat) : (forW l i).length ≤ l.length := forK_len l i l.length
theorem cyc_len (l : List Pr) : ((cycW l).getD []).length ≤ l.length := by
  cases hc : cycW l with
  | none => simp
  | some c =>
    unfold cycW at hc
    obtain ⟨i, hi, he⟩ := List.exists_of_findSome?_eq_some hc
    rw [List.mem_range] at hi
    unfold cycAt at he
    split at he
    · cases he
      obtain ⟨_, _, _, _, h9⟩ := chW_end hi
      simp only [Option.getD_some, List.length_drop]; omega
    · cases he
set_option maxRecDepth 100000 in
set_option maxHeartbeats 8000000 in
theorem waitsThreads_spec (l : List Th) (st : List O) : Duo.Call Tryz.prog Tryz.gl2 6 [.sl (l.map encTh) none] st (fun v st' => v = .bool true ∧ st' = st) := by
  refine Duo.Call.clo fun hst => ?_
  refine Duo.Call.real fun hr => ?_
  have hln : l.length ≤ 9223372036854775807 := (hr (.sl (l.map encTh) none) (by simp) (PureV.sl _ _)).row
  refine Duo.Call.body 61 [(0, .sl (l.map encTh) none)] Tryz.func6 rfl rfl ?_
  repeat' first
    | refine AW.seqK fun K hK => ?_
    | (refine hK _ _ ?_; clear hK K)
    | refine AW.region ?_
    | refine awL_call rfl (by first | exact ent23 | exact ent35 | exact ent32 | exact ent28 | exact ent26 | exact ent27 | exact ent30 | exact ent31 | exact ent33) (by simp only [go_sem, ↓reduceIte, Nat.reduceEqDiff, Nat.reduceAdd, Nat.reduceLeDiff, Nat.reduceMul, Nat.reduceSub, Nat.reduceLT, List.length_map]; rfl) (by first | exact awake24_spec _ | exact threads_spec l (by omega) _ | exact pcycle_spec (l.map threadL) (by rw [List.length_map]; omega) (thr_all l) _ | exact rcycle_spec (l.map threadL) (by rw [List.length_map]; omega) (thr_all l) _ | exact wfor_spec (l.map threadL) (by rw [List.length_map]; omega) (thr_all l) _ (by rw [List.length_map]; assumption) _ | exact rfor_spec (l.map threadL) (by rw [List.length_map]; omega) (thr_all l) _ (by rw [List.length_map]; assumption) _ | exact pchain_spec (l.map threadL) (by rw [List.length_map]; omega) (thr_all l) _ (by rw [List.length_map]; assumption) _ | exact rchain_spec (l.map threadL) (by rw [List.length_map]; omega) (thr_all l) _ (by rw [List.length_map]; assumption) _ | exact numbers_spec (forW (l.map threadL) i) (forW (l.map threadL) i) (by have := forW_len (l.map threadL) i; rw [List.length_map] at this; omega) _ | exact numbers_spec (chW (l.map threadL) i).1 (chW (l.map threadL) i).1 (by obtain ⟨_, _, _, _, h9⟩ := chW_end (l := (l.map threadL)) (i0 := i) (by rw [List.length_map]; assumption); rw [List.length_map] at h9; omega) _ | exact numbers_spec ((cycW (l.map threadL)).getD []) ((cycW (l.map threadL)).getD []) (by have := cyc_len (l.map threadL); rw [List.length_map] at this; omega) _) rfl ?_
    | refine awL_nil ?_
    | (refine awL_gno rfl ?_ rfl ?_; focus (simp only [S0, ↓reduceIte, Nat.reduceEqDiff, Bool.not_true, Bool.not_false]; done))
    | (refine awL_gyes rfl ?_ ?_; focus (simp only [S0, ↓reduceIte, Nat.reduceEqDiff, Bool.not_true, Bool.not_false]; done))
    | refine awL_hole rfl rfl rfl rfl ?_
    | (refine awL_gcase rfl rfl (fun hg => ?_) (fun hg => ?_) <;> (rw [hg]; (try simp only [Int.ofNat_inj, not_true_eq_false, not_false_eq_true, Bool.false_eq_true, Bool.true_eq_false, decide_eq_true_eq, decide_eq_false_iff_not, Bool.not_eq_true, Bool.not_eq_false, Bool.not_eq_true', Bool.not_eq_false', Int.not_lt, Int.not_le, ne_eq, Decidable.not_not, List.length_map, Bool.and_eq_true, Bool.or_eq_true, Bool.and_eq_false_imp, Int.ofNat_lt, Int.ofNat_le] at hg); try (exfalso; omega)))
    | refine awL_S1 rfl rfl (by simp (disch := omega) only [go_sem, ↓reduceIte, Nat.reduceEqDiff, Nat.reduceAdd, Nat.reduceLeDiff, Nat.reduceMul, Nat.reduceSub, Nat.reduceLT, List.length_map]; rfl) ?_
    | (refine AW.condK _ rfl (fun hb => ?_) (fun hb => ?_) <;> (try simp only [Int.ofNat_inj, not_true_eq_false, not_false_eq_true, Bool.false_eq_true, Bool.true_eq_false, decide_eq_true_eq, decide_eq_false_iff_not, Bool.not_eq_true, Bool.not_eq_false, Bool.not_eq_true', Bool.not_eq_false', Int.not_lt, Int.not_le, ne_eq, Decidable.not_not, List.length_map, Bool.and_eq_true, Bool.or_eq_true, Bool.and_eq_false_imp, Int.ofNat_lt, Int.ofNat_le] at hb) <;> try (exfalso; omega))
    | refine AW.block ?_
    | refine bq_s ?_
    | refine bq_o rfl ?_
    | refine tq_e ?_
    | refine AW.exit ?_
    | refine AW.skip ?_
    | refine useK (by assumption) ?_
    | (refine AW.loopS (α := { i : Nat // i ≤ l.length }) 61 (fun i => [(3, .sl ((l.map threadL).map encP) none), (4, .ptr st.length 0), (5, .sl (((cycW (l.map threadL)).getD []).map encN) none), (6, .bool (cycW (l.map threadL)).isSome), (7, .int .i64 (i.1 : Nat))]) (fun i => st ++ [.box 59 [.sl ((l.map threadL).map encP) none, .nil]]) (fun i => l.length - i.1) ⟨0, Nat.zero_le _⟩ rfl ?_ ?_ ?_; (focus (simp (disch := omega) only [go_sem, ↓reduceIte, Nat.reduceEqDiff, Nat.reduceAdd, Nat.reduceLeDiff, Nat.reduceMul, Nat.reduceSub, Nat.reduceLT]; done)); (focus (simp (disch := omega) only [go_sem, ↓reduceIte, Nat.reduceEqDiff, Nat.reduceAdd, Nat.reduceLeDiff, Nat.reduceMul, Nat.reduceSub, Nat.reduceLT]; done)); rintro ⟨i, hi⟩ hlc; dsimp only)
    | (refine ⟨⟨i + 1, by omega⟩, by simp only []; omega, _, Nat.le_refl _, Nat.le_of_ble_eq_true rfl, ?_, ?_⟩ <;> (simp (disch := omega) only [go_sem, ↓reduceIte, Nat.reduceEqDiff, Nat.reduceAdd, Nat.reduceLeDiff, Nat.reduceMul, Nat.reduceSub, Nat.reduceLT, List.length_append, hlc.trim, hlc.trim_append, trimS_app hst]))
    | (refine AW.ret ?_; show (_ ∨ _) ∧ _; refine ⟨.inr rfl, ?_⟩; show resP _ _ _ [.tmp 2] _; simp (disch := omega) only [go_sem, ↓reduceIte, Nat.reduceEqDiff, Nat.reduceAdd, Nat.reduceLeDiff, Nat.reduceMul, Nat.reduceSub, Nat.reduceLT, List.length_map]; refine ⟨_, _, _, Nat.le_refl _, V.le_refl _ _, StLe.refl _, ?_⟩; (try simp (disch := omega) only [go_sem, ↓reduceIte, Nat.reduceEqDiff, Nat.reduceAdd, Nat.reduceLeDiff, Nat.reduceMul, Nat.reduceSub, Nat.reduceLT, List.length_map, hst.trim, hst.trim_append]))
  all_goals first | exact congrArg V.bool (cyc_ok _) | trace_state
end Tryz
end Go.Proofs
