/-
  A part of the proof.
-/
import Derived.Test.YtdlcnihacaboiaaGreatDoorGS
import Derived.Test.YtdlcnihacaboiaaGreatDoorSubLib
import Derived.Test.YtdlcnihacaboiaaGreatDoorGP
import Derived.Test.YtdlcnihacaboiaaGreatDoorDS3
import Derived.Test.YtdlcnihacaboiaaGreatDoorGQ
import Derived.Test.YtdlcnihacaboiaaGreatDoorWaitLib
import Derived.Test.YtdlcnihacaboiaaGreatDoorWaitA
import Derived.Test.YtdlcnihacaboiaaGreatDoorWaitB
import Derived.Test.YtdlcnihacaboiaaGreatDoorSubAwake
import Derived.Test.YtdlcnihacaboiaaGreatDoorZProgL
import Derived.Test.YtdlcnihacaboiaaGreatDoorWaitC
import Derived.Test.YtdlcnihacaboiaaGreatDoorGO
import Derived.Test.YtdlcnihacaboiaaGreatDoorGT
set_option linter.all false
namespace Go.Duo
open Go
mutual
def V.norm : V → V
  | .agg cs => .agg (V.normL cs)
  | .nil => .sl [] none
  | .sl es _ => .sl (V.normL es) none
  | v => v
def V.normL : List V → List V
  | [] => []
  | v :: l => V.norm v :: V.normL l
end
theorem V.normL_eq (l : List V) : V.normL l = l.map V.norm := by induction l with | nil => rfl | cons v l ih => rw [V.normL, ih]; rfl
theorem norm_cells (v : V) : (V.norm v).cells = v.cells.map V.norm := by
  cases v <;> first | rfl | (rw [V.norm, V.normL_eq]; rfl)
theorem flat_norm (es : List V) : flat (es.map V.norm) = (flat es).map V.norm := by
  induction es with
  | nil => rfl
  | cons e es ih => rw [List.map_cons, flat_cons, flat_cons, List.map_append, ih, norm_cells]
theorem norm_one {v : V} (h : v.one = true) : (V.norm v).one = true := by
  cases v <;> first | exact h | rfl | (cases h; done)
theorem PR.norm {w : World} {K : Nat → Nat → Prop} {v : V} {x : Value} (h : PR w K v x) : PR w K (V.norm v) x := by
  induction h with
  | int k n => exact .int k n
  | bool b => exact .bool b
  | str s => exact .str s
  | agg cs xs hl _ ih =>
    rw [V.norm, V.normL_eq]
    refine .agg _ xs (by rw [List.length_map]; exact hl) fun i c x hc hx => ?_
    rw [List.getElem?_map] at hc
    cases hci : cs[i]? with
    | none => rw [hci] at hc; cases hc
    | some c0 => rw [hci] at hc; cases hc; exact ih i c0 x hci hx
  | tuple cs xs hl h _ => exact .tuple cs xs hl h
  | nil a => exact PR.nil_sl a
  | sl es a cap sz x hcap hmax hsz h1 hc _ ih =>
    rw [V.norm, V.normL_eq]
    have e : es.length = (es.map V.norm).length := (List.length_map ..).symm
    rw [e]
    have hf : ∀ (j : Nat) (c : V), (flat (es.map V.norm))[j]? = some c → ∃ c0, (flat es)[j]? = some c0 ∧ c = V.norm c0 := fun j c hj => by
      rw [flat_norm, List.getElem?_map] at hj
      cases hci : (flat es)[j]? with
      | none => rw [hci] at hj; cases hj
      | some c0 => rw [hci] at hj; cases hj; exact ⟨c0, rfl, rfl⟩
    refine .sl _ a cap sz x (by rw [← e]; exact hcap) hmax (fun e he => ?_) (fun c hc => ?_) (fun j c hj => ?_) (fun j c hj => ?_)
    · obtain ⟨e0, he0, rfl⟩ := List.mem_map.1 he
      rw [norm_cells, List.length_map]; exact hsz e0 he0
    · rw [flat_norm] at hc
      obtain ⟨c0, hc0, rfl⟩ := List.mem_map.1 hc
      exact norm_one (h1 c0 hc0)
    · obtain ⟨c0, h1, h2⟩ := hf j c hj; exact hc j c0 h1
    · obtain ⟨c0, h1, rfl⟩ := hf j c hj; exact ih j c0 h1
  | nilptr => exact .nilptr
  | dptr cs b o x hc h _ => exact .dptr cs b o x hc h
  | pmap ks vs r es clock hb hK hkl hvl h h' _ _ => exact .pmap ks vs r es clock hb hK hkl hvl h h'
  | func fn fs cs xs ys hl hl' h h' _ _ => exact .func fn fs cs xs ys hl hl' h h'
  | nilfunc => exact .nilfunc
  | iface t v x h _ => exact .iface t v x h
  | niliface => exact .niliface
mutual
theorem V.le_norm (st : List O) : ∀ v : V, V.le st v (V.norm v)
  | .agg cs => by
    rw [V.norm]
    exact V.le_agg (by rw [V.normL_eq, List.length_map]) (V.le_normL st cs)
  | .sl es t => V.le_trans (V.le_sl _ _ t) fun w s x _ hx => .pure _ _ hx.sl_inv.norm
  | .nil => V.le_nil _
  | .undef | .int _ _ | .bool _ | .str _ | .ref _ _ | .rptr _ _ _ | .ptr _ _ | .dptr _ | .nilptr | .map _ | .pmap _ _ | .nilfunc | .niliface | .yld _ | .tuple _ | .func _ _ _ | .iface _ _ => V.le_refl _ _
theorem V.le_normL (st : List O) : ∀ (cs : List V) (i : Nat) (c d : V), cs[i]? = some c → (V.normL cs)[i]? = some d → V.le st c d
  | [], i, c, d, h, _ => by cases i <;> cases h
  | v :: l, 0, c, d, h, h' => by
    rw [V.normL] at h'
    simp only [List.getElem?_cons_zero, Option.some.injEq] at h h'
    subst h h'
    exact V.le_norm st v
  | v :: l, i + 1, c, d, h, h' => by
    rw [V.normL] at h'
    simp only [List.getElem?_cons_succ] at h h'
    exact V.le_normL st l i c d h h'
end
/-- What a call hands back, without the objects that it left behind. -/
theorem Call.cut0 {P : Program} {gl : Nat → V} {k : FuncId} {args : List V} {v v1 : V} {st0 : List O} (h : Call P gl k args [] fun v' st' => v' = v ∧ st' = st0) (hv : ∀ s, V.le s (v.trim 0) v1) : Call P gl k args [] fun v' st' => v' = v1 ∧ st' = [] := fun w s xs hs0 hs hxs =>
  CallsIn.mono (h w s xs hs0 hs hxs) fun e w' ⟨v', x, s', h1, h2, h3, h4, h5, h6⟩ => by
    subst h5
    exact ⟨v1, x, s'.trim 0, h1, h2.trim 0, h3.trim hs.len h2.len (by rw [hs0]; exact Nat.zero_le _), hv _ w' (s'.trim 0) x rfl (Rep.trim h4), rfl, by simp [S.trim]⟩
end Go.Duo

namespace Go.Proofs
open Go Go.Duo
namespace Tryz
attribute [local irreducible] awL awA awT AW
set_option maxRecDepth 100000 in
set_option maxHeartbeats 8000000 in
theorem cloneT_spec (l : List Str) (hn : l.length ≤ 2000000) (hl : l ≠ []) (st : List O) : Duo.Call Tryz.prog Tryz.gl 144 [.sl (l.map .str) none] st (fun v st' => v = .sl (l.map .str) (some st.length) ∧ st' = st ++ [.tok 9 1 l.length]) := by
  refine Duo.Call.clo fun hst => ?_
  refine Duo.Call.body 8 [(0, .sl (l.map .str) none)] Tryz.func144 rfl rfl ?_
  repeat' first
    | (refine AW.seqK fun K hK => ?_; refine AW.regionNil (v := .sl (l.map .str) none) rfl rfl elt22 (Nat.le_of_ble_eq_true rfl) (Nat.le_of_ble_eq_true rfl) fun b hq => ?_; (cases b; rotate_left; ((exfalso; (cases l with | nil => exact hl rfl | cons a l => exact absurd (hq rfl) (by simp [rowEs, V.cells, V.str]))))))
    | refine AW.seqK fun K hK => ?_
    | (refine hK _ _ ?_; clear hK K)
    | refine AW.region ?_
    | refine awL_nil ?_
    | refine awL_S1 rfl rfl (by simp (disch := omega) only [go_sem, ↓reduceIte, Nat.reduceEqDiff, Nat.reduceAdd, Nat.reduceLeDiff, Nat.reduceMul, Nat.reduceSub, Nat.reduceLT, List.length_map, List.nil_append, List.append_nil]; rfl) ?_
    | (refine AW.condK _ rfl (fun hb => ?_) (fun hb => ?_) <;> (try simp only [Int.ofNat_inj, not_true_eq_false, not_false_eq_true, Bool.false_eq_true, Bool.true_eq_false, decide_eq_true_eq, decide_eq_false_iff_not, Bool.not_eq_true, Bool.not_eq_false, Bool.not_eq_true', Bool.not_eq_false', Int.not_lt, Int.not_le, ne_eq, Decidable.not_not, List.length_map, Bool.and_eq_true, Bool.or_eq_true, Bool.and_eq_false_imp, Int.ofNat_lt, Int.ofNat_le] at hb) <;> try (exfalso; omega))
    | refine AW.skip ?_
    | refine useK (by assumption) ?_
    | (refine AW.ret ?_; show (_ ∨ _) ∧ _; refine ⟨.inr rfl, ?_⟩; show resP _ _ _ [.tmp 2] _; simp (disch := omega) only [go_sem, ↓reduceIte, Nat.reduceEqDiff, Nat.reduceAdd, Nat.reduceLeDiff, Nat.reduceMul, Nat.reduceSub, Nat.reduceLT, List.length_map, List.nil_append, List.append_nil]; refine ⟨st.length + 1, _, _, Nat.le_add_right _ _, V.le_refl _ _, StLe.refl _, ?_⟩; (try simp (disch := omega) only [go_sem, ↓reduceIte, Nat.reduceEqDiff, Nat.reduceAdd, Nat.reduceLeDiff, Nat.reduceMul, Nat.reduceSub, Nat.reduceLT, List.length_map, List.nil_append, List.append_nil, hst.trim, hst.trim_append]))
  all_goals (rw [trimS_app hst (by omega), show st.length + 1 - st.length = 1 from by omega]; rfl)
end Tryz
end Go.Proofs

namespace Go.Proofs
open Go Go.Duo
namespace Tryz
/-- What is known of functions that are not reckoned. -/
noncomputable def kn2 : CallE := fun k args st => match Nat.beq k 125 with
  | true => match args with
    | [.str s] => match Nat.ble s.length 1000 with
      | true => some (encT3 (lexT s), st)
      | false => none
    | _ => none
  | false => match Nat.beq k 107 with
    | true => match args with
      | [.str s, .int .i64 (.ofNat 10), .int .i64 (.ofNat 32)] => match Nat.ble s.length 1000 with
        | true => some (parV s, st)
        | false => none
      | _ => none
    | false => match Nat.beq k 108 with
    | true => match args with
      | [.int .i64 (.ofNat n)] => match Nat.ble n 1000000 with
        | true => some (.str (Lib.itoa n), st)
        | false => none
      | _ => none
    | false => match Nat.beq k 189 with
    | true => match args with
      | [.int .i64 (.ofNat n), .int .i64 10] => match Nat.ble n 1000000 with
        | true => some (.str (Lib.itoa n), st)
        | false => none
      | _ => none
    | false => match Nat.beq k 185 with
      | true => match args with
        | [.str s] => match Nat.ble s.length 1000 with
          | true => some (.bool (nameB s), st)
          | false => none
        | _ => none
      | false => match Nat.beq k 143 with
        | true => match args with
          | [.pmap ks vs] => some (.map st.length, st ++ [.map ks vs])
          | [.map i] => match st[i]? with
            | some (.map ks vs) => some (.map st.length, st ++ [.map ks vs])
            | _ => none
          | _ => none
        | false => match Nat.beq k 144 with
          | true => match args with
            | [.sl es _] => match strsV es with
              | some l => match Nat.ble l.length 1000 with
                | true => some (.sl (l.map .str) none, st)
                | false => none
              | none => none
            | [.nil] => some (.nil, st)
            | _ => none
          | false => match Nat.beq k 145 with
            | true => match args with
              | [.sl es _] => match valsV es with
                | some l => match Nat.ble l.length 1000 with
                  | true => some (.sl (l.map encV) none, st)
                  | false => none
                | none => none
              | [.nil] => some (.sl [] none, st)
              | _ => none
            | false => none
theorem kn2_ok : CallE.ok Tryz.prog gl2 kn2 := by
  intro k args st v st' h
  unfold kn2 at h
  split at h
  · rename_i hk; obtain rfl := Nat.eq_of_beq_eq_true hk
    split at h <;> try (cases h; done)
    split at h <;> try (cases h; done)
    rename_i s _ hs
    cases h
    have := Nat.le_of_ble_eq_true hs
    exact up (rtokens_spec s (by omega) st)
  split at h
  · rename_i hk; obtain rfl := Nat.eq_of_beq_eq_true hk
    split at h <;> try (cases h; done)
    split at h <;> try (cases h; done)
    rename_i s _ hs
    cases h
    have := Nat.le_of_ble_eq_true hs
    exact parse_spec s (by omega) st
  split at h
  · rename_i hk; obtain rfl := Nat.eq_of_beq_eq_true hk
    split at h <;> try (cases h; done)
    split at h <;> try (cases h; done)
    rename_i n _ hn
    cases h
    have := Nat.le_of_ble_eq_true hn
    exact itoa_spec n (by omega) (by omega) st
  split at h
  · rename_i hk; obtain rfl := Nat.eq_of_beq_eq_true hk
    split at h <;> try (cases h; done)
    split at h <;> try (cases h; done)
    rename_i n _ hn
    cases h
    have := Nat.le_of_ble_eq_true hn
    exact up (fmtInt_spec n (by omega) (by omega) st)
  split at h
  · rename_i hk; obtain rfl := Nat.eq_of_beq_eq_true hk
    split at h <;> try (cases h; done)
    split at h <;> try (cases h; done)
    rename_i s _ hs
    cases h
    have := Nat.le_of_ble_eq_true hs
    exact up (refname_spec s (by omega) st)
  split at h
  · rename_i hk; obtain rfl := Nat.eq_of_beq_eq_true hk
    split at h <;> try (cases h; done)
    · cases h; exact up (cloneM_spec _ _ st)
    · split at h <;> try (cases h; done)
      rename_i hst
      cases h; exact up (cloneO_spec _ _ _ st hst)
  split at h
  · rename_i hk; obtain rfl := Nat.eq_of_beq_eq_true hk
    split at h <;> try (cases h; done)
    · split at h <;> try (cases h; done)
      rename_i hes
      split at h <;> try (cases h; done)
      rename_i hl
      cases h
      have := Nat.le_of_ble_eq_true hl
      rw [strsV_eq hes]
      exact up (Duo.Call.argle (show CLe _ [_] [_] from ⟨V.le_sl _ _ _, trivial⟩) (cloneS_spec _ (by omega) st))
    · cases h
      exact up (cloneN_spec st)
  split at h
  · rename_i hk; obtain rfl := Nat.eq_of_beq_eq_true hk
    split at h <;> try (cases h; done)
    · split at h <;> try (cases h; done)
      rename_i hes
      split at h <;> try (cases h; done)
      rename_i hl
      cases h
      have := Nat.le_of_ble_eq_true hl
      rw [valsV_eq hes]
      exact up (Duo.Call.argle (show CLe _ [_] [_] from ⟨V.le_sl _ _ _, trivial⟩) (cloneV_spec _ (by omega) st))
    · cases h
      exact up (Duo.Call.argle (bs := [.sl (([] : List Vl).map encV) none]) (show CLe _ [_] [_] from ⟨V.le_nil _, trivial⟩) (cloneV_spec [] (by simp) st))
  · cases h
def decL {α : Type} (f : V → Option α) : List V → Option (List α)
  | [] => some []
  | v :: l => match f v with
    | some a => match decL f l with
      | some r => some (a :: r)
      | none => none
    | none => none
def decT : Nat → V → Option Ty
  | 0, _ => none
  | n + 1, v => match v with
    | .agg [.int .i64 k, .int .i64 p, .str s, .int .i64 sh, .sl ls none, .sl ks none] => match strsV ls with
      | some l => match decL (decT n) ks with
        | some kk => some (.mk k p s sh l kk)
        | none => none
      | none => none
    | _ => none
def decP : Nat → V → Option Pr
  | 0, _ => none
  | n + 1, v => match v with
    | .agg [.int .i64 k, .str c, .str w, .sl ls none, .sl ar none, t1, t2, t3, t4, t5, t6, .sl ks none] => match strsV ls with
      | some l => match valsV ar with
        | some a => match decT 20 (.agg [t1, t2, t3, t4, t5, t6]) with
          | some ty => match decL (decP n) ks with
            | some kk => some (.mk k c w l a ty kk)
            | none => none
          | none => none
        | none => none
      | none => none
    | _ => none
def okVB (x : Vl) : Bool := (decide (-9223372036854775808 ≤ x.kind) && decide (x.kind ≤ 9223372036854775807)) && (Nat.ble x.name.length 1000 && (decide (-9223372036854775808 ≤ x.n) && decide (x.n ≤ 9223372036854775807)))
theorem okVB_ok {x : Vl} (h : okVB x = true) : okV x := by
  unfold okVB at h
  simp only [Bool.and_eq_true, decide_eq_true_eq] at h
  have := Nat.le_of_ble_eq_true h.2.1
  exact ⟨h.1, (show x.name.length ≤ _ by omega), h.2.2⟩
def iB (k : Int) : Bool := decide (-9223372036854775808 ≤ k) && decide (k ≤ 9223372036854775807)
theorem iB_ok {k : Int} (h : iB k = true) : inI k := by
  unfold iB at h
  simp only [Bool.and_eq_true, decide_eq_true_eq] at h
  exact h
def sB (s : Str) : Bool := Nat.ble s.length 1000
theorem sB_ok {s : Str} (h : sB s = true) : inS s := by
  have := Nat.le_of_ble_eq_true h
  exact (show s.length ≤ _ by omega)
theorem lB_ok {α : Type} {l : List α} (h : Nat.ble l.length 1000 = true) : inL l := by
  have := Nat.le_of_ble_eq_true h
  exact (show l.length ≤ _ by omega)
mutual
def okTB : Ty → Bool
  | .mk k p n s l ks => iB k && (iB p && (sB n && (iB s && ((Nat.ble l.length 1000 && l.all sB) && (Nat.ble ks.length 1000 && okTBs ks)))))
def okTBs : List Ty → Bool
  | [] => true
  | t :: ts => okTB t && okTBs ts
end
theorem okTBs_eq (l : List Ty) : okTBs l = l.all okTB := by induction l with | nil => rfl | cons t l ih => rw [okTBs, ih]; rfl
theorem okTB_ok (t : Ty) : okTB t = true → okT t := by
  induction t using Ty.ind with
  | _ k p n s l ks ih =>
    intro h
    rw [okTB, okTBs_eq] at h
    simp only [Bool.and_eq_true, List.all_eq_true] at h
    obtain ⟨h1, h2, h3, h4, ⟨h5, h6⟩, h7, h8⟩ := h
    exact (okT_iff _).2 ⟨iB_ok h1, iB_ok h2, sB_ok h3, iB_ok h4, ⟨lB_ok h5, fun x hx => sB_ok (h6 x hx)⟩, lB_ok h7, fun u hu => ih u hu (h8 u hu)⟩
mutual
def okPB : Pr → Bool
  | .mk k c v l a t ks => iB k && (sB c && (sB v && ((Nat.ble l.length 1000 && l.all sB) && ((Nat.ble a.length 1000 && a.all okVB) && (okTB t && (Nat.ble ks.length 1000 && okPBs ks))))))
def okPBs : List Pr → Bool
  | [] => true
  | t :: ts => okPB t && okPBs ts
end
theorem okPBs_eq (l : List Pr) : okPBs l = l.all okPB := by induction l with | nil => rfl | cons t l ih => rw [okPBs, ih]; rfl
theorem okPB_ok (p : Pr) : okPB p = true → okP p := by
  induction p using Pr.ind with
  | _ k c v l a t ks ih =>
    intro h
    rw [okPB, okPBs_eq] at h
    simp only [Bool.and_eq_true, List.all_eq_true] at h
    obtain ⟨h1, h2, h3, ⟨h4, h5⟩, ⟨h6, h7⟩, h8, h9, h10⟩ := h
    exact (okP_iff _).2 ⟨iB_ok h1, sB_ok h2, sB_ok h3, ⟨lB_ok h4, fun x hx => sB_ok (h5 x hx)⟩, ⟨lB_ok h6, fun x hx => okVB_ok (h7 x hx)⟩, okTB_ok t h8, lB_ok h9, fun u hu => ih u hu (h10 u hu)⟩
noncomputable def staK (args : List V) (st : List O) : Option (V × List O) := match args with
  | [v] => match V.norm v with
    | .agg (_ :: cells) => match decP 60 (.agg cells) with
      | some m => match V.eqb (V.norm v) (encPg ⟨[], m⟩) && (okPB m && rightPg ⟨[], m⟩ 100) with
        | true => some (.agg [.sl ((startC ⟨[], m⟩).th.map encP) none, .sl ((startC ⟨[], m⟩).ch.map encT) none], st)
        | false => none
      | none => none
    | _ => none
  | _ => none
theorem staK_ok {args : List V} {st : List O} {v : V} {st' : List O} (h : staK args st = some (v, st')) : Duo.Call Tryz.prog gl2 44 args st (fun v' st'' => v' = v ∧ st'' = st') := by
  unfold staK at h
  split at h <;> try (cases h; done)
  split at h <;> try (cases h; done)
  split at h <;> try (cases h; done)
  rename_i m hm
  split at h <;> try (cases h; done)
  rename_i hb
  cases h
  simp only [Bool.and_eq_true] at hb
  obtain ⟨he, b5, b6⟩ := hb
  refine Duo.Call.argle (show CLe _ [_] [_] from ⟨?_, trivial⟩) (up (start_spec ⟨[], m⟩ (by simp) startN (start_all (p := ⟨[], m⟩) ⟨okPB_ok m b5, by simp [inL], fun d hd => by cases hd⟩ b6).2.1 st))
  rw [← V.eqb_eq he]
  exact V.le_norm _ _
noncomputable def kn3 : CallE := fun k args st => match Nat.beq k 44 with
  | true => staK args st
  | false => kn2 k args st
theorem kn3_ok : CallE.ok Tryz.prog gl2 kn3 := by
  intro k args st v st' h
  unfold kn3 at h
  split at h
  · rename_i hk; obtain rfl := Nat.eq_of_beq_eq_true hk
    exact staK_ok h
  · exact kn2_ok _ _ _ _ _ h
noncomputable def tk3 : CallE := fun k args st => match Nat.beq k 144 with
  | true => match args with
    | [.sl (x :: es) _] => match strsV (x :: es) with
      | some (y :: l) => match Nat.ble (y :: l).length 1000 with
        | true => some (.sl ((y :: l).map .str) (some st.length), st ++ [.tok 9 1 (y :: l).length])
        | false => none
      | _ => none
    | _ => none
  | false => none
theorem tk3_ok : CallE.ok Tryz.prog gl2 tk3 := by
  intro k args st v st' h
  unfold tk3 at h
  split at h <;> try (cases h; done)
  rename_i hk; obtain rfl := Nat.eq_of_beq_eq_true hk
  split at h <;> try (cases h; done)
  split at h <;> try (cases h; done)
  rename_i hes
  split at h <;> try (cases h; done)
  rename_i hl
  cases h
  have := Nat.le_of_ble_eq_true hl
  rw [strsV_eq hes]
  exact up (Duo.Call.argle (show CLe _ [_] [_] from ⟨V.le_sl _ _ _, trivial⟩) (cloneT_spec _ (by omega) (by simp) st))
def tx24 : Str := [109, 97, 105, 110, 32, 61, 32, 110, 101, 119, 32, 40, 97, 44, 32, 98, 58, 32, 33, 49, 32, 105, 110, 116, 46, 101, 110, 100, 41, 32, 110, 101, 119, 32, 40, 99, 44, 32, 100, 58, 32, 33, 50, 32, 105, 110, 116, 46, 101, 110, 100, 41, 32, 40, 97, 33, 60, 49, 62, 46, 99, 33, 60, 50, 62, 46, 115, 116, 111, 112, 32, 124, 32, 100, 63, 40, 121, 41, 46, 98, 63, 40, 120, 41, 46, 115, 116, 111, 112, 41, 59]
def m24 : Pr := .mk 6 [97] [98] [] [] (.mk 4 1 [] 0 [] [.mk 1 0 [] 0 [] [], .mk 3 0 [] 0 [] []]) [.mk 6 [99] [100] [] [] (.mk 4 2 [] 0 [] [.mk 1 0 [] 0 [] [], .mk 3 0 [] 0 [] []])
  [.mk 7 [] [] [] [] .z [.mk 2 [97] [] [] [⟨2, [], 1⟩] .z [.mk 2 [99] [] [] [⟨2, [], 2⟩] .z [.mk 1 [] [] [] [] .z []]], .mk 3 [100] [121] [] [] .z [.mk 3 [98] [120] [] [] .z [.mk 1 [] [] [] [] .z []]]]]]
noncomputable def par24 (r : Option (V × List O)) : Bool := match r with
  | some (.tuple [p, a, b], _) => V.eqb (V.norm (p.trim 0)) (encPg ⟨[], m24⟩) && (V.eqb (a.trim 0) (.int .i64 0) && V.eqb (b.trim 0) (.int .i64 0))
  | _ => false
set_option maxRecDepth 1000000 in
theorem parse24_run : par24 (funQ Tryz.prog gl2 kn3 tk3 40 59 51 [.str tx24] []) = true := by kernel_rfl
theorem parse24_spec : Duo.Call Tryz.prog gl2 51 [.str tx24] [] (fun v st' => v = .tuple [encPg ⟨[], m24⟩, .int .i64 0, .int .i64 0] ∧ st' = []) := by
  have h := parse24_run
  generalize hr : funQ Tryz.prog gl2 kn3 tk3 40 59 51 [.str tx24] [] = r at h
  unfold par24 at h
  split at h <;> try (cases h; done)
  rename_i p a b st0
  simp only [Bool.and_eq_true] at h
  obtain ⟨h1, h2, h3⟩ := h
  refine Duo.Call.cut0 (funQ_sound kn3_ok tk3_ok mix 59 51 _ _ _ _ hr) fun s => ?_
  show V.le s (.tuple [p.trim 0, a.trim 0, b.trim 0]) _
  rw [V.eqb_eq h2, V.eqb_eq h3, ← V.eqb_eq h1]
  refine V.le_tuple rfl fun i c d hc hd => ?_
  match i with
  | 0 => cases hc; cases hd; exact V.le_norm _ _
  | 1 => cases hc; cases hd; exact V.le_refl _ _
  | 2 => cases hc; cases hd; exact V.le_refl _ _
  | n + 3 => cases hc
noncomputable def kn4 : CallE := fun k args st => match Nat.beq k 51, st with
  | true, [] => match args with
    | [.str s] => match decide (s = tx24) with
      | true => some (.tuple [encPg ⟨[], m24⟩, .int .i64 0, .int .i64 0], [])
      | false => none
    | _ => none
  | _, _ => kn3 k args st
theorem kn4_ok : CallE.ok Tryz.prog gl2 kn4 := by
  intro k args st v st' h
  unfold kn4 at h
  split at h
  · rename_i hk; obtain rfl := Nat.eq_of_beq_eq_true hk
    split at h <;> try (cases h; done)
    split at h <;> try (cases h; done)
    rename_i hs
    cases h
    obtain rfl := of_decide_eq_true hs
    exact parse24_spec
  · exact kn3_ok _ _ _ _ _ h
set_option maxRecDepth 1000000 in
theorem awake24_run : funQ Tryz.prog gl2 kn4 tk3 40 60 23 [] [] = some (.bool true, []) := by kernel_rfl
theorem awake24_spec (st : List O) : Duo.Call Tryz.prog gl2 23 [] st (fun v st' => v = .bool true ∧ st' = st) :=
  Duo.Call.frame0 (funQ_sound kn4_ok tk3_ok mix 60 23 [] [] _ _ awake24_run) st
end Tryz
end Go.Proofs

namespace Go.Proofs
open Go Go.Duo
namespace Tryz
attribute [local irreducible] awL awA awT AW
theorem thr_all (l : List Th) : ∀ p ∈ l.map threadL, thrP p := fun p hp => by
  obtain ⟨t, _, rfl⟩ := List.mem_map.1 hp
  have hc : (chanL t).length ≤ 2147483647 := by
    unfold chanL
    split
    · simp
    · have := (nameL_len (k := t.ch.toNat) (by have := UInt8.toNat_lt t.ch; omega) t.p).2
      omega
  have hz : smU Ty.z := (smU_iff _).2 ⟨by simp [Ty.z, Ty.labels], by simp [Ty.z, Ty.kids]⟩
  have hs : smA stopL := (smA_iff _).2 ⟨by simp [stopL, Pr.labels], by simp [stopL, Pr.args], hz, by simp [stopL, Pr.kids]⟩
  have hzl : smL Ty.z := (smL_iff _).2 ⟨by simp [Ty.z, Ty.labels], by simp [Ty.z, Ty.kids]⟩
  have hsl : smLP stopL := (smLP_iff _).2 ⟨by simp [stopL, Pr.labels], by simp [stopL, Pr.args], by show Ty.z.sz ≤ _; rw [Ty.sz_eq]; simp [Ty.z, Ty.kids, Ty.szs], hzl, by simp [stopL, Pr.kids]⟩
  have hk : ∀ q ∈ (threadL t).kids, q = stopL := fun q hq => by
    unfold threadL at hq
    split at hq
    · simpa [Pr.kids] using hq
    · split at hq
      · simpa [Pr.kids] using hq
      · split at hq <;> simpa [Pr.kids] using hq
  have hkl : (threadL t).kids.length ≤ 2 := by
    unfold threadL
    split
    · simp [Pr.kids]
    · split
      · simp [Pr.kids]
      · split <;> simp [Pr.kids]
  have hch : (threadL t).chan = chanL t := by
    unfold threadL
    split
    · rfl
    · split
      · rfl
      · split <;> rfl
  have hty : (threadL t).typ = Ty.z := by
    unfold threadL
    split
    · rfl
    · split
      · rfl
      · split <;> rfl
  have hla : (threadL t).labels.length ≤ 2 ∧ (threadL t).args.length ≤ 2 := by
    unfold threadL
    split
    · simp [Pr.labels, Pr.args]
    · split
      · simp [Pr.labels, Pr.args]
      · split <;> simp [Pr.labels, Pr.args]
  have hpre : preK (threadL t).kind = true := by
    unfold threadL
    split
    · rfl
    · split
      · rfl
      · split <;> rfl
  exact {
    fl := ⟨hpre, fun q hq => by rw [hk q hq]; exact ⟨rfl, rfl, rfl⟩⟩
    sm := (smA_iff _).2 ⟨by omega, by omega, by rw [hty]; exact hz, fun q hq => by rw [hk q hq]; exact hs⟩
    kl := by omega
    cl := by rw [hch]; exact hc
    sz := by
      unfold threadL
      split
      · exact Nat.le_of_ble_eq_true rfl
      · split
        · exact Nat.le_of_ble_eq_true rfl
        · split <;> exact Nat.le_of_ble_eq_true rfl
    dp := by
      unfold threadL
      split
      · exact Nat.le_of_ble_eq_true rfl
      · split
        · exact Nat.le_of_ble_eq_true rfl
        · split <;> exact Nat.le_of_ble_eq_true rfl
    lp := (smLP_iff _).2 ⟨by omega, by omega, by rw [hty, Ty.sz_eq]; simp [Ty.z, Ty.kids, Ty.szs], by rw [hty]; exact hzl, fun q hq => by rw [hk q hq]; exact hsl⟩
    cp := by
      unfold threadL
      split
      · rfl
      · split
        · rfl
        · split <;> rfl }
theorem forW_len (l : List Pr) (i : Nat) : (forW l i).length ≤ l.length := forK_len l i l.length
end Tryz
end Go.Proofs

namespace Go.Proofs
open Go Go.Duo
namespace Tryz
attribute [local irreducible] awL awA awT AW
set_option maxRecDepth 100000 in
set_option maxHeartbeats 8000000 in
theorem meet_spec (a b : Pr) (hs : a.chan.length ≤ 2147483647) (st : List O) : Duo.Call Tryz.prog Tryz.gl2 72 [encP a, encP b] st (fun v st' => v = .bool (meetL a b) ∧ st' = st) := by
  refine Duo.Call.clo fun hst => ?_
  refine Duo.Call.body 20 [(0, encP a), (1, encP b)] Tryz.func72 rfl rfl ?_
  repeat' first
    | refine AW.seqK fun K hK => ?_
    | (refine hK _ _ ?_; clear hK K)
    | refine AW.region ?_
    | refine awL_call rfl (by first | exact ent68) (by simp only [go_sem, ↓reduceIte, Nat.reduceEqDiff, Nat.reduceAdd, Nat.reduceLeDiff, Nat.reduceMul, Nat.reduceSub, Nat.reduceLT, cellsP a, cellsP b, dualV_eq]; rfl) (by first | exact rdual_spec a.chan (by omega) _) rfl ?_
    | refine awL_nil ?_
    | (refine awL_gno rfl ?_ rfl ?_; focus (simp only [S0, ↓reduceIte, Nat.reduceEqDiff, Bool.not_true, Bool.not_false]; done))
    | (refine awL_gyes rfl ?_ ?_; focus (simp only [S0, ↓reduceIte, Nat.reduceEqDiff, Bool.not_true, Bool.not_false]; done))
    | refine awL_hole rfl rfl rfl rfl ?_
    | (refine awL_gcase rfl rfl (fun hg => ?_) (fun hg => ?_) <;> (rw [hg]; (try simp only [Int.ofNat_inj, not_true_eq_false, not_false_eq_true, Bool.false_eq_true, Bool.true_eq_false, decide_eq_true_eq, decide_eq_false_iff_not, Bool.not_eq_true, Bool.not_eq_false, Bool.not_eq_true', Bool.not_eq_false', Int.not_lt, Int.not_le, ne_eq, Decidable.not_not, List.length_map, Bool.and_eq_true, Bool.or_eq_true, Bool.and_eq_false_imp, Int.ofNat_lt, Int.ofNat_le] at hg); try (exfalso; omega)))
    | refine awL_S1 rfl rfl (by simp (disch := omega) only [go_sem, ↓reduceIte, Nat.reduceEqDiff, Nat.reduceAdd, Nat.reduceLeDiff, Nat.reduceMul, Nat.reduceSub, Nat.reduceLT, cellsP a, cellsP b, dualV_eq]; rfl) ?_
    | (refine AW.condK _ rfl (fun hb => ?_) (fun hb => ?_) <;> (try simp only [Int.ofNat_inj, not_true_eq_false, not_false_eq_true, Bool.false_eq_true, Bool.true_eq_false, decide_eq_true_eq, decide_eq_false_iff_not, Bool.not_eq_true, Bool.not_eq_false, Bool.not_eq_true', Bool.not_eq_false', Int.not_lt, Int.not_le, ne_eq, Decidable.not_not, List.length_map, Bool.and_eq_true, Bool.or_eq_true, Bool.and_eq_false_imp, Int.ofNat_lt, Int.ofNat_le] at hb) <;> try (exfalso; omega))
    | refine AW.skip ?_
    | refine useK (by assumption) ?_
    | (refine AW.ret ?_; show (_ ∨ _) ∧ _; refine ⟨.inr rfl, ?_⟩; show resP _ _ _ [.tmp 4] _; simp (disch := omega) only [go_sem, ↓reduceIte, Nat.reduceEqDiff, Nat.reduceAdd, Nat.reduceLeDiff, Nat.reduceMul, Nat.reduceSub, Nat.reduceLT, cellsP a, cellsP b, dualV_eq]; refine ⟨_, _, _, Nat.le_refl _, V.le_refl _ _, StLe.refl _, ?_⟩; (try simp (disch := omega) only [go_sem, ↓reduceIte, Nat.reduceEqDiff, Nat.reduceAdd, Nat.reduceLeDiff, Nat.reduceMul, Nat.reduceSub, Nat.reduceLT, cellsP a, cellsP b, dualV_eq, hst.trim, hst.trim_append]))
  all_goals first | (simp_all [meetL_eq]; done) | trace_state
theorem headD_at {l : List Str} (h : 0 < l.length) : l.headD [] = l[0] := by
  cases l with
  | nil => cases h
  | cons a l => rfl
set_option maxRecDepth 100000 in
set_option maxHeartbeats 8000000 in
theorem fit_spec (a b : Pr) (hL : hasL a) (hbl : b.labels.length ≤ 1000000) (st : List O) : Duo.Call Tryz.prog Tryz.gl2 73 [encP a, encP b] st (fun v st' => v = .bool (fitL a b) ∧ st' = st) := by
  refine Duo.Call.clo fun hst => ?_
  have hL2 : a.kind = 4 → 0 < a.labels.length := fun h => List.length_pos_iff.2 (hL h)
  refine Duo.Call.body 32 [(0, encP a), (1, encP b)] Tryz.func73 rfl rfl ?_
  repeat' first
    | refine AW.seqK fun K hK => ?_
    | (refine hK _ _ ?_; clear hK K)
    | refine AW.region ?_
    | refine AW.any (id := 1) mix 24 (by decide +kernel) ?_
    | refine awL_call rfl (by first | exact ent22) (by simp only [go_sem, ↓reduceIte, Nat.reduceEqDiff, Nat.reduceAdd, Nat.reduceLeDiff, Nat.reduceMul, Nat.reduceSub, Nat.reduceLT, cellsP a, cellsP b, List.length_map]; rfl) (by first | exact inW_spec _ _ (by omega) _) rfl ?_
    | refine awA_nil (by simp only [applyUps, List.nil_append, List.cons_append, S0, S2]; rfl) ?_
    | refine awL_nil ?_
    | (refine awL_gno rfl ?_ rfl ?_; focus (simp only [S0, ↓reduceIte, Nat.reduceEqDiff, Bool.not_true, Bool.not_false]; done))
    | (refine awL_gyes rfl ?_ ?_; focus (simp only [S0, ↓reduceIte, Nat.reduceEqDiff, Bool.not_true, Bool.not_false]; done))
    | refine awL_hole rfl rfl rfl rfl ?_
    | (refine awL_gcase rfl rfl (fun hg => ?_) (fun hg => ?_) <;> (rw [hg]; (try simp only [Int.ofNat_inj, not_true_eq_false, not_false_eq_true, Bool.false_eq_true, Bool.true_eq_false, decide_eq_true_eq, decide_eq_false_iff_not, Bool.not_eq_true, Bool.not_eq_false, Bool.not_eq_true', Bool.not_eq_false', Int.not_lt, Int.not_le, ne_eq, Decidable.not_not, List.length_map, Bool.and_eq_true, Bool.or_eq_true, Bool.and_eq_false_imp, Int.ofNat_lt, Int.ofNat_le] at hg); try (exfalso; omega)))
    | refine awL_S1 rfl rfl (by simp (disch := omega) only [go_sem, ↓reduceIte, Nat.reduceEqDiff, Nat.reduceAdd, Nat.reduceLeDiff, Nat.reduceMul, Nat.reduceSub, Nat.reduceLT, cellsP a, cellsP b, List.length_map]; rfl) ?_
    | refine awA_call rfl (by first | exact ent22) (by simp only [go_sem, ↓reduceIte, Nat.reduceEqDiff, Nat.reduceAdd, Nat.reduceLeDiff, Nat.reduceMul, Nat.reduceSub, Nat.reduceLT, cellsP a, cellsP b, List.length_map]; rfl) (by first | exact inW_spec _ _ (by omega) _) rfl ?_
    | (refine awA_gno rfl ?_ rfl ?_; focus (simp only [S0, ↓reduceIte, Nat.reduceEqDiff, Bool.not_true, Bool.not_false]; done))
    | (refine awA_gyes rfl ?_ ?_; focus (simp only [S0, ↓reduceIte, Nat.reduceEqDiff, Bool.not_true, Bool.not_false]; done))
    | refine awA_hole rfl rfl rfl rfl ?_
    | (refine awA_gcase rfl rfl (fun hg => ?_) (fun hg => ?_) <;> (rw [hg]; (try simp only [Int.ofNat_inj, not_true_eq_false, not_false_eq_true, Bool.false_eq_true, Bool.true_eq_false, decide_eq_true_eq, decide_eq_false_iff_not, Bool.not_eq_true, Bool.not_eq_false, Bool.not_eq_true', Bool.not_eq_false', Int.not_lt, Int.not_le, ne_eq, Decidable.not_not, List.length_map, Bool.and_eq_true, Bool.or_eq_true, Bool.and_eq_false_imp, Int.ofNat_lt, Int.ofNat_le] at hg); try (exfalso; omega)))
    | refine awA_S1 rfl rfl (by simp (disch := omega) only [go_sem, ↓reduceIte, Nat.reduceEqDiff, Nat.reduceAdd, Nat.reduceLeDiff, Nat.reduceMul, Nat.reduceSub, Nat.reduceLT, cellsP a, cellsP b, List.length_map]; rfl) ?_
    | (refine AW.condK _ rfl (fun hb => ?_) (fun hb => ?_) <;> (try simp only [Int.ofNat_inj, not_true_eq_false, not_false_eq_true, Bool.false_eq_true, Bool.true_eq_false, decide_eq_true_eq, decide_eq_false_iff_not, Bool.not_eq_true, Bool.not_eq_false, Bool.not_eq_true', Bool.not_eq_false', Int.not_lt, Int.not_le, ne_eq, Decidable.not_not, List.length_map, Bool.and_eq_true, Bool.or_eq_true, Bool.and_eq_false_imp, Int.ofNat_lt, Int.ofNat_le] at hb) <;> try (exfalso; omega))
    | refine AW.skip ?_
    | refine useK (by assumption) ?_
    | (refine AW.ret ?_; show (_ ∨ _) ∧ _; refine ⟨.inr rfl, ?_⟩; show resP _ _ _ [.tmp 4] _; simp (disch := omega) only [go_sem, ↓reduceIte, Nat.reduceEqDiff, Nat.reduceAdd, Nat.reduceLeDiff, Nat.reduceMul, Nat.reduceSub, Nat.reduceLT, cellsP a, cellsP b, List.length_map]; refine ⟨_, _, _, Nat.le_refl _, V.le_refl _ _, StLe.refl _, ?_⟩; (try simp (disch := omega) only [go_sem, ↓reduceIte, Nat.reduceEqDiff, Nat.reduceAdd, Nat.reduceLeDiff, Nat.reduceMul, Nat.reduceSub, Nat.reduceLT, cellsP a, cellsP b, List.length_map, hst.trim, hst.trim_append]))
  all_goals first | (simp_all [fitL]; done) | (unfold fitL; rw [headD_at (hL2 (by assumption))]; clear hL; simp_all; done) | trace_state
set_option maxRecDepth 100000 in
set_option maxHeartbeats 8000000 in
theorem rlist_spec (l : List Pr) (hn : l.length ≤ 1000000) (hL : ∀ x ∈ l, hasL x) (hC : ∀ x ∈ l, x.chan.length ≤ 2147483647) (hB : ∀ x ∈ l, x.labels.length ≤ 1000000) (st : List O) : Duo.Call Tryz.prog Tryz.gl2 39 [.sl (l.map encP) none] st (fun v st' => v = .sl ((listL l).map encR) none ∧ st' = st) := by
  refine Duo.Call.clo fun hst => ?_
  refine Duo.Call.body 65 [(0, .sl (l.map encP) none)] Tryz.func39 rfl rfl ?_
  repeat' first
    | refine AW.seqK fun K hK => ?_
    | (refine hK _ _ ?_; clear hK K)
    | refine AW.region ?_
    | refine AW.any (id := 8) mix 23 (by decide +kernel) ?_
    | refine awL_call rfl (by first | exact ent72 | exact ent73 | exact ent74) (by simp only [go_sem, ↓reduceIte, Nat.reduceEqDiff, Nat.reduceAdd, Nat.reduceLeDiff, Nat.reduceMul, Nat.reduceSub, Nat.reduceLT, List.length_map, encR_cells, epV_eq]; rfl) (by first | exact meet_spec _ _ (hC _ (List.getElem_mem _)) _ | exact fit_spec _ _ (hL _ (List.getElem_mem _)) (hB _ (List.getElem_mem _)) _ | exact rendpoint_spec _ (Nat.le_trans (hC _ (List.getElem_mem _)) (by decide)) _) rfl ?_
    | refine awA_nil (by simp only [applyUps, List.nil_append, List.cons_append, S0, S2]; rfl) ?_
    | refine awL_nil ?_
    | (refine awL_gno rfl ?_ rfl ?_; focus (simp only [S0, ↓reduceIte, Nat.reduceEqDiff, Bool.not_true, Bool.not_false]; done))
    | (refine awL_gyes rfl ?_ ?_; focus (simp only [S0, ↓reduceIte, Nat.reduceEqDiff, Bool.not_true, Bool.not_false]; done))
    | refine awL_hole rfl rfl rfl rfl ?_
    | (refine awL_gcase rfl rfl (fun hg => ?_) (fun hg => ?_) <;> (rw [hg]; (try simp only [Int.ofNat_inj, not_true_eq_false, not_false_eq_true, Bool.false_eq_true, Bool.true_eq_false, decide_eq_true_eq, decide_eq_false_iff_not, Bool.not_eq_true, Bool.not_eq_false, Bool.not_eq_true', Bool.not_eq_false', Int.not_lt, Int.not_le, ne_eq, Decidable.not_not, List.length_map, Bool.and_eq_true, Bool.or_eq_true, Bool.and_eq_false_imp, Int.ofNat_lt, Int.ofNat_le] at hg); try (exfalso; omega)))
    | refine awL_S1 rfl rfl (by simp (disch := omega) only [go_sem, ↓reduceIte, Nat.reduceEqDiff, Nat.reduceAdd, Nat.reduceLeDiff, Nat.reduceMul, Nat.reduceSub, Nat.reduceLT, List.length_map, encR_cells, epV_eq]; rfl) ?_
    | refine awA_call rfl (by first | exact ent72 | exact ent73 | exact ent74) (by simp only [go_sem, ↓reduceIte, Nat.reduceEqDiff, Nat.reduceAdd, Nat.reduceLeDiff, Nat.reduceMul, Nat.reduceSub, Nat.reduceLT, List.length_map, encR_cells, epV_eq]; rfl) (by first | exact meet_spec _ _ (hC _ (List.getElem_mem _)) _ | exact fit_spec _ _ (hL _ (List.getElem_mem _)) (hB _ (List.getElem_mem _)) _ | exact rendpoint_spec _ (Nat.le_trans (hC _ (List.getElem_mem _)) (by decide)) _) rfl ?_
    | (refine awA_gno rfl ?_ rfl ?_; focus (simp only [S0, ↓reduceIte, Nat.reduceEqDiff, Bool.not_true, Bool.not_false]; done))
    | (refine awA_gyes rfl ?_ ?_; focus (simp only [S0, ↓reduceIte, Nat.reduceEqDiff, Bool.not_true, Bool.not_false]; done))
    | refine awA_hole rfl rfl rfl rfl ?_
    | (refine awA_gcase rfl rfl (fun hg => ?_) (fun hg => ?_) <;> (rw [hg]; (try simp only [Int.ofNat_inj, not_true_eq_false, not_false_eq_true, Bool.false_eq_true, Bool.true_eq_false, decide_eq_true_eq, decide_eq_false_iff_not, Bool.not_eq_true, Bool.not_eq_false, Bool.not_eq_true', Bool.not_eq_false', Int.not_lt, Int.not_le, ne_eq, Decidable.not_not, List.length_map, Bool.and_eq_true, Bool.or_eq_true, Bool.and_eq_false_imp, Int.ofNat_lt, Int.ofNat_le] at hg); try (exfalso; omega)))
    | refine awA_S1 rfl rfl (by simp (disch := omega) only [go_sem, ↓reduceIte, Nat.reduceEqDiff, Nat.reduceAdd, Nat.reduceLeDiff, Nat.reduceMul, Nat.reduceSub, Nat.reduceLT, List.length_map, encR_cells, epV_eq]; rfl) ?_
    | (refine AW.condK _ rfl (fun hb => ?_) (fun hb => ?_) <;> (try simp only [Int.ofNat_inj, not_true_eq_false, not_false_eq_true, Bool.false_eq_true, Bool.true_eq_false, decide_eq_true_eq, decide_eq_false_iff_not, Bool.not_eq_true, Bool.not_eq_false, Bool.not_eq_true', Bool.not_eq_false', Int.not_lt, Int.not_le, ne_eq, Decidable.not_not, List.length_map, Bool.and_eq_true, Bool.or_eq_true, Bool.and_eq_false_imp, Int.ofNat_lt, Int.ofNat_le] at hb) <;> try (exfalso; omega))
    | refine AW.block ?_
    | refine bq_s ?_
    | refine bq_o rfl ?_
    | refine tq_e ?_
    | refine AW.exit ?_
    | refine AW.skip ?_
    | refine useK (by assumption) ?_
    | (refine AW.tok 77 4 ?_; refine AW.loopS (α := { i : Nat // i ≤ l.length }) 65 (fun i => [(0, .sl (l.map encP) none), (3, .sl ((partL l.length (rxAt l) i.1 0).map encR) (some st.length)), (4, .int .i64 (i.1 : Nat))]) (fun i => st ++ [.tok 77 4 (partL l.length (rxAt l) i.1 0).length]) (fun i => l.length - i.1) ⟨0, Nat.zero_le _⟩ rfl ?_ ?_ ?_; (focus (simp (disch := omega) only [go_sem, ↓reduceIte, Nat.reduceEqDiff, Nat.reduceAdd, Nat.reduceLeDiff, Nat.reduceMul, Nat.reduceSub, Nat.reduceLT, partL_zero, List.map_nil, List.length_nil]; done)); (focus (simp (disch := omega) only [go_sem, ↓reduceIte, Nat.reduceEqDiff, Nat.reduceAdd, Nat.reduceLeDiff, Nat.reduceMul, Nat.reduceSub, Nat.reduceLT, partL_zero, List.map_nil, List.length_nil]; done)); rintro ⟨i, hi⟩ hlc; dsimp only)
    | (have hkn : k = l.length := (by omega); subst hkn; refine ⟨⟨i + 1, by omega⟩, by simp only []; omega, _, Nat.le_refl _, Nat.le_of_ble_eq_true rfl, ?_, ?_⟩ <;> (simp (disch := omega) only [go_sem, ↓reduceIte, Nat.reduceEqDiff, Nat.reduceAdd, Nat.reduceLeDiff, Nat.reduceMul, Nat.reduceSub, Nat.reduceLT, partL_turn, List.map_append, List.map_cons, List.map_nil, List.length_append, List.length_cons, List.length_nil, List.length_map, List.length_append, hlc.trim, hlc.trim_append, trimS_app hst]))
    | (refine AW.loopS (α := { k : Nat // k ≤ l.length }) 65 (fun k => [(0, .sl (l.map encP) none), (3, .sl ((partL l.length (rxAt l) i k.1).map encR) (some st.length)), (4, .int .i64 (i : Nat)), (5, .int .i64 (k.1 : Nat))]) (fun k => st ++ [.tok 77 4 (partL l.length (rxAt l) i k.1).length]) (fun k => l.length - k.1) ⟨0, Nat.zero_le _⟩ rfl ?_ ?_ ?_; (focus (simp (disch := omega) only [go_sem, ↓reduceIte, Nat.reduceEqDiff, Nat.reduceAdd, Nat.reduceLeDiff, Nat.reduceMul, Nat.reduceSub, Nat.reduceLT]; done)); (focus (simp (disch := omega) only [go_sem, ↓reduceIte, Nat.reduceEqDiff, Nat.reduceAdd, Nat.reduceLeDiff, Nat.reduceMul, Nat.reduceSub, Nat.reduceLT]; done)); rintro ⟨k, hk⟩ hlc; dsimp only; have hb2 := partL_len (n := l.length) (f := rxAt l) (i := i) (k := k) (by omega) hi hk)
    | (have hp := partL_some (n := l.length) (rxAt_some (i := i) (k := k) (by omega) (by omega) (by omega) (by assumption) (by assumption)); have he9 : encR ⟨(i : Int), (k : Int), epK l[i].chan, epP l[i].chan⟩ = .agg [.int .i64 i, .int .i64 k, .int .i64 (epK l[i].chan), .bool (epP l[i].chan)] := rfl; refine ⟨⟨k + 1, by omega⟩, by simp only []; omega, _, Nat.le_refl _, Nat.le_of_ble_eq_true rfl, ?_, ?_⟩ <;> (simp (disch := omega) only [go_sem, ↓reduceIte, Nat.reduceEqDiff, Nat.reduceAdd, Nat.reduceLeDiff, Nat.reduceMul, Nat.reduceSub, Nat.reduceLT, List.map_append, List.map_cons, List.map_nil, List.length_append, List.length_cons, List.length_nil, List.length_map, hp, he9, List.length_append, hlc.trim, hlc.trim_append, trimS_app hst]; done))
    | (have hp := partL_none (n := l.length) (rxAt_none (i := i) (k := k) (by omega) (by omega) (.inr (.inr (by assumption)))); refine ⟨⟨k + 1, by omega⟩, by simp only []; omega, _, Nat.le_refl _, Nat.le_of_ble_eq_true rfl, ?_, ?_⟩ <;> (simp (disch := omega) only [go_sem, ↓reduceIte, Nat.reduceEqDiff, Nat.reduceAdd, Nat.reduceLeDiff, Nat.reduceMul, Nat.reduceSub, Nat.reduceLT, List.map_append, List.map_cons, List.map_nil, List.length_append, List.length_cons, List.length_nil, List.length_map, hp, List.length_append, hlc.trim, hlc.trim_append, trimS_app hst]; done))
    | (have hp := partL_none (n := l.length) (rxAt_none (i := i) (k := k) (by omega) (by omega) (.inr (.inl (by assumption)))); refine ⟨⟨k + 1, by omega⟩, by simp only []; omega, _, Nat.le_refl _, Nat.le_of_ble_eq_true rfl, ?_, ?_⟩ <;> (simp (disch := omega) only [go_sem, ↓reduceIte, Nat.reduceEqDiff, Nat.reduceAdd, Nat.reduceLeDiff, Nat.reduceMul, Nat.reduceSub, Nat.reduceLT, List.map_append, List.map_cons, List.map_nil, List.length_append, List.length_cons, List.length_nil, List.length_map, hp, List.length_append, hlc.trim, hlc.trim_append, trimS_app hst]; done))
    | (have hp := partL_none (n := l.length) (rxAt_none (i := i) (k := k) (by omega) (by omega) (.inl (by omega))); refine ⟨⟨k + 1, by omega⟩, by simp only []; omega, _, Nat.le_refl _, Nat.le_of_ble_eq_true rfl, ?_, ?_⟩ <;> (simp (disch := omega) only [go_sem, ↓reduceIte, Nat.reduceEqDiff, Nat.reduceAdd, Nat.reduceLeDiff, Nat.reduceMul, Nat.reduceSub, Nat.reduceLT, List.map_append, List.map_cons, List.map_nil, List.length_append, List.length_cons, List.length_nil, List.length_map, hp, List.length_append, hlc.trim, hlc.trim_append, trimS_app hst]))
    | (refine AW.ret ?_; show (_ ∨ _) ∧ _; refine ⟨.inr rfl, ?_⟩; show resP _ _ _ [.tmp 2] _; simp (disch := omega) only [go_sem, ↓reduceIte, Nat.reduceEqDiff, Nat.reduceAdd, Nat.reduceLeDiff, Nat.reduceMul, Nat.reduceSub, Nat.reduceLT, List.length_map, encR_cells, epV_eq]; refine ⟨_, _, _, Nat.le_refl _, V.le_refl _ _, StLe.refl _, ?_⟩; (try simp (disch := omega) only [go_sem, ↓reduceIte, Nat.reduceEqDiff, Nat.reduceAdd, Nat.reduceLeDiff, Nat.reduceMul, Nat.reduceSub, Nat.reduceLT, List.length_map, encR_cells, epV_eq, hst.trim, hst.trim_append]))
  all_goals (have hin : i = l.length := (by omega); subst hin; rw [partL_end]; try rfl)
set_option maxRecDepth 100000 in
set_option maxHeartbeats 8000000 in
theorem rclash_spec (l : List Pr) (hn : l.length ≤ 1000000) (hL : ∀ x ∈ l, hasL x) (hC : ∀ x ∈ l, x.chan.length ≤ 2147483647) (hB : ∀ x ∈ l, x.labels.length ≤ 1000000) (st : List O) : Duo.Call Tryz.prog Tryz.gl2 40 [.sl (l.map encP) none] st (fun v st' => v = .sl ((clashL l).map encD) (some st.length) ∧ st' = st ++ [.tok 78 2 (clashL l).length]) := by
  refine Duo.Call.clo fun hst => ?_
  refine Duo.Call.body 60 [(0, .sl (l.map encP) none)] Tryz.func40 rfl rfl ?_
  repeat' first
    | refine AW.seqK fun K hK => ?_
    | (refine hK _ _ ?_; clear hK K)
    | refine AW.region ?_
    | refine AW.any (id := 8) mix 30 (by decide +kernel) ?_
    | refine awL_call rfl (by first | exact ent72 | exact ent73) (by simp only [go_sem, ↓reduceIte, Nat.reduceEqDiff, Nat.reduceAdd, Nat.reduceLeDiff, Nat.reduceMul, Nat.reduceSub, Nat.reduceLT, List.length_map, encD_cells]; rfl) (by first | exact meet_spec _ _ (hC _ (List.getElem_mem _)) _ | exact fit_spec _ _ (hL _ (List.getElem_mem _)) (hB _ (List.getElem_mem _)) _) rfl ?_
    | refine awA_nil (by simp only [applyUps, List.nil_append, List.cons_append, S0, S2]; rfl) ?_
    | refine awL_nil ?_
    | (refine awL_gno rfl ?_ rfl ?_; focus (simp only [S0, ↓reduceIte, Nat.reduceEqDiff, Bool.not_true, Bool.not_false]; done))
    | (refine awL_gyes rfl ?_ ?_; focus (simp only [S0, ↓reduceIte, Nat.reduceEqDiff, Bool.not_true, Bool.not_false]; done))
    | refine awL_hole rfl rfl rfl rfl ?_
    | (refine awL_gcase rfl rfl (fun hg => ?_) (fun hg => ?_) <;> (rw [hg]; (try simp only [Int.ofNat_inj, not_true_eq_false, not_false_eq_true, Bool.false_eq_true, Bool.true_eq_false, decide_eq_true_eq, decide_eq_false_iff_not, Bool.not_eq_true, Bool.not_eq_false, Bool.not_eq_true', Bool.not_eq_false', Int.not_lt, Int.not_le, ne_eq, Decidable.not_not, List.length_map, Bool.and_eq_true, Bool.or_eq_true, Bool.and_eq_false_imp, Int.ofNat_lt, Int.ofNat_le] at hg); try (exfalso; omega)))
    | refine awL_S1 rfl rfl (by simp (disch := omega) only [go_sem, ↓reduceIte, Nat.reduceEqDiff, Nat.reduceAdd, Nat.reduceLeDiff, Nat.reduceMul, Nat.reduceSub, Nat.reduceLT, List.length_map, encD_cells]; rfl) ?_
    | refine awA_call rfl (by first | exact ent72 | exact ent73) (by simp only [go_sem, ↓reduceIte, Nat.reduceEqDiff, Nat.reduceAdd, Nat.reduceLeDiff, Nat.reduceMul, Nat.reduceSub, Nat.reduceLT, List.length_map, encD_cells]; rfl) (by first | exact meet_spec _ _ (hC _ (List.getElem_mem _)) _ | exact fit_spec _ _ (hL _ (List.getElem_mem _)) (hB _ (List.getElem_mem _)) _) rfl ?_
    | (refine awA_gno rfl ?_ rfl ?_; focus (simp only [S0, ↓reduceIte, Nat.reduceEqDiff, Bool.not_true, Bool.not_false]; done))
    | (refine awA_gyes rfl ?_ ?_; focus (simp only [S0, ↓reduceIte, Nat.reduceEqDiff, Bool.not_true, Bool.not_false]; done))
    | refine awA_hole rfl rfl rfl rfl ?_
    | (refine awA_gcase rfl rfl (fun hg => ?_) (fun hg => ?_) <;> (rw [hg]; (try simp only [Int.ofNat_inj, not_true_eq_false, not_false_eq_true, Bool.false_eq_true, Bool.true_eq_false, decide_eq_true_eq, decide_eq_false_iff_not, Bool.not_eq_true, Bool.not_eq_false, Bool.not_eq_true', Bool.not_eq_false', Int.not_lt, Int.not_le, ne_eq, Decidable.not_not, List.length_map, Bool.and_eq_true, Bool.or_eq_true, Bool.and_eq_false_imp, Int.ofNat_lt, Int.ofNat_le] at hg); try (exfalso; omega)))
    | refine awA_S1 rfl rfl (by simp (disch := omega) only [go_sem, ↓reduceIte, Nat.reduceEqDiff, Nat.reduceAdd, Nat.reduceLeDiff, Nat.reduceMul, Nat.reduceSub, Nat.reduceLT, List.length_map, encD_cells]; rfl) ?_
    | (refine AW.condK _ rfl (fun hb => ?_) (fun hb => ?_) <;> (try simp only [Int.ofNat_inj, not_true_eq_false, not_false_eq_true, Bool.false_eq_true, Bool.true_eq_false, decide_eq_true_eq, decide_eq_false_iff_not, Bool.not_eq_true, Bool.not_eq_false, Bool.not_eq_true', Bool.not_eq_false', Int.not_lt, Int.not_le, ne_eq, Decidable.not_not, List.length_map, Bool.and_eq_true, Bool.or_eq_true, Bool.and_eq_false_imp, Int.ofNat_lt, Int.ofNat_le] at hb) <;> try (exfalso; omega))
    | refine AW.block ?_
    | refine bq_s ?_
    | refine bq_o rfl ?_
    | refine tq_e ?_
    | refine AW.exit ?_
    | refine AW.skip ?_
    | refine useK (by assumption) ?_
    | (refine AW.tok 78 2 ?_; refine AW.loopS (α := { i : Nat // i ≤ l.length }) 60 (fun i => [(0, .sl (l.map encP) none), (3, .sl ((partL l.length (clAt l) i.1 0).map encD) (some st.length)), (4, .int .i64 (i.1 : Nat))]) (fun i => st ++ [.tok 78 2 (partL l.length (clAt l) i.1 0).length]) (fun i => l.length - i.1) ⟨0, Nat.zero_le _⟩ rfl ?_ ?_ ?_; (focus (simp (disch := omega) only [go_sem, ↓reduceIte, Nat.reduceEqDiff, Nat.reduceAdd, Nat.reduceLeDiff, Nat.reduceMul, Nat.reduceSub, Nat.reduceLT, partL_zero, List.map_nil, List.length_nil]; done)); (focus (simp (disch := omega) only [go_sem, ↓reduceIte, Nat.reduceEqDiff, Nat.reduceAdd, Nat.reduceLeDiff, Nat.reduceMul, Nat.reduceSub, Nat.reduceLT, partL_zero, List.map_nil, List.length_nil]; done)); rintro ⟨i, hi⟩ hlc; dsimp only)
    | (have hkn : k = l.length := (by omega); subst hkn; refine ⟨⟨i + 1, by omega⟩, by simp only []; omega, _, Nat.le_refl _, Nat.le_of_ble_eq_true rfl, ?_, ?_⟩ <;> (simp (disch := omega) only [go_sem, ↓reduceIte, Nat.reduceEqDiff, Nat.reduceAdd, Nat.reduceLeDiff, Nat.reduceMul, Nat.reduceSub, Nat.reduceLT, partL_turn, List.map_append, List.map_cons, List.map_nil, List.length_append, List.length_cons, List.length_nil, List.length_map, List.length_append, hlc.trim, hlc.trim_append, trimS_app hst]))
    | (have hsk := partL_skip (n := l.length) (f := clAt l) (i := i) (i + 1) (fun j hj => clAt_none (by omega) (by omega) (.inl (by omega))); refine AW.loopS (α := { k : Nat // i < k ∧ k ≤ l.length }) 60 (fun k => [(0, .sl (l.map encP) none), (3, .sl ((partL l.length (clAt l) i k.1).map encD) (some st.length)), (4, .int .i64 (i : Nat)), (5, .int .i64 (k.1 : Nat))]) (fun k => st ++ [.tok 78 2 (partL l.length (clAt l) i k.1).length]) (fun k => l.length - k.1) ⟨i + 1, by omega, by omega⟩ rfl ?_ ?_ ?_; (focus (simp (disch := omega) only [go_sem, ↓reduceIte, Nat.reduceEqDiff, Nat.reduceAdd, Nat.reduceLeDiff, Nat.reduceMul, Nat.reduceSub, Nat.reduceLT, hsk]; done)); (focus (simp (disch := omega) only [go_sem, ↓reduceIte, Nat.reduceEqDiff, Nat.reduceAdd, Nat.reduceLeDiff, Nat.reduceMul, Nat.reduceSub, Nat.reduceLT, hsk]; done)); rintro ⟨k, hik, hk⟩ hlc; dsimp only; have hb2 := partL_len (n := l.length) (f := clAt l) (i := i) (k := k) (by omega) hi hk)
    | (have hp := partL_some (n := l.length) (clAt_some (i := i) (k := k) (by omega) (by omega) (by omega) (by assumption) (by assumption) (by assumption)); have he9 : encD ((i : Int), (k : Int)) = .agg [.int .i64 i, .int .i64 k] := rfl; refine ⟨⟨k + 1, by omega, by omega⟩, by simp only []; omega, _, Nat.le_refl _, Nat.le_of_ble_eq_true rfl, ?_, ?_⟩ <;> (simp (disch := omega) only [go_sem, ↓reduceIte, Nat.reduceEqDiff, Nat.reduceAdd, Nat.reduceLeDiff, Nat.reduceMul, Nat.reduceSub, Nat.reduceLT, List.map_append, List.map_cons, List.map_nil, List.length_append, List.length_cons, List.length_nil, List.length_map, hp, he9, List.length_append, hlc.trim, hlc.trim_append, trimS_app hst]; done))
    | (have hp := partL_none (n := l.length) (clAt_none (i := i) (k := k) (by omega) (by omega) (.inr (.inr (.inr (by assumption))))); refine ⟨⟨k + 1, by omega, by omega⟩, by simp only []; omega, _, Nat.le_refl _, Nat.le_of_ble_eq_true rfl, ?_, ?_⟩ <;> (simp (disch := omega) only [go_sem, ↓reduceIte, Nat.reduceEqDiff, Nat.reduceAdd, Nat.reduceLeDiff, Nat.reduceMul, Nat.reduceSub, Nat.reduceLT, List.map_append, List.map_cons, List.map_nil, List.length_append, List.length_cons, List.length_nil, List.length_map, hp, List.length_append, hlc.trim, hlc.trim_append, trimS_app hst]; done))
    | (have hp := partL_none (n := l.length) (clAt_none (i := i) (k := k) (by omega) (by omega) (.inr (.inr (.inl (by assumption))))); refine ⟨⟨k + 1, by omega, by omega⟩, by simp only []; omega, _, Nat.le_refl _, Nat.le_of_ble_eq_true rfl, ?_, ?_⟩ <;> (simp (disch := omega) only [go_sem, ↓reduceIte, Nat.reduceEqDiff, Nat.reduceAdd, Nat.reduceLeDiff, Nat.reduceMul, Nat.reduceSub, Nat.reduceLT, List.map_append, List.map_cons, List.map_nil, List.length_append, List.length_cons, List.length_nil, List.length_map, hp, List.length_append, hlc.trim, hlc.trim_append, trimS_app hst]; done))
    | (have hp := partL_none (n := l.length) (clAt_none (i := i) (k := k) (by omega) (by omega) (.inr (.inl (by assumption)))); refine ⟨⟨k + 1, by omega, by omega⟩, by simp only []; omega, _, Nat.le_refl _, Nat.le_of_ble_eq_true rfl, ?_, ?_⟩ <;> (simp (disch := omega) only [go_sem, ↓reduceIte, Nat.reduceEqDiff, Nat.reduceAdd, Nat.reduceLeDiff, Nat.reduceMul, Nat.reduceSub, Nat.reduceLT, List.map_append, List.map_cons, List.map_nil, List.length_append, List.length_cons, List.length_nil, List.length_map, hp, List.length_append, hlc.trim, hlc.trim_append, trimS_app hst]))
    | (refine AW.ret ?_; show (_ ∨ _) ∧ _; refine ⟨.inr rfl, ?_⟩; show resP _ _ _ [.tmp 2] _; simp (disch := omega) only [go_sem, ↓reduceIte, Nat.reduceEqDiff, Nat.reduceAdd, Nat.reduceLeDiff, Nat.reduceMul, Nat.reduceSub, Nat.reduceLT, List.length_map, encD_cells]; refine ⟨st.length + 1, _, _, Nat.le_add_right _ _, V.le_refl _ _, StLe.refl _, ?_⟩; (try simp (disch := omega) only [go_sem, ↓reduceIte, Nat.reduceEqDiff, Nat.reduceAdd, Nat.reduceLeDiff, Nat.reduceMul, Nat.reduceSub, Nat.reduceLT, List.length_map, encD_cells, hst.trim, hst.trim_append]))
  all_goals (have hin : i = l.length := (by omega); subst hin; rw [partL_end, trimS_app hst (by omega), show st.length + 1 - st.length = 1 from by omega]; exact ⟨rfl, rfl⟩)
theorem wforI_spec (l : List Pr) (hl : l.length ≤ 1000000) (h : ∀ p ∈ l, thrP p) (x : Int) (h0 : 0 ≤ x) (hx : x.toNat < l.length) (st : List O) : Duo.Call Tryz.prog Tryz.gl2 28 [.agg [.sl (l.map encP) none, .nil], .int .i64 x] st (fun v st' => v = .sl ((forW l x.toNat).map encN) none ∧ st' = st) := by
  have h1 := wfor_spec l hl h x.toNat hx st
  rwa [Int.toNat_of_nonneg h0] at h1
theorem rindexI_spec (l : List Nat) (c : Int) (h0 : 0 ≤ c) (hl : l.length ≤ 9223372036854775807) (st : List O) : Duo.Call Tryz.prog Tryz.gl2 36 [.sl (l.map encN) none, .int .i64 c] st (fun v st' => v = .int .i64 (idxN l c.toNat) ∧ st' = st) := by
  have h1 := rindex_spec l c.toNat hl st
  rwa [Int.toNat_of_nonneg h0] at h1
theorem thr_chan (l : List Th) : ∀ x ∈ l.map threadL, x.chan.length ≤ 2147483647 := fun x hx => (thr_all l x hx).cl
theorem thr_hasL (l : List Th) : ∀ x ∈ l.map threadL, hasL x := fun x hx => by
  obtain ⟨t, _, rfl⟩ := List.mem_map.1 hx; exact threadL_hasL t
theorem thr_pre (l : List Th) : ∀ x ∈ l.map threadL, preK x.kind = true := fun x hx => (thr_all l x hx).fl.1
theorem thr_lab (l : List Th) : ∀ x ∈ l.map threadL, x.labels.length ≤ 1000000 := fun x hx => by
  obtain ⟨t, _, rfl⟩ := List.mem_map.1 hx
  unfold threadL
  split
  · simp [Pr.labels]
  · split
    · simp [Pr.labels]
    · split <;> simp [Pr.labels]
theorem pairs_len (l : List Pr) (h : l.length ≤ 1000000) : (clashL l).length ≤ 1000001000000 ∧ (listL l).length ≤ 1000001000000 := by
  unfold clashL listL
  rw [← partL_end, ← partL_end]
  exact ⟨partL_len h (Nat.le_refl _) (Nat.zero_le _), partL_len h (Nat.le_refl _) (Nat.zero_le _)⟩
theorem me_at {l : List Th} {n j : Nat} (h : j < (meL (l.map threadL) n).length) : okM (l.map threadL) (meL (l.map threadL) n)[j] := meL_ok (thr_pre l) n _ (List.getElem_mem h)
set_option maxRecDepth 100000 in
set_option maxHeartbeats 8000000 in
theorem waitsMeet_spec (l : List Th) (st : List O) : Duo.Call Tryz.prog Tryz.gl2 9 [.sl (l.map encTh) none] st (fun v st' => v = .bool true ∧ st' = st) := by
  refine Duo.Call.clo fun hst => ?_
  refine Duo.Call.real fun hr => ?_
  have hln : l.length ≤ 9223372036854775807 := (hr (.sl (l.map encTh) none) (by simp) (PureV.sl _ _)).row
  refine Duo.Call.body 81 [(0, .sl (l.map encTh) none)] Tryz.func9 rfl rfl ?_
  repeat' first
    | refine AW.seqK fun K hK => ?_
    | (refine hK _ _ ?_; clear hK K)
    | refine AW.region ?_
    | refine AW.any (id := 10) mix 13 (by decide +kernel) ?_
    | refine AW.any (id := 14) mix 27 (by decide +kernel) ?_
    | refine awL_call rfl (by first | exact ent23 | exact ent35 | exact ent39 | exact ent40 | exact ent28 | exact ent36) (by simp only [go_sem, ↓reduceIte, Nat.reduceEqDiff, Nat.reduceAdd, Nat.reduceLeDiff, Nat.reduceMul, Nat.reduceSub, Nat.reduceLT, List.length_map, encD_cells, encR_cells]; rfl) (by first | exact awake24_spec _ | exact threads_spec l (by omega) _ | exact rlist_spec (l.map threadL) (by rw [List.length_map]; omega) (thr_hasL l) (thr_chan l) (thr_lab l) _ | exact rclash_spec (l.map threadL) (by rw [List.length_map]; omega) (thr_hasL l) (thr_chan l) (thr_lab l) _ | exact wforI_spec (l.map threadL) (by rw [List.length_map]; omega) (thr_all l) _ (me_at (by assumption)).p1 (me_at (by assumption)).q1 _ | exact wforI_spec (l.map threadL) (by rw [List.length_map]; omega) (thr_all l) _ (me_at (by assumption)).p2 (me_at (by assumption)).q2 _ | exact rindexI_spec _ _ (me_at (by assumption)).p1 (Nat.le_trans (forW_len _ _) (by rw [List.length_map]; omega)) _ | exact rindexI_spec _ _ (me_at (by assumption)).p2 (Nat.le_trans (forW_len _ _) (by rw [List.length_map]; omega)) _) rfl ?_
    | refine awA_nil (by simp only [applyUps, List.nil_append, List.cons_append, S0, S2]; rfl) ?_
    | refine awL_nil ?_
    | (refine awL_gno rfl ?_ rfl ?_; focus (simp only [S0, ↓reduceIte, Nat.reduceEqDiff, Bool.not_true, Bool.not_false]; done))
    | (refine awL_gyes rfl ?_ ?_; focus (simp only [S0, ↓reduceIte, Nat.reduceEqDiff, Bool.not_true, Bool.not_false]; done))
    | refine awL_hole rfl rfl rfl rfl ?_
    | (refine awL_gcase rfl rfl (fun hg => ?_) (fun hg => ?_) <;> (rw [hg]; (try simp only [Int.ofNat_inj, not_true_eq_false, not_false_eq_true, Bool.false_eq_true, Bool.true_eq_false, decide_eq_true_eq, decide_eq_false_iff_not, Bool.not_eq_true, Bool.not_eq_false, Bool.not_eq_true', Bool.not_eq_false', Int.not_lt, Int.not_le, ne_eq, Decidable.not_not, List.length_map, Bool.and_eq_true, Bool.or_eq_true, Bool.and_eq_false_imp, Int.ofNat_lt, Int.ofNat_le] at hg); try (exfalso; omega)))
    | refine awL_S1 rfl rfl (by simp (disch := omega) only [go_sem, ↓reduceIte, Nat.reduceEqDiff, Nat.reduceAdd, Nat.reduceLeDiff, Nat.reduceMul, Nat.reduceSub, Nat.reduceLT, List.length_map, encD_cells, encR_cells]; rfl) ?_
    | refine awA_call rfl (by first | exact ent23 | exact ent35 | exact ent39 | exact ent40 | exact ent28 | exact ent36) (by simp only [go_sem, ↓reduceIte, Nat.reduceEqDiff, Nat.reduceAdd, Nat.reduceLeDiff, Nat.reduceMul, Nat.reduceSub, Nat.reduceLT, List.length_map, encD_cells, encR_cells]; rfl) (by first | exact awake24_spec _ | exact threads_spec l (by omega) _ | exact rlist_spec (l.map threadL) (by rw [List.length_map]; omega) (thr_hasL l) (thr_chan l) (thr_lab l) _ | exact rclash_spec (l.map threadL) (by rw [List.length_map]; omega) (thr_hasL l) (thr_chan l) (thr_lab l) _ | exact wforI_spec (l.map threadL) (by rw [List.length_map]; omega) (thr_all l) _ (me_at (by assumption)).p1 (me_at (by assumption)).q1 _ | exact wforI_spec (l.map threadL) (by rw [List.length_map]; omega) (thr_all l) _ (me_at (by assumption)).p2 (me_at (by assumption)).q2 _ | exact rindexI_spec _ _ (me_at (by assumption)).p1 (Nat.le_trans (forW_len _ _) (by rw [List.length_map]; omega)) _ | exact rindexI_spec _ _ (me_at (by assumption)).p2 (Nat.le_trans (forW_len _ _) (by rw [List.length_map]; omega)) _) rfl ?_
    | (refine awA_gno rfl ?_ rfl ?_; focus (simp only [S0, ↓reduceIte, Nat.reduceEqDiff, Bool.not_true, Bool.not_false]; done))
    | (refine awA_gyes rfl ?_ ?_; focus (simp only [S0, ↓reduceIte, Nat.reduceEqDiff, Bool.not_true, Bool.not_false]; done))
    | refine awA_hole rfl rfl rfl rfl ?_
    | (refine awA_gcase rfl rfl (fun hg => ?_) (fun hg => ?_) <;> (rw [hg]; (try simp only [Int.ofNat_inj, not_true_eq_false, not_false_eq_true, Bool.false_eq_true, Bool.true_eq_false, decide_eq_true_eq, decide_eq_false_iff_not, Bool.not_eq_true, Bool.not_eq_false, Bool.not_eq_true', Bool.not_eq_false', Int.not_lt, Int.not_le, ne_eq, Decidable.not_not, List.length_map, Bool.and_eq_true, Bool.or_eq_true, Bool.and_eq_false_imp, Int.ofNat_lt, Int.ofNat_le] at hg); try (exfalso; omega)))
    | refine awA_S1 rfl rfl (by simp (disch := omega) only [go_sem, ↓reduceIte, Nat.reduceEqDiff, Nat.reduceAdd, Nat.reduceLeDiff, Nat.reduceMul, Nat.reduceSub, Nat.reduceLT, List.length_map, encD_cells, encR_cells]; rfl) ?_
    | (refine AW.condK _ rfl (fun hb => ?_) (fun hb => ?_) <;> (try simp only [Int.ofNat_inj, not_true_eq_false, not_false_eq_true, Bool.false_eq_true, Bool.true_eq_false, decide_eq_true_eq, decide_eq_false_iff_not, Bool.not_eq_true, Bool.not_eq_false, Bool.not_eq_true', Bool.not_eq_false', Int.not_lt, Int.not_le, ne_eq, Decidable.not_not, List.length_map, Bool.and_eq_true, Bool.or_eq_true, Bool.and_eq_false_imp, Int.ofNat_lt, Int.ofNat_le] at hb) <;> try (exfalso; omega))
    | refine AW.block ?_
    | refine bq_s ?_
    | refine bq_o rfl ?_
    | refine tq_e ?_
    | refine AW.exit ?_
    | refine AW.skip ?_
    | refine useK (by assumption) ?_
    | (refine AW.loopS (α := { i : Nat // i ≤ (listL (l.map threadL)).length }) 81 (fun i => [(3, .sl ((l.map threadL).map encP) none), (4, .ptr st.length 0), (5, .sl ((listL (l.map threadL)).map encR) none), (6, .sl ((meL (l.map threadL) i.1).map encD) (some (st.length + 1))), (7, .int .i64 (i.1 : Nat))]) (fun i => st ++ [.box 59 [.sl ((l.map threadL).map encP) none, .nil], .tok 78 2 (meL (l.map threadL) i.1).length]) (fun i => (listL (l.map threadL)).length - i.1) ⟨0, Nat.zero_le _⟩ rfl ?_ ?_ ?_; (focus (simp (disch := omega) only [go_sem, ↓reduceIte, Nat.reduceEqDiff, Nat.reduceAdd, Nat.reduceLeDiff, Nat.reduceMul, Nat.reduceSub, Nat.reduceLT, meL_0]; done)); (focus (simp (disch := omega) only [go_sem, ↓reduceIte, Nat.reduceEqDiff, Nat.reduceAdd, Nat.reduceLeDiff, Nat.reduceMul, Nat.reduceSub, Nat.reduceLT, meL_0]; done)); rintro ⟨i, hi⟩ hlc; dsimp only; have hpl := pairs_len (l.map threadL) (by rw [List.length_map]; omega); have hml := meL_len (l.map threadL) i)
    | (have hp := meL_step (l := (l.map threadL)) (n := i) (by assumption); have he9 : encD ((listL (l.map threadL))[i].o, (listL (l.map threadL))[i].i) = .agg [.int .i64 (listL (l.map threadL))[i].o, .int .i64 (listL (l.map threadL))[i].i] := rfl; refine ⟨⟨i + 1, by omega⟩, by simp only []; omega, _, Nat.le_refl _, Nat.le_of_ble_eq_true rfl, ?_, ?_⟩ <;> (simp (disch := omega) only [go_sem, ↓reduceIte, Nat.reduceEqDiff, Nat.reduceAdd, Nat.reduceLeDiff, Nat.reduceMul, Nat.reduceSub, Nat.reduceLT, List.map_append, List.map_cons, List.map_nil, List.length_append, List.length_cons, List.length_nil, List.length_map, hp, he9, List.length_append, hlc.trim, hlc.trim_append, trimS_app hst]))
    | (refine AW.loopS (α := { j : Nat // j ≤ (meL (l.map threadL) i).length }) 81 (fun j => [(3, .sl ((l.map threadL).map encP) none), (4, .ptr st.length 0), (5, .sl ((listL (l.map threadL)).map encR) none), (6, .sl ((meL (l.map threadL) i).map encD) (some (st.length + 1))), (8, .int .i64 (j.1 : Nat))]) (fun j => st ++ [.box 59 [.sl ((l.map threadL).map encP) none, .nil], .tok 78 2 (meL (l.map threadL) i).length]) (fun j => (meL (l.map threadL) i).length - j.1) ⟨0, Nat.zero_le _⟩ rfl ?_ ?_ ?_; (focus (simp (disch := omega) only [go_sem, ↓reduceIte, Nat.reduceEqDiff, Nat.reduceAdd, Nat.reduceLeDiff, Nat.reduceMul, Nat.reduceSub, Nat.reduceLT]; done)); (focus (simp (disch := omega) only [go_sem, ↓reduceIte, Nat.reduceEqDiff, Nat.reduceAdd, Nat.reduceLeDiff, Nat.reduceMul, Nat.reduceSub, Nat.reduceLT]; done)); rintro ⟨j, hj⟩ hlc; dsimp only)
    | (refine ⟨⟨j + 1, by omega⟩, by simp only []; omega, _, Nat.le_refl _, Nat.le_of_ble_eq_true rfl, ?_, ?_⟩ <;> (simp (disch := omega) only [go_sem, ↓reduceIte, Nat.reduceEqDiff, Nat.reduceAdd, Nat.reduceLeDiff, Nat.reduceMul, Nat.reduceSub, Nat.reduceLT, List.length_append, hlc.trim, hlc.trim_append, trimS_app hst]))
    | (refine AW.ret ?_; show (_ ∨ _) ∧ _; refine ⟨.inr rfl, ?_⟩; show resP _ _ _ [.tmp 2] _; simp (disch := omega) only [go_sem, ↓reduceIte, Nat.reduceEqDiff, Nat.reduceAdd, Nat.reduceLeDiff, Nat.reduceMul, Nat.reduceSub, Nat.reduceLT, List.length_map, encD_cells, encR_cells]; refine ⟨_, _, _, Nat.le_refl _, V.le_refl _ _, StLe.refl _, ?_⟩; (try simp (disch := omega) only [go_sem, ↓reduceIte, Nat.reduceEqDiff, Nat.reduceAdd, Nat.reduceLeDiff, Nat.reduceMul, Nat.reduceSub, Nat.reduceLT, List.length_map, encD_cells, encR_cells, hst.trim, hst.trim_append]))
  all_goals (exfalso; have hjl : j < (meL (l.map threadL) i).length := (by assumption); have h1 := (idxN_mem (me_at hjl).w1).1; have h2 := (idxN_mem (me_at hjl).w2).1; omega)
end Tryz
end Go.Proofs
