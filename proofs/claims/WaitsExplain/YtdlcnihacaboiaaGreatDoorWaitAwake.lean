/-
  A part of the proof.
-/
import Derived.Test.YtdlcnihacaboiaaGreatDoorWaitA
import Derived.Test.YtdlcnihacaboiaaGreatDoorWaitB
import Derived.Test.YtdlcnihacaboiaaGreatDoorGM
import Derived.Test.YtdlcnihacaboiaaGreatDoorSubAwake
import Derived.Test.YtdlcnihacaboiaaGreatDoorGT
import Derived.Test.YtdlcnihacaboiaaGreatDoorGR
import Derived.Test.YtdlcnihacaboiaaGreatDoorGW
set_option linter.all false
namespace Go.Proofs
open Go Go.Duo
namespace Tryz
noncomputable def kn2:CallE:=fun k args st => match Nat.beq k 125 with
  | true => match args with
    | [.str s] => match Nat.ble s.length 1000 with
      | true => some (encT3 (lexT s),st)
      | false => none
    | _ => none
  | false => match Nat.beq k 107 with
    | true => match args with
      | [.str s,.int .i64 (.ofNat 10),.int .i64 (.ofNat 32)] => match Nat.ble s.length 1000 with
        | true => some (parV s,st)
        | false => none
      | _ => none
    | false => match Nat.beq k 108 with
    | true => match args with
      | [.int .i64 (.ofNat n)] => match Nat.ble n 1000000 with
        | true => some (.str (Lib.itoa n),st)
        | false => none
      | _ => none
    | false => match Nat.beq k 189 with
    | true => match args with
      | [.int .i64 (.ofNat n),.int .i64 10] => match Nat.ble n 1000000 with
        | true => some (.str (Lib.itoa n),st)
        | false => none
      | _ => none
    | false => match Nat.beq k 185 with
      | true => match args with
        | [.str s] => match Nat.ble s.length 1000 with
          | true => some (.bool (nameB s),st)
          | false => none
        | _ => none
      | false => match Nat.beq k 143 with
        | true => match args with
          | [.pmap ks vs] => some (.map st.length,st ++ [.map ks vs])
          | [.map i] => match st[i]? with
            | some (.map ks vs) => some (.map st.length,st ++ [.map ks vs])
            | _ => none
          | _ => none
        | false => match Nat.beq k 144 with
          | true => match args with
            | [.sl es _] => match strsV es with
              | some l => match Nat.ble l.length 1000 with
                | true => some (.sl (l.map .str) none,st)
                | false => none
              | none => none
            | [.nil] => some (.nil,st)
            | _ => none
          | false => match Nat.beq k 145 with
            | true => match args with
              | [.sl es _] => match valsV es with
                | some l => match Nat.ble l.length 1000 with
                  | true => some (.sl (l.map encV) none,st)
                  | false => none
                | none => none
              | [.nil] => some (.sl [] none,st)
              | _ => none
            | false => none
theorem kn2_ok:CallE.ok Tryz.prog gl2 kn2:=by
  intro k args st v st' h
  unfold kn2 at h
  split at h
  · rename_i hk;obtain rfl:=Nat.eq_of_beq_eq_true hk
    split at h <;> try (cases h;done)
    split at h <;> try (cases h;done)
    rename_i s _ hs
    cases h
    have:=Nat.le_of_ble_eq_true hs
    exact up (rtokens_spec s (by omega) st)
  split at h
  · rename_i hk;obtain rfl:=Nat.eq_of_beq_eq_true hk
    split at h <;> try (cases h;done)
    split at h <;> try (cases h;done)
    rename_i s _ hs
    cases h
    have:=Nat.le_of_ble_eq_true hs
    exact parse_spec s (by omega) st
  split at h
  · rename_i hk;obtain rfl:=Nat.eq_of_beq_eq_true hk
    split at h <;> try (cases h;done)
    split at h <;> try (cases h;done)
    rename_i n _ hn
    cases h
    have:=Nat.le_of_ble_eq_true hn
    exact itoa_spec n (by omega) (by omega) st
  split at h
  · rename_i hk;obtain rfl:=Nat.eq_of_beq_eq_true hk
    split at h <;> try (cases h;done)
    split at h <;> try (cases h;done)
    rename_i n _ hn
    cases h
    have:=Nat.le_of_ble_eq_true hn
    exact up (fmtInt_spec n (by omega) (by omega) st)
  split at h
  · rename_i hk;obtain rfl:=Nat.eq_of_beq_eq_true hk
    split at h <;> try (cases h;done)
    split at h <;> try (cases h;done)
    rename_i s _ hs
    cases h
    have:=Nat.le_of_ble_eq_true hs
    exact up (refname_spec s (by omega) st)
  split at h
  · rename_i hk;obtain rfl:=Nat.eq_of_beq_eq_true hk
    split at h <;> try (cases h;done)
    · cases h;exact up (cloneM_spec _ _ st)
    · split at h <;> try (cases h;done)
      rename_i hst
      cases h;exact up (cloneO_spec _ _ _ st hst)
  split at h
  · rename_i hk;obtain rfl:=Nat.eq_of_beq_eq_true hk
    split at h <;> try (cases h;done)
    · split at h <;> try (cases h;done)
      rename_i hes
      split at h <;> try (cases h;done)
      rename_i hl
      cases h
      have:=Nat.le_of_ble_eq_true hl
      rw [strsV_eq hes]
      exact up (Duo.Call.argle (show CLe _ [_] [_] from ⟨V.le_sl _ _ _,trivial⟩) (cloneS_spec _ (by omega) st))
    · cases h
      exact up (cloneN_spec st)
  split at h
  · rename_i hk;obtain rfl:=Nat.eq_of_beq_eq_true hk
    split at h <;> try (cases h;done)
    · split at h <;> try (cases h;done)
      rename_i hes
      split at h <;> try (cases h;done)
      rename_i hl
      cases h
      have:=Nat.le_of_ble_eq_true hl
      rw [valsV_eq hes]
      exact up (Duo.Call.argle (show CLe _ [_] [_] from ⟨V.le_sl _ _ _,trivial⟩) (cloneV_spec _ (by omega) st))
    · cases h
      exact up (Duo.Call.argle (bs:=[.sl (([]:List Vl).map encV) none]) (show CLe _ [_] [_] from ⟨V.le_nil _,trivial⟩) (cloneV_spec [] (by simp) st))
  · cases h
def decL {α:Type} (f:V → Option α):List V → Option (List α)
  | [] => some []
  | v :: l => match f v with
    | some a => match decL f l with
      | some r => some (a :: r)
      | none => none
    | none => none
def decT:Nat → V → Option Ty
  | 0,_ => none
  | n + 1,v => match v with
    | .agg [.int .i64 k,.int .i64 p,.str s,.int .i64 sh,.sl ls none,.sl ks none] => match strsV ls with
      | some l => match decL (decT n) ks with
        | some kk => some (.mk k p s sh l kk)
        | none => none
      | none => none
    | _ => none
def decP:Nat → V → Option Pr
  | 0,_ => none
  | n + 1,v => match v with
    | .agg [.int .i64 k,.str c,.str w,.sl ls none,.sl ar none,t1,t2,t3,t4,t5,t6,.sl ks none] => match strsV ls with
      | some l => match valsV ar with
        | some a => match decT 20 (.agg [t1,t2,t3,t4,t5,t6]) with
          | some ty => match decL (decP n) ks with
            | some kk => some (.mk k c w l a ty kk)
            | none => none
          | none => none
        | none => none
      | none => none
    | _ => none
def okVB (x:Vl):Bool:=(decide (-9223372036854775808 ≤ x.kind) && decide (x.kind ≤ 9223372036854775807)) && (Nat.ble x.name.length 1000 && (decide (-9223372036854775808 ≤ x.n) && decide (x.n ≤ 9223372036854775807)))
theorem okVB_ok {x:Vl} (h:okVB x = true):okV x:=by
  unfold okVB at h
  simp only [Bool.and_eq_true,decide_eq_true_eq] at h
  have:=Nat.le_of_ble_eq_true h.2.1
  exact ⟨h.1,(show x.name.length ≤ _ by omega),h.2.2⟩
def iB (k:Int):Bool:=decide (-9223372036854775808 ≤ k) && decide (k ≤ 9223372036854775807)
theorem iB_ok {k:Int} (h:iB k = true):inI k:=by
  unfold iB at h
  simp only [Bool.and_eq_true,decide_eq_true_eq] at h
  exact h
def sB (s:Str):Bool:=Nat.ble s.length 1000
theorem sB_ok {s:Str} (h:sB s = true):inS s:=by
  have:=Nat.le_of_ble_eq_true h
  exact (show s.length ≤ _ by omega)
theorem lB_ok {α:Type} {l:List α} (h:Nat.ble l.length 1000 = true):inL l:=by
  have:=Nat.le_of_ble_eq_true h
  exact (show l.length ≤ _ by omega)
mutual
def okTB:Ty → Bool
  | .mk k p n s l ks => iB k && (iB p && (sB n && (iB s && ((Nat.ble l.length 1000 && l.all sB) && (Nat.ble ks.length 1000 && okTBs ks)))))
def okTBs:List Ty → Bool
  | [] => true
  | t :: ts => okTB t && okTBs ts
end
theorem okTBs_eq (l:List Ty):okTBs l = l.all okTB:=by induction l with | nil => rfl | cons t l ih => rw [okTBs,ih];rfl
theorem okTB_ok (t:Ty):okTB t = true → okT t:=by
  induction t using Ty.ind with
  | _ k p n s l ks ih =>
    intro h
    rw [okTB,okTBs_eq] at h
    simp only [Bool.and_eq_true,List.all_eq_true] at h
    obtain ⟨h1,h2,h3,h4,⟨h5,h6⟩,h7,h8⟩:=h
    exact (okT_iff _).2 ⟨iB_ok h1,iB_ok h2,sB_ok h3,iB_ok h4,⟨lB_ok h5,fun x hx => sB_ok (h6 x hx)⟩,lB_ok h7,fun u hu => ih u hu (h8 u hu)⟩
mutual
def okPB:Pr → Bool
  | .mk k c v l a t ks => iB k && (sB c && (sB v && ((Nat.ble l.length 1000 && l.all sB) && ((Nat.ble a.length 1000 && a.all okVB) && (okTB t && (Nat.ble ks.length 1000 && okPBs ks))))))
def okPBs:List Pr → Bool
  | [] => true
  | t :: ts => okPB t && okPBs ts
end
theorem okPBs_eq (l:List Pr):okPBs l = l.all okPB:=by induction l with | nil => rfl | cons t l ih => rw [okPBs,ih];rfl
theorem okPB_ok (p:Pr):okPB p = true → okP p:=by
  induction p using Pr.ind with
  | _ k c v l a t ks ih =>
    intro h
    rw [okPB,okPBs_eq] at h
    simp only [Bool.and_eq_true,List.all_eq_true] at h
    obtain ⟨h1,h2,h3,⟨h4,h5⟩,⟨h6,h7⟩,h8,h9,h10⟩:=h
    exact (okP_iff _).2 ⟨iB_ok h1,sB_ok h2,sB_ok h3,⟨lB_ok h4,fun x hx => sB_ok (h5 x hx)⟩,⟨lB_ok h6,fun x hx => okVB_ok (h7 x hx)⟩,okTB_ok t h8,lB_ok h9,fun u hu => ih u hu (h10 u hu)⟩
noncomputable def staK (args:List V) (st:List O):Option (V × List O):=match args with
  | [v] => match V.norm v with
    | .agg (_ :: cells) => match decP 60 (.agg cells) with
      | some m => match V.eqb (V.norm v) (encPg ⟨[],m⟩) && (okPB m && rightPg ⟨[],m⟩ 100) with
        | true => some (.agg [.sl ((startC ⟨[],m⟩).th.map encP) none,.sl ((startC ⟨[],m⟩).ch.map encT) none],st)
        | false => none
      | none => none
    | _ => none
  | _ => none
theorem staK_ok {args:List V} {st:List O} {v:V} {st':List O} (h:staK args st = some (v,st')):Duo.Call Tryz.prog gl2 44 args st (fun v' st'' => v' = v ∧ st'' = st'):=by
  unfold staK at h
  split at h <;> try (cases h;done)
  split at h <;> try (cases h;done)
  split at h <;> try (cases h;done)
  rename_i m hm
  split at h <;> try (cases h;done)
  rename_i hb
  cases h
  simp only [Bool.and_eq_true] at hb
  obtain ⟨he,b5,b6⟩:=hb
  refine Duo.Call.argle (show CLe _ [_] [_] from ⟨?_,trivial⟩) (up (start_spec ⟨[],m⟩ (by simp) startN (start_all (p:=⟨[],m⟩) ⟨okPB_ok m b5,by simp [inL],fun d hd => by cases hd⟩ b6).2.1 st))
  rw [← V.eqb_eq he]
  exact V.le_norm _ _
noncomputable def kn3:CallE:=fun k args st => match Nat.beq k 44 with
  | true => staK args st
  | false => kn2 k args st
theorem kn3_ok:CallE.ok Tryz.prog gl2 kn3:=by
  intro k args st v st' h
  unfold kn3 at h
  split at h
  · rename_i hk;obtain rfl:=Nat.eq_of_beq_eq_true hk
    exact staK_ok h
  · exact kn2_ok _ _ _ _ _ h
noncomputable def tk3:CallE:=fun k args st => match Nat.beq k 144 with
  | true => match args with
    | [.sl (x :: es) _] => match strsV (x :: es) with
      | some (y :: l) => match Nat.ble (y :: l).length 1000 with
        | true => some (.sl ((y :: l).map .str) (some st.length),st ++ [.tok 9 1 (y :: l).length])
        | false => none
      | _ => none
    | _ => none
  | false => none
theorem tk3_ok:CallE.ok Tryz.prog gl2 tk3:=by
  intro k args st v st' h
  unfold tk3 at h
  split at h <;> try (cases h;done)
  rename_i hk;obtain rfl:=Nat.eq_of_beq_eq_true hk
  split at h <;> try (cases h;done)
  split at h <;> try (cases h;done)
  rename_i hes
  split at h <;> try (cases h;done)
  rename_i hl
  cases h
  have:=Nat.le_of_ble_eq_true hl
  rw [strsV_eq hes]
  exact up (Duo.Call.argle (show CLe _ [_] [_] from ⟨V.le_sl _ _ _,trivial⟩) (cloneT_spec _ (by omega) (by simp) st))
def tx24:Str:=[109,97,105,110,32,61,32,110,101,119,32,40,97,44,32,98,58,32,33,49,32,105,110,116,46,101,110,100,41,32,110,101,119,32,40,99,44,32,100,58,32,33,50,32,105,110,116,46,101,110,100,41,32,40,97,33,60,49,62,46,99,33,60,50,62,46,115,116,111,112,32,124,32,100,63,40,121,41,46,98,63,40,120,41,46,115,116,111,112,41,59]
def m24:Pr:=.mk 6 [97] [98] [] [] (.mk 4 1 [] 0 [] [.mk 1 0 [] 0 [] [],.mk 3 0 [] 0 [] []]) [.mk 6 [99] [100] [] [] (.mk 4 2 [] 0 [] [.mk 1 0 [] 0 [] [],.mk 3 0 [] 0 [] []])
  [.mk 7 [] [] [] [] .z [.mk 2 [97] [] [] [⟨2,[],1⟩] .z [.mk 2 [99] [] [] [⟨2,[],2⟩] .z [.mk 1 [] [] [] [] .z []]],.mk 3 [100] [121] [] [] .z [.mk 3 [98] [120] [] [] .z [.mk 1 [] [] [] [] .z []]]]]]
noncomputable def par24 (r:Option (V × List O)):Bool:=match r with
  | some (.tuple [p,a,b],_) => V.eqb (V.norm (p.trim 0)) (encPg ⟨[],m24⟩) && (V.eqb (a.trim 0) (.int .i64 0) && V.eqb (b.trim 0) (.int .i64 0))
  | _ => false
set_option maxRecDepth 1000000 in
theorem parse24_run:par24 (funQ Tryz.prog gl2 kn3 tk3 40 59 51 [.str tx24] []) = true:=by kernel_rfl
theorem parse24_spec:Duo.Call Tryz.prog gl2 51 [.str tx24] [] (fun v st' => v = .tuple [encPg ⟨[],m24⟩,.int .i64 0,.int .i64 0] ∧ st' = []):=by
  have h:=parse24_run
  generalize hr:funQ Tryz.prog gl2 kn3 tk3 40 59 51 [.str tx24] [] = r at h
  unfold par24 at h
  split at h <;> try (cases h;done)
  rename_i p a b st0
  simp only [Bool.and_eq_true] at h
  obtain ⟨h1,h2,h3⟩:=h
  refine Duo.Call.cut0 (funQ_sound kn3_ok tk3_ok mix 59 51 _ _ _ _ hr) fun s => ?_
  show V.le s (.tuple [p.trim 0,a.trim 0,b.trim 0]) _
  rw [V.eqb_eq h2,V.eqb_eq h3,← V.eqb_eq h1]
  refine V.le_tuple rfl fun i c d hc hd => ?_
  match i with
  | 0 => cases hc;cases hd;exact V.le_norm _ _
  | 1 => cases hc;cases hd;exact V.le_refl _ _
  | 2 => cases hc;cases hd;exact V.le_refl _ _
  | n + 3 => cases hc
noncomputable def kn4:CallE:=fun k args st => match Nat.beq k 51,st with
  | true,[] => match args with
    | [.str s] => match decide (s = tx24) with
      | true => some (.tuple [encPg ⟨[],m24⟩,.int .i64 0,.int .i64 0],[])
      | false => none
    | _ => none
  | _,_ => kn3 k args st
theorem kn4_ok:CallE.ok Tryz.prog gl2 kn4:=by
  intro k args st v st' h
  unfold kn4 at h
  split at h
  · rename_i hk;obtain rfl:=Nat.eq_of_beq_eq_true hk
    split at h <;> try (cases h;done)
    split at h <;> try (cases h;done)
    rename_i hs
    cases h
    obtain rfl:=of_decide_eq_true hs
    exact parse24_spec
  · exact kn3_ok _ _ _ _ _ h
set_option maxRecDepth 1000000 in
theorem awake24_run:funQ Tryz.prog gl2 kn4 tk3 40 60 23 [] [] = some (.bool true,[]):=by kernel_rfl
theorem awake24_spec (st:List O):Duo.Call Tryz.prog gl2 23 [] st (fun v st' => v = .bool true ∧ st' = st) :=
  Duo.Call.frame0 (funQ_sound kn4_ok tk3_ok mix 60 23 [] [] _ _ awake24_run) st
end Tryz
end Go.Proofs
