/-
  A part of the proof.
-/
import Derived.Test.YtdlcnihacaboiaaGreatDoorGB
import Derived.Laws.Strings
import Derived.Lib.Strings
import Derived.Laws.Tables
import Derived.Laws.MakeOwn
import Derived.MapKept
import GoSem.Builtin.Delete
set_option linter.all false
namespace Go.Duo
open Go
def faP (P:Program) (t:TypeId) (st:List O) (f:Nat) (x:V) (K:V → Prop):Prop :=
  match fld P t f with
  | none => False
  | some (off,n,_) => 0 < n ∧ match x with
    | .ptr id o => K (.ptr id (o + off))
    | .dptr cs => K (.dptr (cs.drop off))
    | .rptr id ver o => match st[id]? with
      | some (.arr _ _ v _) => ver = v ∧ K (.rptr id ver (o + off))
      | _ => False
    | _ => False
def fieldP (P:Program) (t:TypeId) (f:Nat) (x:V) (K:V → Prop):Prop :=
  match fld P t f with
  | none => False
  | some (off,n,g) => match x with
    | .agg cs => off + n ≤ cs.length ∧ K (pack g n (cs.drop off))
    | _ => False
def iaP (P:Program) (t:TypeId) (st:List O) (x i:V) (K:V → Prop):Prop :=
  match i with
  | .int _ n => match elt P t with
    | some (_,sz,_) => match x with
      | .sl es _ => 0 ≤ n ∧ n < es.length ∧ (es.getD n.toNat .undef).cells.length = sz ∧ K (.dptr (es.getD n.toNat .undef).cells)
      | .ref id ver => match st[id]? with
        | some (.arr _ sz' v es) => ver = v ∧ sz' = sz ∧ 0 ≤ n ∧ n < es.length ∧ K (.rptr id ver (n.toNat * sz))
        | _ => False
      | _ => False
    | none => match arr P t with
      | some (len,sz,_) => 0 ≤ n ∧ n < len ∧ match x with
        | .ptr id o => K (.ptr id (o + n.toNat * sz))
        | .dptr cs => K (.dptr (cs.drop (n.toNat * sz)))
        | _ => False
      | none => False
  | _ => False
def ixP (P:Program) (t:TypeId) (x i:V) (K:V → Prop):Prop :=
  match i with
  | .int _ n => match x with
    | .str s => P.underlying t = some .string ∧ 0 ≤ n ∧ n < s.length ∧ K (.int .u8 (s.getD n.toNat 0).toNat)
    | .agg cs => match arr P t with
      | some (len,sz,g) => 0 ≤ n ∧ n < len ∧ n.toNat * sz + sz ≤ cs.length ∧ K (pack g sz (cs.drop (n.toNat * sz)))
      | none => False
    | _ => False
  | _ => False
section
variable {P:Program} {gl:Nat → V} {w:World} {s:S} {x y:Value} {a b:V} {K:V → Prop}
theorem fld_runs {t:TypeId} {f off n:Nat} {g:Bool} (h:fld P t f = some (off,n,g)):∃ fs fd,P.underlying t = some (.struct fs) ∧ fs[f]? = some fd ∧ lay P fd.type = some (n,g) ∧ fd.offset = off:=by
  unfold fld at h
  split at h
  · rename_i fs hu
    cases hf:fs[f]? with
    | none => simp [hf] at h
    | some fd =>
      simp only [hf,Option.bind_some,Option.map_eq_some_iff,Prod.mk.injEq] at h
      obtain ⟨⟨n',g'⟩,h1,h2,h3⟩:=h
      simp only [Prod.mk.injEq] at h3
      obtain ⟨rfl,rfl⟩:=h3
      exact ⟨fs,fd,hu,hf,h1,h2⟩
  · cases h
theorem dptr_drop {cs:List V} {bk o:Nat} (h:PR w s.K (.dptr cs) (.pointer (some ⟨bk,o,none⟩))) (off:Nat):PR w s.K (.dptr (cs.drop off)) (.pointer (some ⟨bk,o + off,none⟩)):=by
  cases h with
  | dptr _ _ _ y hc h =>
    refine .dptr _ bk (o + off) (fun j => y (off + j)) (fun j c hj => ?_) (fun j c hj => ?_)
    · rw [List.getElem?_drop] at hj
      rw [Nat.add_assoc]
      exact hc _ c hj
    · rw [List.getElem?_drop] at hj
      exact h _ c hj
theorem Rep.rptr_inv {id ver off:Nat} (h:Rep w s (.rptr id ver off) x):x.oneCell' = true ∧ RptrOK s id ver off x:=by
  cases h with
  | pure _ _ h => cases h
  | rptr _ _ _ _ h1 h => exact ⟨h1,h⟩
theorem fa_sound {t:TypeId} {f:Nat} (hx:Rep w s a x) (h:faP P t s.st f a K):(∃ v z,(Instr.fieldAt t x f).run P w = .ok z w ∧ Rep w s v z ∧ K v):=by
  unfold faP at h
  cases hf:fld P t f with
  | none => simp [hf] at h
  | some o =>
    obtain ⟨off,n,g⟩:=o
    rw [hf] at h
    simp only at h
    obtain ⟨hn,h⟩:=h
    obtain ⟨fs,fd,hu,hfd,hl,rfl⟩:=fld_runs hf
    have hrun:∀ bk o,(Instr.fieldAt t (.pointer (some ⟨bk,o,none⟩)) f).run P w = .ok (.pointer (some ⟨bk,o + fd.offset,none⟩)) w:=fun bk o => by
      simp only [Instr.fieldAt,Sem.run_bind,run_underlying hu,Result.andThen_ok,hfd,Instr.sureAddr,Sem.run_pure,fieldPlace,(lay_runs hl w).1]
      rw [if_neg (by omega)]
      simp [addr_add]
    cases a with
    | ptr id o =>
      obtain ⟨bk,rfl,hg⟩:=hx.ptr_inv
      exact ⟨_,_,hrun bk o,.ptr _ _ bk hg,h⟩
    | dptr cs =>
      obtain ⟨bk,o,rfl,_⟩:=hx.dptr_inv
      exact ⟨_,_,hrun bk o,.pure _ _ (dptr_drop hx.dptr_pr _),h⟩
    | rptr id ver o =>
      simp only at h
      obtain ⟨_,o',ho,hm⟩:=hx.rptr_inv
      rw [ho] at h
      cases o' with
      | arr e sz v es =>
        obtain ⟨rfl,h⟩:=h
        obtain ⟨y,bk,hg,hat,rfl⟩:=hm.2 rfl
        exact ⟨_,_,hrun bk o,.rptr _ _ _ _ rfl ⟨_,ho,Nat.le_refl _,fun _ => ⟨y,bk,hg,hat,rfl⟩⟩,h⟩
      | _ => exact h.elim
    | _ => exact h.elim
theorem field_sound {t:TypeId} {f:Nat} (hx:Rep w s a x) (h:fieldP P t f a K):∃ v z,(Instr.field t x f).run P w = .ok z w ∧ Rep w s v z ∧ K v:=by
  unfold fieldP at h
  cases hf:fld P t f with
  | none => simp [hf] at h
  | some o =>
    obtain ⟨off,n,g⟩:=o
    rw [hf] at h
    obtain ⟨fs,fd,hu,hfd,hl,rfl⟩:=fld_runs hf
    cases a with
    | agg cs =>
      obtain ⟨hoff,h⟩:=h
      obtain ⟨xs,rfl,hlen,hr⟩:=hx.agg_inv
      refine ⟨_,_, ?_,rep_pack (xs:=(xs.drop fd.offset).take n) (lay_runs hl w).2.2 (by simp;omega) (by simp;omega) (fun j c z hj hc hz => ?_),h⟩
      · simp only [Instr.field,Sem.run_bind,run_underlying hu,Result.andThen_ok,hfd,asAgg,Sem.run_pure]
        exact run_part hl (by omega)
      · rw [List.getElem?_take_of_lt hj,List.getElem?_drop] at hz
        rw [List.getElem?_drop] at hc
        exact hr _ c z hc hz
    | _ => exact h.elim
theorem arr_runs {t:TypeId} {len sz:Nat} {g:Bool} (h:arr P t = some (len,sz,g)):∃ e,P.underlying t = some (.array len e) ∧ lay P e = some (sz,g):=by
  unfold arr at h
  split at h
  · rename_i n e hu
    simp only [Option.map_eq_some_iff,Prod.mk.injEq] at h
    obtain ⟨⟨m,g'⟩,h1,rfl,h2⟩:=h
    simp only [Prod.mk.injEq] at h2
    obtain ⟨rfl,rfl⟩:=h2
    exact ⟨e,hu,h1⟩
  · cases h
theorem elt_lay {t e:TypeId} {sz by_:Nat} (h:elt P t = some (e,sz,by_)) (w:World):P.underlying t = some (.slice e) ∧ (sizeOf e).run P w = .ok sz w:=by
  obtain ⟨h1,i,z,h2,h3,h4,h5,h6,h7⟩:=elt_runs h
  exact ⟨h1,by simp [sizeOf,typeInfo,h2,h4]⟩
theorem flat_at {es:List V} {sz:Nat} (hall:∀ e ∈ es,e.cells.length = sz):∀ {i:Nat} (hi:i < es.length) {j:Nat} {c:V},(es[i]).cells[j]? = some c → (flat es)[i * sz + j]? = some c:=by
  induction es with
  | nil => intro i hi;simp at hi
  | cons e es ih =>
    intro i hi j c hj
    cases i with
    | zero =>
      simp only [List.getElem_cons_zero] at hj
      rw [flat_cons,Nat.zero_mul,Nat.zero_add,List.getElem?_append_left (List.getElem?_eq_some_iff.1 hj).1]
      exact hj
    | succ i =>
      simp only [List.getElem_cons_succ] at hj
      rw [flat_cons,List.getElem?_append_right (by rw [hall e (by simp),Nat.add_mul];omega),hall e (by simp)]
      rw [show (i + 1) * sz + j - sz = i * sz + j by rw [Nat.add_mul];omega]
      exact ih (fun e he => hall e (List.mem_cons_of_mem _ he)) (by simpa using hi) hj
theorem dptr_of_row {es:List V} {ad:Option Addr} {cap i sz:Nat} (hp:PR w s.K (.sl es none) (.slice ad es.length cap)) (hi:i < es.length) (hsz:(es.getD i .undef).cells.length = sz) (hpos:0 < sz) :
    ∃ b o,ad = some ⟨b,o,none⟩ ∧ PR w s.K (.dptr (es.getD i .undef).cells) (.pointer (some ⟨b,o + i * sz,none⟩)):=by
  obtain ⟨ad',cap',sz',y,he,_,_,hall,_,hcell⟩:=hp.sl_inv
  simp only [Value.slice.injEq] at he
  obtain ⟨rfl,_,rfl⟩:=he
  have hgi:es.getD i .undef = es[i]:=by rw [List.getD_eq_getElem?_getD,List.getElem?_eq_getElem hi];rfl
  rw [hgi] at hsz ⊢
  have hs:sz' = sz:=(hall _ (List.getElem_mem _)).symm.trans hsz
  subst hs
  have hfl:∀ j c,(es[i]).cells[j]? = some c → (flat es)[i * sz' + j]? = some c:=fun j c hj => flat_at hall hi hj
  obtain ⟨⟨b,o,rfl,_⟩,_⟩:=hcell (i * sz' + 0) ((es[i]).cells[0]'(by omega)) (hfl 0 _ (List.getElem?_eq_getElem _))
  refine ⟨b,o,rfl,.dptr _ b _ (fun j => y (i * sz' + j)) (fun j c hj => ?_) (fun j c hj => ?_)⟩
  · obtain ⟨b',o',hb,hc⟩:=(hcell _ c (hfl j c hj)).1
    simp only [Option.some.injEq,Addr.mk.injEq,and_true] at hb
    obtain ⟨rfl,rfl⟩:=hb
    rw [Nat.add_assoc]
    exact hc
  · exact (hcell _ c (hfl j c hj)).2
theorem ref_inv {id ver:Nat} (h:Rep w s (.ref id ver) x):RefOK s id ver x:=by
  cases h with
  | pure _ _ h => cases h
  | ref _ _ _ _ h => exact h
theorem ia_sound (hs:Sim P gl w s) {t:TypeId} (hx:Rep w s a x) (hy:Rep w s b y) (h:iaP P t s.st a b K):∃ v z,(Instr.indexAt t x y).run P w = .ok z w ∧ Rep w s v z ∧ K v:=by
  cases b with
  | int k n =>
    cases hy.int_inv
    simp only [iaP] at h
    cases he:elt P t with
    | some o =>
      obtain ⟨e,sz,by_⟩:=o
      rw [he] at h
      obtain ⟨hu,hsize⟩:=elt_lay he w
      have hpos:0 < sz:=by obtain ⟨_,i,z,_,_,rfl,_,_,h⟩:=elt_runs he;exact h
      have hrun:∀ bk o len cap,0 ≤ n → n < (len:Nat) → (Instr.indexAt t (.slice (some ⟨bk,o,none⟩) len cap) (.int k n)).run P w = .ok (.pointer (some ⟨bk,o + n.toNat * sz,none⟩)) w:=fun bk o len cap h0 h1 => by
        simp only [Instr.indexAt,asIntOf,Sem.run_bind,Sem.run_pure,Result.andThen_ok,run_underlying hu]
        rw [if_pos ⟨h0,h1⟩]
        simp [hsize,addr_add]
      cases a with
      | sl es tk =>
        simp only at h
        obtain ⟨h0,h1,hsz,h⟩:=h
        have hp:PR w s.K (.sl es none) x:=hx.sl_inv
        obtain ⟨ad,cap,_,_,rfl,_⟩:=hp.sl_inv
        obtain ⟨bk,o,rfl,hd⟩:=dptr_of_row hp (i:=n.toNat) (by omega) hsz hpos
        exact ⟨_,_,hrun bk o _ cap h0 h1,.pure _ _ hd,h⟩
      | ref id ver =>
        simp only at h
        obtain ⟨o',ho,hm⟩:=ref_inv hx
        rw [ho] at h
        cases o' with
        | arr e' sz' v es =>
          obtain ⟨rfl,rfl,h0,h1,h⟩:=h
          rcases hm.2 rfl with hg | ⟨rfl,_⟩
          rotate_left
          · simp at h1;omega
          obtain ⟨xs,hown,_⟩:=hs.obj id _ _ ho hg
          rcases hown.2 with ⟨_,h0'⟩ | ⟨g,cap,cur,rfl,_⟩
          · rw [h0'] at h1;omega
          · exact ⟨_,_,hrun g 0 _ cap h0 h1,.rptr _ _ _ _ rfl ⟨_,ho,Nat.le_refl _,fun _ => ⟨_,g,hg,rfl,by rw [Nat.zero_add]⟩⟩,h⟩
        | _ => exact h.elim
      | _ => exact h.elim
    | none =>
      rw [he] at h
      cases ha:arr P t with
      | none => simp [ha] at h
      | some o =>
        obtain ⟨len,sz,g⟩:=o
        rw [ha] at h
        obtain ⟨h0,h1,h⟩:=h
        obtain ⟨e,hu,hl⟩:=arr_runs ha
        have hrun:∀ bk o,(Instr.indexAt t (.pointer (some ⟨bk,o,none⟩)) (.int k n)).run P w = .ok (.pointer (some ⟨bk,o + n.toNat * sz,none⟩)) w:=fun bk o => by
          simp only [Instr.indexAt,asIntOf,Sem.run_bind,Sem.run_pure,Result.andThen_ok,run_underlying hu,Instr.sureAddr]
          rw [if_pos ⟨h0,h1⟩]
          simp [(lay_runs hl w).1,addr_add]
        cases a with
        | ptr id o =>
          obtain ⟨bk,rfl,hg⟩:=hx.ptr_inv
          exact ⟨_,_,hrun bk o,.ptr _ _ bk hg,h⟩
        | dptr cs =>
          obtain ⟨bk,o,rfl,_⟩:=hx.dptr_inv
          exact ⟨_,_,hrun bk o,.pure _ _ (dptr_drop hx.dptr_pr _),h⟩
        | _ => exact h.elim
  | _ => exact h.elim
theorem ix_sound {t:TypeId} (hx:Rep w s a x) (hy:Rep w s b y) (h:ixP P t a b K):∃ v z,(Instr.index t x y).run P w = .ok z w ∧ Rep w s v z ∧ K v:=by
  cases b with
  | int k n =>
    cases hy.int_inv
    simp only [ixP] at h
    cases a with
    | str l =>
      obtain ⟨hu,h0,h1,h⟩:=h
      cases hx.str_inv
      refine ⟨_,.int .u8 (l.getD n.toNat 0).toNat, ?_,.pure _ _ (.int _ _),h⟩
      simp only [Instr.index,asIntOf,Sem.run_bind,Sem.run_pure,Result.andThen_ok,run_underlying hu]
      rw [if_pos h0]
      have hlt:n.toNat < (⟨l.toArray⟩:ByteArray).size:=by simp [ByteArray.size];omega
      rw [ByteArray.getElem?_lt' _ _ hlt]
      have:(⟨l.toArray⟩:ByteArray)[n.toNat] = l.getD n.toNat 0:=by
        rw [List.getD_eq_getElem?_getD,List.getElem?_eq_getElem (by omega)]
        rfl
      rw [this]
      rfl
    | agg cs =>
      cases ha:arr P t with
      | none => simp [ha] at h
      | some o =>
        obtain ⟨len,sz,g⟩:=o
        rw [ha] at h
        obtain ⟨h0,h1,h2,h⟩:=h
        obtain ⟨e,hu,hl⟩:=arr_runs ha
        obtain ⟨xs,rfl,hlen,hr⟩:=hx.agg_inv
        refine ⟨_,_, ?_,rep_pack (xs:=(xs.drop (n.toNat * sz)).take sz) (lay_runs hl w).2.2 (by simp;omega) (by simp;omega) (fun j c z hj hc hz => ?_),h⟩
        · simp only [Instr.index,asIntOf,Sem.run_bind,Sem.run_pure,Result.andThen_ok,run_underlying hu]
          rw [if_pos ⟨h0,h1⟩,Sem.run_bind,(lay_runs hl w).1,Result.andThen_ok]
          exact run_part hl (by omega)
        · rw [List.getElem?_take_of_lt hj,List.getElem?_drop] at hz
          rw [List.getElem?_drop] at hc
          exact hr _ c z hc hz
    | _ => exact h.elim
  | _ => exact h.elim
end
end Go.Duo

namespace Go.Duo
open Go
def bndOf (d:Int):Option V → Option Int
  | none => some d
  | some (.int _ n) => some n
  | some _ => none
def sliceP (P:Program) (t:TypeId) (x:V) (lo hi mx:Option V) (K:V → Prop):Prop :=
  match x with
  | .str s => P.underlying t = some .string ∧ match mx,bndOf 0 lo,bndOf s.length hi with
    | none,some l,some h => 0 ≤ l ∧ l ≤ h ∧ h ≤ s.length ∧ K (.str ((s.take h.toNat).drop l.toNat))
    | _,_,_ => False
  | .sl es _ => match elt P t with
    | none => False
    | some (_,sz,_) => match mx,bndOf 0 lo,bndOf es.length hi with
      | none,some l,some h => (∀ e ∈ es,e.cells.length = sz) ∧ 0 ≤ l ∧ l ≤ h ∧ h ≤ es.length ∧ K (.sl ((es.take h.toNat).drop l.toNat) none)
      | some (.int _ m),some l,some h => hi.isSome = true ∧ m = 0 ∧ l = 0 ∧ h = 0 ∧ K .nil
      | _,_,_ => False
  | .nil => match elt P t with
    | none => False
    | some _ => match mx,bndOf 0 lo,bndOf 0 hi with
      | none,some l,some h => l = 0 ∧ h = 0 ∧ K .nil
      | some (.int _ m),some l,some h => hi.isSome = true ∧ m = 0 ∧ l = 0 ∧ h = 0 ∧ K .nil
      | _,_,_ => False
  | .dptr cs => match arr P t,lo,hi,mx with
    | some (len,1,false),none,none,none => len ≤ cs.length ∧ len ≤ maxLen ∧ (cs.take len).all V.one = true ∧ K (.sl (cs.take len) none)
    | _,_,_,_ => False
  | _ => False
section
variable {P:Program} {gl:Nat → V} {w:World} {s:S} {x y:Value} {a b:V} {K:V → Prop}
inductive RepO (w:World) (s:S):Option V → Option Value → Prop
  | none:RepO w s none none
  | some (v:V) (x:Value) (h:Rep w s v x):RepO w s (some v) (some x)
theorem RepO.mk {ρ:Operand → Value} {e:Operand → V} (h:∀ o,Rep w s (e o) (ρ o)) (o:Option Operand):RepO w s (o.map e) (o.map ρ):=by
  cases o with
  | none => exact .none
  | some o => exact .some _ _ (h o)
theorem run_bound {k:IntKind} {n:Int} {m:Nat} {c:BoundsCode} (h0:0 ≤ n) (h1:n ≤ m):(Instr.sliceBound (.int k n) m c).run P w = .ok n.toNat w:=by
  simp only [Instr.sliceBound,asIntOf,Sem.run_bind,Sem.run_pure,Result.andThen_ok]
  rw [if_pos ⟨h0,h1⟩]
  rfl
theorem run_bounds {isSlice:Bool} {len cap:Nat} {lo hi:Option V} {l h:Int} {xl xh:Option Value} (hl:RepO w s lo xl) (hh:RepO w s hi xh) (el:bndOf 0 lo = some l) (eh:bndOf len hi = some h) (h0:0 ≤ l) (h1:l ≤ h) (h2:h ≤ cap) :
    (Instr.sliceBounds isSlice len cap xl xh none).run P w = .ok (l.toNat,h.toNat,cap) w:=by
  cases hh with
  | none =>
    simp only [bndOf,Option.some.injEq] at eh
    subst eh
    cases hl with
    | none =>
      simp only [bndOf,Option.some.injEq] at el
      subst el
      simp [Instr.sliceBounds]
    | some v z hv =>
      cases v with
      | int k n =>
        simp only [bndOf,Option.some.injEq] at el
        subst el
        cases hv.int_inv
        simp [Instr.sliceBounds,run_bound h0 h1]
      | _ => simp [bndOf] at el
  | some u y hu =>
    cases u with
    | int k' n' =>
      simp only [bndOf,Option.some.injEq] at eh
      subst eh
      cases hu.int_inv
      have hb:=fun c => run_bound (P:=P) (w:=w) (k:=k') (c:=c) (show (0:Int) ≤ n' by omega) h2
      cases hl with
      | none =>
        simp only [bndOf,Option.some.injEq] at el
        subst el
        simp [Instr.sliceBounds,hb]
      | some v z hv =>
        cases v with
        | int k n =>
          simp only [bndOf,Option.some.injEq] at el
          subst el
          cases hv.int_inv
          have hb':=fun c => run_bound (P:=P) (w:=w) (k:=k) (c:=c) (m:=n'.toNat) h0 (by omega)
          simp [Instr.sliceBounds,hb,hb']
        | _ => simp [bndOf] at el
    | _ => simp [bndOf] at eh
theorem run_bounds0 {len cap:Nat} {lo hi:Option V} {xl xh:Option Value} {x:Value} {l h:Int} {k:IntKind} (hl:RepO w s lo xl) (hh:RepO w s hi xh) (hv:Rep w s (.int k 0) x) (el:bndOf 0 lo = some l) (eh:bndOf len hi = some h) (h0:l = 0) (h1:h = 0)
    (hi0:hi.isSome = true):(Instr.sliceBounds true len cap xl xh (some x)).run P w = .ok (0,0,0) w:=by
  subst h0 h1
  cases hv.int_inv
  have hb:=fun (k:IntKind) (c:BoundsCode) (m:Nat) => run_bound (P:=P) (w:=w) (k:=k) (c:=c) (n:=0) (m:=m) (Int.le_refl _) (by omega)
  cases hh with
  | none => cases hi0
  | some u y hu =>
    cases u with
    | int k' n' =>
      simp only [bndOf,Option.some.injEq] at eh
      subst eh
      cases hu.int_inv
      cases hl with
      | none => simp [Instr.sliceBounds,hb]
      | some v z hv =>
        cases v with
        | int k n =>
          simp only [bndOf,Option.some.injEq] at el
          subst el
          cases hv.int_inv
          simp [Instr.sliceBounds,hb]
        | _ => simp [bndOf] at el
    | _ => simp [bndOf] at eh
theorem pr_cut {es:List V} {ad:Option Addr} {cap sz l h:Nat} (hp:PR w s.K (.sl es none) (.slice ad es.length cap)) (hl:l ≤ h) (hh:h ≤ es.length) (hsz:∀ sz',(∀ e ∈ es,e.cells.length = sz') → es ≠ [] → sz' = sz) :
    PR w s.K (.sl ((es.take h).drop l) none) (.slice (if cap = l then ad else ad.map (·.add (l * sz))) (h - l) (cap - l)):=by
  obtain ⟨ad',cap',sz',y,he,hc1,hc2,hall,h1,hcell⟩:=hp.sl_inv
  simp only [Value.slice.injEq] at he
  obtain ⟨rfl,_,rfl⟩:=he
  have hlen:((es.take h).drop l).length = h - l:=by simp;omega
  rw [← hlen]
  have hmem:∀ e ∈ (es.take h).drop l,e ∈ es:=fun e he => List.mem_of_mem_take (List.mem_of_mem_drop he)
  have hfm:∀ c ∈ flat ((es.take h).drop l),c ∈ flat es:=fun c hc => by
    obtain ⟨e,he,hce⟩:=List.mem_flatMap.1 hc
    exact List.mem_flatMap.2 ⟨e,hmem e he,hce⟩
  have hidx:∀ j c,(flat ((es.take h).drop l))[j]? = some c → (flat es)[l * sz' + j]? = some c:=fun j c hj => by
    have hsplit:es = es.take l ++ ((es.take h).drop l ++ es.drop h):=by
      have e1:es.take h = es.take l ++ (es.take h).drop l:=by
        conv => lhs;rw [← List.take_append_drop l (es.take h)]
        rw [List.take_take,Nat.min_eq_left hl]
      rw [← List.append_assoc,← e1,List.take_append_drop]
    have hf:flat es = flat (es.take l) ++ (flat ((es.take h).drop l) ++ flat (es.drop h)):=by
      conv => lhs;rw [hsplit]
      rw [flat_append,flat_append]
    have hfl:(flat (es.take l)).length = l * sz':=by
      rw [flat_length (sz:=sz') (fun e he => hall e (List.mem_of_mem_take he))]
      simp [Nat.min_eq_left (Nat.le_trans hl hh)]
    rw [hf,List.getElem?_append_right (by omega),hfl,show l * sz' + j - l * sz' = j by omega,List.getElem?_append_left (List.getElem?_eq_some_iff.1 hj).1]
    exact hj
  refine .sl _ _ _ sz' (fun j => y (l * sz' + j)) (by omega) (by omega) (fun e he => hall e (hmem e he)) (fun c hc => h1 c (hfm c hc)) (fun j c hj => ?_) (fun j c hj => (hcell _ c (hidx j c hj)).2)
  have hne:es ≠ []:=fun hn => by subst hn;simp at hj
  obtain rfl:=hsz sz' hall hne
  obtain ⟨b,o,rfl,hc⟩:=(hcell _ c (hidx j c hj)).1
  have hlt:l < h:=by
    apply Classical.byContradiction
    intro hn
    have:(es.take h).drop l = []:=List.eq_nil_of_length_eq_zero (by rw [hlen];omega)
    rw [this] at hj
    simp at hj
  rw [if_neg (by omega)]
  refine ⟨b,o + l * sz', ?_, ?_⟩
  · simp [addr_add]
  · rw [Nat.add_assoc]
    exact hc
theorem slice_sound {t:TypeId} {lo hi mx:Option V} {xl xh xm:Option Value} (hx:Rep w s a x) (hl:RepO w s lo xl) (hh:RepO w s hi xh) (hm:RepO w s mx xm) (h:sliceP P t a lo hi mx K) :
    ∃ v z,(Instr.sliceAt t x xl xh xm).run P w = .ok z w ∧ Rep w s v z ∧ K v:=by
  cases a with
  | str st =>
    obtain ⟨hu,h⟩:=h
    cases hx.str_inv
    cases mx with
    | some m => simp at h
    | none =>
      cases hm
      cases el:bndOf 0 lo with
      | none => simp [el] at h
      | some l =>
        cases eh:bndOf st.length hi with
        | none => simp [el,eh] at h
        | some hg =>
          rw [el,eh] at h
          obtain ⟨h0,h1,h2,h⟩:=h
          refine ⟨_,_, ?_,.pure _ _ (.str _),h⟩
          have hsz:(⟨st.toArray⟩:ByteArray).size = st.length:=by simp [ByteArray.size]
          have hb:=run_bounds (P:=P) (w:=w) (isSlice:=false) (len:=st.length) (cap:=st.length) hl hh el eh h0 h1 h2
          simp only [Instr.sliceAt,Instr.slice,Sem.run_bind,run_underlying hu,Result.andThen_ok,Option.isSome_none,Bool.false_eq_true,if_false,Sem.run_pure,hsz,hb,Result.ok.injEq,Value.string.injEq,and_true]
          apply ByteArray.ext
          apply Array.ext'
          rw [Lib.extract_data]
          simp [List.drop_take]
  | sl es tk =>
    simp only [sliceP] at h
    cases he:elt P t with
    | none => simp [he] at h
    | some o =>
      obtain ⟨e,sz,by_⟩:=o
      rw [he] at h
      obtain ⟨hu,hsize⟩:=elt_lay he w
      have hp:PR w s.K (.sl es none) x:=hx.sl_inv
      obtain ⟨ad,cap,_,_,rfl,hcap,hmax,_⟩:=hp.sl_inv
      cases el:bndOf 0 lo with
      | none => cases mx <;> simp [el] at h
      | some l =>
        cases eh:bndOf es.length hi with
        | none => cases mx <;> simp [el,eh] at h
        | some hg =>
          cases mx with
          | none =>
            cases hm
            rw [el,eh] at h
            obtain ⟨hall,h0,h1,h2,h⟩:=h
            have hb:=run_bounds (P:=P) (w:=w) (isSlice:=true) (len:=es.length) (cap:=cap) hl hh el eh h0 h1 (by omega)
            refine ⟨_,_, ?_,.pure _ _ (pr_cut hp (l:=l.toNat) (h:=hg.toNat) (sz:=sz) (by omega) (by omega) (fun sz' ha hne => by
              obtain ⟨e0,he0⟩:=List.exists_mem_of_ne_nil es hne
              exact (ha e0 he0).symm.trans (hall e0 he0))),h⟩
            simp only [Instr.sliceAt,Instr.slice,Sem.run_bind,run_underlying hu,Result.andThen_ok,Sem.run_pure,hb,hsize]
          | some m =>
            cases m with
            | int k n =>
              rw [el,eh] at h
              obtain ⟨hi0,rfl,h0,h1,h⟩:=h
              cases hm with
              | some _ xm hm =>
                have hb:=run_bounds0 (P:=P) (len:=es.length) (cap:=cap) hl hh hm el eh h0 h1 hi0
                refine ⟨_,_, ?_,.pure _ _ (.nil ad),h⟩
                simp [Instr.sliceAt,Instr.slice,run_underlying hu,hb,hsize]
            | _ => simp [el,eh] at h
  | nil =>
    simp only [sliceP] at h
    cases he:elt P t with
    | none => simp [he] at h
    | some o =>
      obtain ⟨e,sz,by_⟩:=o
      rw [he] at h
      obtain ⟨hu,hsize⟩:=elt_lay he w
      obtain ⟨ad,rfl⟩:=hx.nil_inv
      cases el:bndOf 0 lo with
      | none => cases mx <;> simp [el] at h
      | some l =>
        cases eh:bndOf 0 hi with
        | none => cases mx <;> simp [el,eh] at h
        | some hg =>
          cases mx with
          | none =>
            cases hm
            rw [el,eh] at h
            obtain ⟨rfl,rfl,h⟩:=h
            have hb:=run_bounds (P:=P) (w:=w) (isSlice:=true) (len:=0) (cap:=0) hl hh el eh (by omega) (by omega) (by omega)
            refine ⟨_,_, ?_,.pure _ _ (.nil ad),h⟩
            simp [Instr.sliceAt,Instr.slice,run_underlying hu,hb,hsize]
          | some m =>
            cases m with
            | int k n =>
              rw [el,eh] at h
              obtain ⟨hi0,rfl,h0,h1,h⟩:=h
              cases hm with
              | some _ xm hm =>
                have hb:=run_bounds0 (P:=P) (len:=0) (cap:=0) hl hh hm el eh h0 h1 hi0
                refine ⟨_,_, ?_,.pure _ _ (.nil ad),h⟩
                simp [Instr.sliceAt,Instr.slice,run_underlying hu,hb,hsize]
            | _ => simp [el,eh] at h
  | dptr cs =>
    simp only [sliceP] at h
    cases ha:arr P t with
    | none => simp [ha] at h
    | some o =>
      obtain ⟨len,sz,g⟩:=o
      rw [ha] at h
      rcases sz with _ | _ | sz
      · cases g <;> cases lo <;> cases hi <;> cases mx <;> simp at h
      · cases g with
        | true => simp at h
        | false =>
          cases lo with
          | some _ => simp at h
          | none =>
            cases hi with
            | some _ => simp at h
            | none =>
              cases mx with
              | some _ => simp at h
              | none =>
                obtain ⟨h1,h2,h3,h⟩:=h
                cases hl;cases hh;cases hm
                obtain ⟨e,hu,hle⟩:=arr_runs ha
                obtain ⟨bk,o,rfl,y,hy⟩:=hx.dptr_inv
                have hcell:∀ v ∈ cs.take len,v.cells = [v]:=fun v hv => by
                  have:=List.all_eq_true.1 h3 v hv
                  cases v <;> first | rfl | simp [V.one] at this
                have hfl:flat (cs.take len) = cs.take len:=by
                  have:∀ l:List V,(∀ v ∈ l,v.cells = [v]) → flat l = l:=fun l hl => by
                    induction l with
                    | nil => rfl
                    | cons v l ih => rw [flat_cons,hl v (by simp),ih (fun v hv => hl v (List.mem_cons_of_mem _ hv))];rfl
                  exact this _ hcell
                have hlen:(cs.take len).length = len:=by simp;omega
                refine ⟨_,.slice (some ⟨bk,o,none⟩) (cs.take len).length len, ?_,.pure _ _ (.sl (cs.take len) _ len 1 y (by omega) h2 (fun v hv => by rw [hcell v hv];rfl) (fun c hc => by rw [hfl] at hc;exact List.all_eq_true.1 h3 c hc) (fun j c hj => ?_) (fun j c hj => ?_)),h⟩
                · have hne:∀ m:Nat,(if m = 0 then (⟨bk,o,none⟩:Addr) else ⟨bk,o,none⟩) = ⟨bk,o,none⟩:=fun m => by split <;> rfl
                  simp [Instr.sliceAt,Sem.run_bind,run_underlying hu,Instr.sureAddr,Instr.sliceBounds,(lay_runs hle w).1,Nat.min_eq_left h1,Addr.add]
                · rw [hfl] at hj
                  have hjl:j < len:=by have:=(List.getElem?_eq_some_iff.1 hj).1;omega
                  rw [List.getElem?_take_of_lt hjl] at hj
                  exact ⟨bk,o,rfl,(hy j c hj).1⟩
                · rw [hfl] at hj
                  have hjl:j < len:=by have:=(List.getElem?_eq_some_iff.1 hj).1;omega
                  rw [List.getElem?_take_of_lt hjl] at hj
                  exact (hy j c hj).2
      · cases g <;> cases lo <;> cases hi <;> cases mx <;> simp at h
  | _ => exact h.elim
end
end Go.Duo

namespace Go.Duo
open Go
def plc (P:Program) (t:TypeId):Option (Nat → Option (Nat × Nat)) :=
  match P.info? t,P.underlying t with
  | some _,some (.array _ e) => (P.info? e).map fun i => fun k => some (k * i.size,i.size)
  | some _,some (.struct fs) => (fs.toList.mapM (fun f => (P.info? f.type).map fun i => (f.offset,i.size))).map fun l => fun k => l[k]?
  | _,_ => none
def fillV (place:Nat → Option (Nat × Nat)):List V → List (Nat × V) → Option (List V)
  | cs,[] => some cs
  | cs,(i,v) :: rest => match place i with
    | none => none
    | some (off,n) => if v.cells.length = n ∧ v.cells.all V.one = true ∧ off + n ≤ cs.length then fillV place (splice cs off v.cells) rest else none
def buildP (P:Program) (t:TypeId) (parts:List (Nat × V)) (K:V → Prop):Prop :=
  match plc P t,zro P t with
  | some pl,some z => match fillV pl z parts with
    | some cs => K (.agg cs)
    | none => False
  | _,_ => False
def buildSliceP (P:Program) (t:TypeId) (st:List O) (len:Nat) (parts:List (Nat × V)) (K:V → List O → Prop):Prop :=
  match elt P t with
  | none => False
  | some (e,sz,_) => if len = 0 then K .nil st else
      parts.map (·.1) = List.range len ∧ len * sz ≤ 16777216 ∧ (∀ p ∈ parts,p.2.cells.length = sz ∧ p.2.cells.all V.one = true ∧ ∀ c ∈ p.2.cells,PureV c) ∧ K (.sl (parts.map (·.2.bare)) (some st.length)) (st ++ [.tok e sz len])
section
variable {P:Program} {gl:Nat → V} {w:World} {s:S} {x y:Value} {a b:V} {K:V → Prop}
def RepL (w:World) (s:S) (cs:List V) (xs:List Value):Prop:=cs.length = xs.length ∧ ∀ (i:Nat) (c:V) (x:Value),cs[i]? = some c → xs[i]? = some x → Rep w s c x
theorem RepL.splice {cs ys:List V} {xs zs:List Value} {off:Nat} (h:RepL w s cs xs) (hy:RepL w s ys zs) (hoff:off + ys.length ≤ cs.length):RepL w s (splice cs off ys) (xs.take off ++ zs ++ xs.drop (off + zs.length)):=by
  obtain ⟨hl,h⟩:=h
  obtain ⟨hl',hy⟩:=hy
  refine ⟨by simp [Duo.splice];omega,fun j c x hc hx => ?_⟩
  unfold Duo.splice at hc
  by_cases h1:j < off
  · rw [List.append_assoc,List.getElem?_append_left (by simp;omega),List.getElem?_take_of_lt h1] at hc
    rw [List.append_assoc,List.getElem?_append_left (by simp;omega),List.getElem?_take_of_lt h1] at hx
    exact h j c x hc hx
  · by_cases h2:j < off + ys.length
    · rw [List.append_assoc,List.getElem?_append_right (by simp;omega),List.getElem?_append_left (by simp;omega)] at hc
      rw [List.append_assoc,List.getElem?_append_right (by simp;omega),List.getElem?_append_left (by simp;omega)] at hx
      simp only [List.length_take] at hc hx
      rw [show min off xs.length = min off cs.length by omega] at hx
      exact hy _ c x hc hx
    · rw [List.getElem?_append_right (by simp;omega),List.getElem?_drop] at hc
      rw [List.getElem?_append_right (by simp;omega),List.getElem?_drop] at hx
      simp only [List.length_append,List.length_take] at hc hx
      rw [show off + ys.length + (j - (min off cs.length + ys.length)) = j by omega] at hc
      rw [show off + zs.length + (j - (min off xs.length + zs.length)) = j by omega] at hx
      exact h j c x hc hx
theorem foldl_put (off:Nat):∀ (zs:List Value) (k:Nat) (cells:Array Value),off + k + zs.length ≤ cells.size →
    (zs.zipIdx k).foldl (fun cs (p:Value × Nat) => cs.setIfInBounds (off + p.2) p.1) cells = (cells.toList.take (off + k) ++ zs ++ cells.toList.drop (off + k + zs.length)).toArray:=by
  intro zs
  induction zs with
  | nil => intro k cells _;simp
  | cons z zs ih =>
    intro k cells h
    simp only [List.length_cons] at h
    rw [List.zipIdx_cons,List.foldl_cons,ih (k + 1) _ (by simp;omega)]
    apply Array.ext'
    simp only [Array.toList_setIfInBounds,List.length_cons]
    have:=list_seg_step cells.toList (off + k) z zs (by simp;omega)
    rw [show off + (k + 1) = off + k + 1 by omega,this]
theorem cells_repL (h:Rep w s a x) (h1:a.cells.all V.one = true):RepL w s a.cells x.cells.toList:=by
  obtain ⟨xs,rfl,hl,hr,_⟩:=cells_rep h h1
  exact ⟨hl,hr⟩
theorem fill_rep {place:Nat → Option (Nat × Nat)}:∀ {parts:List (Nat × V)} {cs cs':List V} {xs:List Value} {ps:List (Nat × Value)},fillV place cs parts = some cs' → RepL w s cs xs → parts.length = ps.length →
    (∀ (i:Nat) (p:Nat × V) (q:Nat × Value),parts[i]? = some p → ps[i]? = some q → p.1 = q.1 ∧ Rep w s p.2 q.2) → ∃ xs':List Value,Instr.fill place xs.toArray ps = some xs'.toArray ∧ RepL w s cs' xs':=by
  intro parts
  induction parts with
  | nil =>
    intro cs cs' xs ps h hr hl _
    simp only [fillV,Option.some.injEq] at h
    subst h
    cases ps with
    | nil => exact ⟨xs,rfl,hr⟩
    | cons q ps => simp at hl
  | cons p parts ih =>
    intro cs cs' xs ps h hr hl hp
    cases ps with
    | nil => simp at hl
    | cons q ps =>
      obtain ⟨i,v⟩:=p
      obtain ⟨i',u⟩:=q
      obtain ⟨he,hvu⟩:=hp 0 _ _ rfl rfl
      simp only at he hvu
      subst he
      simp only [fillV] at h
      cases hpl:place i with
      | none => simp [hpl] at h
      | some on =>
        obtain ⟨off,n⟩:=on
        rw [hpl] at h
        simp only at h
        split at h
        · rename_i hc
          have hvu:=cells_repL hvu hc.2.1
          have hus:u.cells.size = n:=by have:=hvu.1;simp at this;omega
          have hxs:cs.length = xs.length:=hr.1
          obtain ⟨xs',h1,h2⟩:=ih h (hr.splice hvu (by omega)) (by simpa using hl) (fun i p q hp' hq' => hp (i + 1) p q hp' hq')
          refine ⟨xs', ?_,h2⟩
          have hf:=foldl_put off u.cells.toList 0 xs.toArray (by simp;omega)
          simp only [Nat.add_zero] at hf
          have hz:u.cells.zipIdx.foldl (fun cs (p:Value × Nat) => cs.setIfInBounds (off + p.2) p.1) xs.toArray = (u.cells.toList.zipIdx 0).foldl (fun cs (p:Value × Nat) => cs.setIfInBounds (off + p.2) p.1) xs.toArray:=by
            rw [← Array.foldl_toList]
            simp
          simp only [Instr.fill,hpl]
          rw [if_neg (by simp [hus];omega)]
          rw [hz,hf]
          exact h1
        · cases h
theorem zro_rep {t:TypeId} {z:List V} (h:zro P t = some z):∃ i zv,P.info? t = some i ∧ i.zero = some zv ∧ RepL w s z zv.cells.toList:=by
  unfold zro at h
  cases hi:P.info? t with
  | none => simp [hi] at h
  | some i =>
    cases hz:i.zero with
    | none => simp [hi,hz] at h
    | some zv =>
      simp only [hi,hz,Option.bind_some,Option.map_some,Option.some.injEq] at h
      subst h
      refine ⟨i,zv,rfl,hz,by simp,fun j c x hc hx => ?_⟩
      rw [List.getElem?_map,hx] at hc
      simp only [Option.map_some,Option.some.injEq] at hc
      subst hc
      exact V.ofConst_rep x
theorem build_sound {t:TypeId} {parts:List (Nat × V)} {ps:Array (Nat × Value)} (hl:parts.length = ps.size) (hp:∀ (i:Nat) (p:Nat × V) (q:Nat × Value),parts[i]? = some p → ps[i]? = some q → p.1 = q.1 ∧ Rep w s p.2 q.2)
    (h:buildP P t parts K):∃ v z,(Instr.build t ps).run P w = .ok z w ∧ Rep w s v z ∧ K v:=by
  unfold buildP at h
  cases hpl:plc P t with
  | none => simp [hpl] at h
  | some pl =>
    cases hz:zro P t with
    | none => simp [hpl,hz] at h
    | some z =>
      rw [hpl,hz] at h
      simp only at h
      cases hf:fillV pl z parts with
      | none => simp [hf] at h
      | some cs =>
        rw [hf] at h
        obtain ⟨i,zv,hi,hzv,hzr⟩:=zro_rep (w:=w) (s:=s) hz
        obtain ⟨xs',h1,h2⟩:=fill_rep (ps:=ps.toList) hf hzr (by simpa using hl) (fun i p q h1 h2 => hp i p q h1 (by simpa using h2))
        refine ⟨_,.agg xs'.toArray,run_build w t ps _ ?_,.agg _ _ h2.1 h2.2,h⟩
        unfold Program.built
        unfold plc at hpl
        rw [hi] at hpl ⊢
        cases hu:P.underlying t with
        | none => simp [hu] at hpl
        | some d =>
          rw [hu] at hpl
          cases d <;> simp only [Option.map_eq_some_iff,reduceCtorEq] at hpl
          case array n e =>
            obtain ⟨ie,hie,rfl⟩:=hpl
            simp only [hzv,hie]
            simpa using h1
          case struct fs =>
            obtain ⟨l,hl',rfl⟩:=hpl
            simp only [hzv,hl']
            simpa using h1
theorem flat_fill {sz:Nat}:∀ (parts:List (Nat × Value)) (k:Nat) (cells:Array Value),parts.map (·.1) = List.range' k parts.length → (∀ p ∈ parts,p.2.cells.size = sz) → (k + parts.length) * sz ≤ cells.size →
    Instr.fill (fun i => some (i * sz,sz)) cells parts = some (cells.toList.take (k * sz) ++ parts.flatMap (fun p => p.2.cells.toList) ++ cells.toList.drop ((k + parts.length) * sz)).toArray:=by
  intro parts
  induction parts with
  | nil => intro k cells _ _ _;simp [Instr.fill]
  | cons p parts ih =>
    intro k cells hk hsz hle
    obtain ⟨i,v⟩:=p
    simp only [List.map_cons,List.length_cons,List.range'_succ,List.cons.injEq] at hk
    obtain ⟨rfl,hk⟩:=hk
    have hv:v.cells.size = sz:=hsz (i,v) (by simp)
    simp only [List.length_cons] at hle
    have e1:(i + 1) * sz = i * sz + sz:=by rw [Nat.add_mul];omega
    have e2:(i + (parts.length + 1)) * sz = (i + 1 + parts.length) * sz:=by congr 1;omega
    have hle2:(i + 1) * sz ≤ (i + 1 + parts.length) * sz:=Nat.mul_le_mul_right _ (by omega)
    simp only [Instr.fill]
    rw [if_neg (by simp [hv];omega)]
    have hf:=foldl_put (i * sz) v.cells.toList 0 cells (by simp;omega)
    simp only [Nat.add_zero] at hf
    have hz:v.cells.zipIdx.foldl (fun cs (p:Value × Nat) => cs.setIfInBounds (i * sz + p.2) p.1) cells = (v.cells.toList.zipIdx 0).foldl (fun cs (p:Value × Nat) => cs.setIfInBounds (i * sz + p.2) p.1) cells:=by
      rw [← Array.foldl_toList]
      simp
    rw [hz,hf]
    have hvl:v.cells.toList.length = sz:=by simpa using hv
    have hcl:cells.toList.length = cells.size:=by simp
    rw [ih (i + 1) _ hk (fun p hp => hsz p (by simp [hp])) (by simp;omega)]
    congr 1
    apply Array.ext'
    simp only [List.flatMap_cons,List.length_cons]
    have hA:(cells.toList.take (i * sz) ++ v.cells.toList ++ cells.toList.drop (i * sz + v.cells.toList.length)).take ((i + 1) * sz) = cells.toList.take (i * sz) ++ v.cells.toList:=by
      rw [List.take_append_of_le_length (by simp;omega),List.take_of_length_le (by simp;omega)]
    have hB:(cells.toList.take (i * sz) ++ v.cells.toList ++ cells.toList.drop (i * sz + v.cells.toList.length)).drop ((i + 1 + parts.length) * sz) = cells.toList.drop ((i + (parts.length + 1)) * sz):=by
      have hl12:(cells.toList.take (i * sz) ++ v.cells.toList).length = i * sz + sz:=by simp;omega
      rw [e2,List.drop_append,List.drop_eq_nil_of_le (by omega),List.nil_append,List.drop_drop,hl12,hvl]
      congr 1
      omega
    rw [hA,hB]
    simp [List.append_assoc]
theorem flat_map_cells {parts:List (Nat × V)} {ps:List (Nat × Value)} {sz:Nat} (hl:parts.length = ps.length) (hsz:∀ p ∈ parts,p.2.cells.length = sz ∧ p.2.cells.all V.one = true)
    (hp:∀ (i:Nat) (p:Nat × V) (q:Nat × Value),parts[i]? = some p → ps[i]? = some q → p.1 = q.1 ∧ Rep w s p.2 q.2) :
    parts.map (·.1) = ps.map (·.1) ∧ (∀ q ∈ ps,q.2.cells.size = sz ∧ ∀ z ∈ q.2.cells.toList,z.oneCell' = true) ∧ RepL w s (flat (parts.map (·.2))) (ps.flatMap (fun p => p.2.cells.toList)):=by
  induction parts generalizing ps with
  | nil =>
    cases ps with
    | nil => exact ⟨rfl,by simp,by simp [RepL]⟩
    | cons q ps => simp at hl
  | cons p parts ih =>
    cases ps with
    | nil => simp at hl
    | cons q ps =>
      obtain ⟨h1,h2,h3⟩:=ih (ps:=ps) (by simpa using hl) (fun p hp' => hsz p (by simp [hp'])) (fun i p q h1 h2 => hp (i + 1) p q h1 h2)
      obtain ⟨he,hr⟩:=hp 0 p q rfl rfl
      obtain ⟨hs1,hs2⟩:=hsz p (by simp)
      obtain ⟨xs,hxs,hlen,hrep,hone⟩:=cells_rep hr hs2
      refine ⟨by simp [he,h1],fun q' hq' => ?_, ?_⟩
      · rcases List.mem_cons.1 hq' with rfl | hq'
        · refine ⟨by have:q'.2.cells.size = xs.length:=by rw [← hxs];simp
                     omega,by rw [hxs];exact hone⟩
        · exact h2 q' hq'
      · simp only [List.map_cons,flat_cons,List.flatMap_cons]
        rw [hxs]
        refine ⟨by rw [List.length_append,List.length_append,hlen,h3.1],fun j c x hc hx => ?_⟩
        by_cases hj:j < p.2.cells.length
        · rw [List.getElem?_append_left hj] at hc
          rw [List.getElem?_append_left (by omega)] at hx
          exact hrep j c x hc hx
        · rw [List.getElem?_append_right (by omega)] at hc
          rw [List.getElem?_append_right (by omega)] at hx
          rw [← hlen] at hx
          exact h3.2 _ c x hc hx
theorem new_row (hs:Sim P gl w s) (e:TypeId) {sz cap:Nat} {es:List V} {xs:List Value} {arr:Array Value} (hpos:0 < es.length) (hsz:∀ el ∈ es,el.cells.length = sz) (h1:∀ c ∈ flat es,c.one = true) (hcap:es.length ≤ cap) (hmax:cap ≤ maxLen)
    (harr:arr.size = cap * sz) (htake:arr.toList.take (es.length * sz) = xs) (hr:∀ (j:Nat) (c:V) (x:Value),(flat es)[j]? = some c → xs[j]? = some x → PR w s.K c x) :
    let w':=w.alloc (.cells arr e)
    let v:=Value.slice (some ⟨w.heap.size,0,none⟩) es.length cap
    let s':=S.push { s with K:=fun b o => s.K b o ∨ (b = w.heap.size ∧ o < es.length * sz) } (.tok e sz es.length) (.row v)
    Sim P gl w' s' ∧ Evolve w s w' s' ∧ Rep w' s' (.sl es (some s.st.length)) v:=by
  intro w' v s'
  have hE0:=Evolve.alloc hs.wf (w:=w) (.cells arr e) (fun o => o < es.length * sz)
  have hS0:=hs.alloc (.cells arr e) (fun o => o < es.length * sz)
  have hle:es.length * sz ≤ arr.size:=by rw [harr];exact Nat.mul_le_mul_right _ hcap
  have hxl:xs.length = es.length * sz:=by rw [← htake];simp;omega
  have hown:w'.ownsRow 0 e sz v es.length xs:=⟨hxl,.inr ⟨w.heap.size,cap,arr,rfl,Nat.zero_le _,heap_alloc_new w _,hcap,hmax,harr,htake⟩⟩
  have hpr:=pr_of_own (K:=fun b o => s.K b o ∨ (b = w.heap.size ∧ o < es.length * sz)) hown rfl hpos hsz h1 (fun b j hb hj => by simp only [v,Value.ownBlock,Option.some.injEq] at hb;exact .inr ⟨hb.symm,hj⟩) (fun j c u hc hu => (hr j c u hc hu).keeps hE0.keeps)
  refine ⟨hS0.push (fun i b _ hb hi => ?_) (fun b j _ hb hwr hk => ?_) (fun b _ hb hf => ?_) (fun _ _ _ => by simp) ⟨xs,hown⟩ (fun b _ hb => by simp only [Gh.at,v,Value.ownBlock,Option.some.injEq] at hb;subst hb;exact (show s.late _ from hs.late (Nat.le_refl _))),
    Evolve.push hs.wf hE0 _ _ (fun _ b hb => by simp only [Gh.at,v,Value.ownBlock,Option.some.injEq] at hb;omega) (fun _ _ _ => by simp),.tok _ _ _ hpr ⟨.tok e sz es.length,by simp [s',S.push],Nat.le_refl _,fun _ => .inl (by simp [s',S.push,hs.len]),hsz⟩⟩
  · simp only [Gh.at,v,Value.ownBlock,Option.some.injEq] at hb
    subst hb
    obtain ⟨o',g',ho',hlv,hg',hat'⟩:=hi
    have:=hs.mine_lt ⟨i,o',g',ho',hlv,hg',hat'⟩
    omega
  · simp only [Gh.at,v,Value.ownBlock,Option.some.injEq] at hb
    subst hb
    simp only [O.writes] at hwr
    rcases hk with hk | ⟨_,hk⟩
    · have:=hs.kin _ _ hk
      omega
    · omega
  · simp only [Gh.at,v,Value.ownBlock,Option.some.injEq] at hb
    subst hb
    have:=(hs.fgn _ hf).1
    omega
theorem new_arr (hs:Sim P gl w s) (e:TypeId) {sz cap:Nat} {es:List V} {xs:List Value} {arr:Array Value} (hsz:∀ el ∈ es,el.cells.length = sz) (h1:∀ c ∈ flat es,c.one = true) (hcap:es.length ≤ cap) (hmax:cap ≤ maxLen)
    (harr:arr.size = cap * sz) (htake:arr.toList.take (es.length * sz) = xs) (hr:∀ (j:Nat) (c:V) (x:Value),(flat es)[j]? = some c → xs[j]? = some x → PR w s.K c x) :
    let w':=w.alloc (.cells arr e)
    let v:=Value.slice (some ⟨w.heap.size,0,none⟩) es.length cap
    let s':=s.push (.arr e sz 0 es) (.row v)
    Sim P gl w' s' ∧ Evolve w s w' s' ∧ Rep w' s' (.ref s.st.length 0) v:=by
  intro w' v s'
  have hE0:=Evolve.alloc hs.wf (w:=w) (.cells arr e) (fun _ => False)
  have hS0:=hs.alloc (.cells arr e) (fun _ => False)
  have hK:(fun b o => s.K b o ∨ (b = w.heap.size ∧ False)) = s.K:=by funext b o;simp
  rw [hK] at hE0 hS0
  have hle:es.length * sz ≤ arr.size:=by rw [harr];exact Nat.mul_le_mul_right _ hcap
  have hxl:xs.length = es.length * sz:=by rw [← htake];simp;omega
  have hown:w'.ownsRow 0 e sz v es.length xs:=⟨hxl,.inr ⟨w.heap.size,cap,arr,rfl,Nat.zero_le _,heap_alloc_new w _,hcap,hmax,harr,htake⟩⟩
  refine ⟨hS0.push (fun i b _ hb hi => ?_) (fun b j _ hb hwr hk => ?_) (fun b _ hb hf => ?_) (fun _ _ _ => by simp) ⟨xs,hown,hsz,h1,by rw [hxl,flat_length hsz],fun j c y hc hy => (hr j c y hc hy).keeps hE0.keeps⟩ (fun b _ hb => by simp only [Gh.at,v,Value.ownBlock,Option.some.injEq] at hb;subst hb;exact (show s.late _ from hs.late (Nat.le_refl _))),
    Evolve.push hs.wf hE0 _ _ (fun _ b hb => by simp only [Gh.at,v,Value.ownBlock,Option.some.injEq] at hb;omega) (fun _ _ _ => by simp),.ref _ _ _ rfl ⟨.arr e sz 0 es,by simp [s',S.push],Nat.le_refl _,fun _ => .inl (by simp [s',S.push,hs.len])⟩⟩
  · simp only [Gh.at,v,Value.ownBlock,Option.some.injEq] at hb
    subst hb
    obtain ⟨o',g',ho',hlv,hg',hat'⟩:=hi
    have:=hs.mine_lt ⟨i,o',g',ho',hlv,hg',hat'⟩
    omega
  · simp only [Gh.at,v,Value.ownBlock,Option.some.injEq] at hb
    subst hb
    have:=hs.kin _ _ hk
    omega
  · simp only [Gh.at,v,Value.ownBlock,Option.some.injEq] at hb
    subst hb
    have:=(hs.fgn _ hf).1
    omega
def makeP (P:Program) (t:TypeId) (st:List O) (x y:V) (K:V → List O → Prop):Prop :=
  match elt P t with
  | some (e,sz,by_) => match zro P e,x,y with
    | some [z],.int _ l,.int _ c => sz = 1 ∧ l = c ∧ 0 ≤ l ∧ (by_:Int) * l ≤ 281474976710656 ∧ l ≤ 9223372036854775807 ∧ z.one = true ∧ z.bare = z ∧ PureV z ∧ K (.ref st.length 0) (st ++ [.arr e 1 0 (List.replicate l.toNat z)])
    | _,_,_ => False
  | none => False
theorem make_sound {a b:V} {x y:Value} (hs:Sim P gl w s) {t:TypeId} {K:V → List O → Prop} (hx:Rep w s a x) (hy:Rep w s b y) (h:makeP P t s.st a b K) :
    ∃ v z w' s',(Instr.makeSlice t x y).run P w = .ok z w' ∧ Sim P gl w' s' ∧ Evolve w s w' s' ∧ Rep w' s' v z ∧ K v s'.st:=by
  unfold makeP at h
  cases he:elt P t with
  | none => simp [he] at h
  | some o =>
    obtain ⟨e,sz,by_⟩:=o
    rw [he] at h
    simp only at h
    cases hz:zro P e with
    | none => simp [hz] at h
    | some zs =>
      rw [hz] at h
      match zs,a,b with
      | [z],.int k l,.int k' c =>
        obtain ⟨rfl,rfl,h0,hby,h63,h1,hbare,hpure,hK⟩:=h
        cases hx.int_inv
        cases hy.int_inv
        obtain ⟨hu,i,zv,hi,hzv,hsize,hbytes,hzs,_⟩:=elt_runs he
        obtain ⟨i',zv',hi',hzv',hrep⟩:=zro_rep (w:=w) (s:=s) hz
        rw [hi] at hi'
        simp only [Option.some.injEq] at hi'
        subst hi'
        rw [hzv] at hzv'
        simp only [Option.some.injEq] at hzv'
        subst hzv'
        obtain ⟨z0,hz0⟩:∃ z0,zv.cells.toList = [z0]:=List.length_eq_one_iff.1 (by rw [← hrep.1];rfl)
        have hzr:PR w s.K z z0:=by
          have:=hpure w s z0 (hrep.2 0 z z0 rfl (by rw [hz0];rfl))
          rwa [hbare] at this
        have hrun:=run_make (P:=P) w t e i zv hu hi hzv k k' l l h0 (Int.le_refl _) (by rw [hbytes];exact hby) h63
        rw [hsize,Nat.mul_one] at hrun
        have hmc:(madeCells zv.cells l.toNat).toList = List.replicate l.toNat z0:=by
          have hzc:zv.cells = #[z0]:=by apply Array.ext';simpa using hz0
          rw [hzc]
          simp only [madeCells,Array.toList_map,Array.toList_range]
          apply List.ext_getElem
          · simp
          · intro j h1 h2
            simp [Nat.mod_one]
        have hcells:z.cells = [z]:=(V.bare_one h1).2.2
        have hfl:flat (List.replicate l.toNat z) = List.replicate l.toNat z:=by
          generalize l.toNat = n
          induction n with
          | zero => rfl
          | succ n ih => rw [List.replicate_succ,flat_cons,ih,hcells];rfl
        have hmax:l.toNat ≤ maxLen:=by simp only [maxLen];omega
        obtain ⟨k1,k2,k3⟩:=new_arr hs e (sz:=1) (cap:=l.toNat) (es:=List.replicate l.toNat z) (xs:=List.replicate l.toNat z0) (arr:=madeCells zv.cells l.toNat)
          (fun el hel => by rw [List.eq_of_mem_replicate hel,hcells];rfl) (fun c hc => by rw [hfl] at hc;rw [List.eq_of_mem_replicate hc];exact h1) (by simp) hmax (by rw [size_madeCells,Nat.mul_one]) (by rw [hmc];simp)
          (fun j c x hc hx => by rw [hfl] at hc;rw [List.eq_of_mem_replicate (List.mem_iff_getElem?.2 ⟨j,hc⟩),List.eq_of_mem_replicate (List.mem_iff_getElem?.2 ⟨j,hx⟩)];exact hzr)
        rw [List.length_replicate] at k3
        simp only [List.length_replicate] at k1 k2
        exact ⟨_,_,_,_,hrun,k1,k2,k3,hK⟩
      | [],_,_ => exact h.elim
      | _ :: _ :: _,_,_ => exact h.elim
theorem range'_zero (n:Nat):List.range' 0 n = List.range n:=(List.range_eq_range').symm
theorem buildSlice_sound (hs:Sim P gl w s) {t:TypeId} {len:Nat} {parts:List (Nat × V)} {ps:Array (Nat × Value)} {K:V → List O → Prop} (hl:parts.length = ps.size)
    (hp:∀ (i:Nat) (p:Nat × V) (q:Nat × Value),parts[i]? = some p → ps[i]? = some q → p.1 = q.1 ∧ Rep w s p.2 q.2) (h:buildSliceP P t s.st len parts K) (hlen:len = 0 → ps.size = 0) :
    ∃ v z w' s',(Instr.buildSlice t len ps).run P w = .ok z w' ∧ Sim P gl w' s' ∧ Evolve w s w' s' ∧ Rep w' s' v z ∧ K v s'.st:=by
  unfold buildSliceP at h
  cases he:elt P t with
  | none => simp [he] at h
  | some o =>
    obtain ⟨e,sz,by_⟩:=o
    rw [he] at h
    simp only at h
    obtain ⟨hu,hsize⟩:=elt_lay he w
    obtain ⟨_,i,z,hi,hz,rfl,_,hzs,hpos⟩:=elt_runs he
    split at h
    · rename_i h0
      subst h0
      have hps:ps = #[]:=Array.eq_empty_of_size_eq_zero (hlen rfl)
      subst hps
      have hrun:(Instr.buildSlice t 0 #[]).run P w = .ok (.slice (some ⟨w.heap.size,0,none⟩) 0 0) (w.alloc (.cells #[] e)):=by
        simp [Instr.buildSlice,run_underlying hu,hsize,Instr.fill,newRow,Array.range_zero']
      have hK:(fun b o => s.K b o ∨ (b = w.heap.size ∧ False)) = s.K:=by funext b o;simp
      have hE:=Evolve.alloc hs.wf (w:=w) (.cells #[] e) (fun _ => False)
      have hS:=hs.alloc (.cells #[] e) (fun _ => False)
      rw [hK] at hE hS
      exact ⟨_,_,_,_,hrun,hS,hE,.pure _ _ (.nil _),h⟩
    · rename_i h0
      obtain ⟨hr,hbig,hparts,hK⟩:=h
      have hpl:parts.length = len:=by have:=congrArg List.length hr;simpa using this
      obtain ⟨hm,hq,hrep⟩:=flat_map_cells (ps:=ps.toList) (by simpa using hl) (fun p hp => ⟨(hparts p hp).1,(hparts p hp).2.1⟩) (fun i p q h1 h2 => hp i p q h1 (by simpa using h2))
      have hpsl:ps.toList.length = len:=by simp;omega
      let zero:Array Value:=(Array.range (len * i.size)).map (z.cells[· % z.cells.size]!)
      have hzsz:zero.size = len * i.size:=by simp [zero]
      have hfill:=flat_fill (sz:=i.size) ps.toList 0 zero (by rw [← hm,hr,hpsl,range'_zero]) (fun q hq' => (hq q hq').1) (by rw [hpsl,Nat.zero_add,hzsz];exact Nat.le_refl _)
      rw [hpsl,Nat.zero_mul,List.take_zero,List.nil_append,Nat.zero_add,← hzsz,List.drop_of_length_le (by simp),List.append_nil] at hfill
      have hne:len * i.size ≠ 0:=Nat.ne_of_gt (Nat.mul_pos (by omega) hpos)
      have hrun:(Instr.buildSlice t len ps).run P w = .ok (.slice (some ⟨w.heap.size,0,none⟩) len len) (w.alloc (.cells (ps.toList.flatMap (fun p => p.2.cells.toList)).toArray e)):=by
        have hn:¬ (16777216 < len * i.size):=by omega
        simp only [Instr.buildSlice,Sem.run_bind,run_underlying hu,Result.andThen_ok,hsize,Sem.run_ite,show (2 ^ 24:Nat) = 16777216 from rfl,gt_iff_lt,if_neg hn,if_neg hne,zeroValue,typeInfo,run_program,hi,hz,Sem.run_pure]
        have hfill':Instr.fill (fun k => some (k * i.size,i.size)) ((Array.range (len * i.size)).map (z.cells[· % z.cells.size]!)) ps.toList = some (ps.toList.flatMap (fun p => p.2.cells.toList)).toArray:=hfill
        simp only [hfill',newRow,Sem.run_bind,run_newObj,Result.andThen_ok,Sem.run_pure]
        rfl
      have hsl:∀ el ∈ parts.map (·.2.bare),el.cells.length = i.size:=fun el hel => by
        obtain ⟨p,hp,rfl⟩:=List.mem_map.1 hel
        rw [V.bare_cells,List.length_map]
        exact (hparts p hp).1
      have hfb:flat (parts.map (·.2.bare)) = (flat (parts.map (·.2))).map V.bare:=by
        clear hr hpl hm hrep hsl hK hparts hp hl
        induction parts with
        | nil => rfl
        | cons p parts ih => simp only [List.map_cons,flat_cons,List.map_append,V.bare_cells,ih]
      have hlenM:(parts.map (·.2.bare)).length = len:=by simp [hpl]
      obtain ⟨hS,hE,hR⟩:=new_row hs e (sz:=i.size) (cap:=len) (es:=parts.map (·.2.bare)) (xs:=ps.toList.flatMap (fun p => p.2.cells.toList)) (arr:=(ps.toList.flatMap (fun p => p.2.cells.toList)).toArray) (by omega) hsl
        (fun c hc => by
          obtain ⟨el,hel,hc⟩:=List.mem_flatMap.1 hc
          obtain ⟨p,hp,rfl⟩:=List.mem_map.1 hel
          exact List.all_eq_true.1 (V.bare_all (hparts p hp).2.1) c hc)
        (by omega) (by simp only [maxLen];have:=Nat.le_mul_of_pos_right len hpos;omega)
        (by
          have h1:=hrep.1
          have h2:=flat_length hsl
          rw [hfb,List.length_map,h1] at h2
          simp only [List.size_toArray]
          rw [h2,hlenM])
        (by
          have h1:=hrep.1
          have h2:=flat_length hsl
          rw [hfb,List.length_map,h1] at h2
          rw [List.take_of_length_le (by show (ps.toList.flatMap _).length ≤ _;rw [h2];exact Nat.le_refl _)])
        (fun j c x hc hx => by
          rw [hfb,List.getElem?_map] at hc
          cases hcj:(flat (parts.map (·.2)))[j]? with
          | none => simp [hcj] at hc
          | some c0 =>
            simp only [hcj,Option.map_some,Option.some.injEq] at hc
            subst hc
            have hx':=hrep.2 j c0 x hcj hx
            obtain ⟨el,hel,hc0⟩:=List.mem_flatMap.1 (List.mem_iff_getElem?.2 ⟨j,hcj⟩)
            obtain ⟨p,hp',rfl⟩:=List.mem_map.1 hel
            exact (hparts p hp').2.2 c0 hc0 w s x hx')
      rw [hlenM] at hS hE hR
      exact ⟨_,_,_,_,hrun,hS,hE,hR,hK⟩
end
end Go.Duo

namespace Go.Duo
open Go
section
variable {P:Program} {gl:Nat → V} {w w':World} {s s':S}
def keyEq:V → V → Bool
  | .int _ a,.int _ b => decide (a = b)
  | .str a,.str b => decide (a = b)
  | .bool a,.bool b => decide (a = b)
  | _,_ => false
def keyD:TypeDesc → V → Bool
  | .int k,.int k' _ => decide (k = k')
  | .string,.str _ => true
  | .bool,.bool _ => true
  | _,_ => false
def idxK (k:V):List V → Option Nat
  | [] => none
  | x :: xs => if keyEq k x = true then some 0 else (idxK k xs).map (· + 1)
theorem idxK_lt {k:V}:∀ {ks:List V} {i:Nat},idxK k ks = some i → i < ks.length
  | [],i,h => by cases h
  | x :: xs,i,h => by
    unfold idxK at h
    split at h
    · cases h;simp
    · simp only [Option.map_eq_some_iff] at h
      obtain ⟨j,hj,rfl⟩:=h
      have:=idxK_lt hj
      simp;omega
theorem idxK_eq {k:V}:∀ {ks:List V} {i:Nat} {c:V},idxK k ks = some i → ks[i]? = some c → keyEq k c = true
  | [],i,c,h,_ => by cases h
  | x :: xs,i,c,h,hc => by
    unfold idxK at h
    split at h
    · cases h;simp at hc;subst hc;assumption
    · simp only [Option.map_eq_some_iff] at h
      obtain ⟨j,hj,rfl⟩:=h
      exact idxK_eq hj (by simpa using hc)
theorem sameNow_eq {d:TypeDesc} {K:Nat → Nat → Prop} {a b:V} {x y:Value} (ha:PR w K a x) (hb:PR w K b y) (hda:keyD d a = true) (hdb:keyD d b = true):Instr.sameNow d x y = some (keyEq a b):=by
  cases d <;> cases a <;> simp only [keyD,decide_eq_true_eq,Bool.false_eq_true] at hda <;> cases b <;> simp only [keyD,decide_eq_true_eq,Bool.false_eq_true] at hdb <;> cases ha <;> cases hb <;> simp only [Instr.sameNow,keyEq]
  · rename_i p q;cases p <;> cases q <;> rfl
  · subst hda;subst hdb
    rw [if_pos rfl]
    rename_i p q
    by_cases h:p = q <;> simp [h]
  · rename_i p q
    have hb:=MapKept.bytes_beq ⟨p.toArray⟩ ⟨q.toArray⟩
    by_cases h:p = q
    · subst h
      rw [hb.2 rfl,decide_eq_true rfl]
    · have h2:((⟨p.toArray⟩:ByteArray) == ⟨q.toArray⟩) = false:=Bool.eq_false_iff.2 (fun he => h (by simpa using hb.1 he))
      rw [h2,decide_eq_false h]
theorem findNow_eq {d:TypeDesc} {K:Nat → Nat → Prop} {k:V} {kv:Value} (hk:PR w K k kv) (hkd:keyD d k = true):∀ (ks:List V) (es:List MapEntry) (n:Nat),ks.length = es.length →
    (∀ (i:Nat) (c:V) (e:MapEntry),ks[i]? = some c → es[i]? = some e → PR w K c e.key) → (∀ c ∈ ks,keyD d c = true) →
    Instr.findNow d kv es n = some ((idxK k ks).bind fun i => (es[i]?).map fun e => (n + i,e.val))
  | [],[],n,_,_,_ => rfl
  | c :: ks,e :: es,n,hl,hr,hd => by
    have h1:=sameNow_eq hk (hr 0 c e rfl rfl) hkd (hd c (by simp))
    have ih:=findNow_eq hk hkd ks es (n + 1) (by simpa using hl) (fun i c' e' h h' => hr (i + 1) c' e' (by simpa using h) (by simpa using h')) (fun c' h => hd c' (by simp [h]))
    unfold Instr.findNow idxK
    rw [h1]
    cases hq:keyEq k c
    · simp only [Bool.false_eq_true,if_false]
      rw [ih]
      cases idxK k ks with
      | none => rfl
      | some i => simp [Nat.add_assoc,Nat.add_comm 1 i]
    · simp
def V.ofZero:Value → V
  | .agg cs => .agg (cs.toList.map V.ofConst)
  | v => V.ofConst v
def zroV (P:Program) (t:TypeId):Option V:=((P.info? t).bind (·.zero)).map V.ofZero
theorem zroV_rep {t:TypeId} {z:V} (h:zroV P t = some z):∃ zv,(∀ w,(zeroValue t).run P w = .ok zv w) ∧ ∀ w s,Rep w s z zv:=by
  unfold zroV at h
  cases hi:P.info? t with
  | none => simp [hi] at h
  | some i =>
    cases hz:i.zero with
    | none => simp [hi,hz] at h
    | some zv =>
      simp only [hi,hz,Option.bind_some,Option.map_some,Option.some.injEq] at h
      subst h
      refine ⟨zv,fun w => by simp [zeroValue,typeInfo,hi,hz],fun w s => ?_⟩
      cases zv with
      | agg cs =>
        refine .agg _ cs.toList (by simp) fun j c x hc hx => ?_
        rw [List.getElem?_map,hx] at hc
        simp only [Option.map_some,Option.some.injEq] at hc
        subst hc
        exact V.ofConst_rep x
      | _ => simp only [V.ofZero];exact V.ofConst_rep _
def mapV (st:List O):V → Option (List V × List V)
  | .pmap ks vs => some (ks,vs)
  | .map id => match st[id]? with
    | some (.map ks vs) => some (ks,vs)
    | _ => none
  | _ => none
def mapT (P:Program) (t:TypeId):Option (TypeDesc × TypeId) :=
  match P.underlying t with
  | some (.map kt et) => (P.underlying kt).map fun d => (d,et)
  | _ => none
theorem mapV_rep {x:V} {xv:Value} {ks vs:List V} (hs:Sim P gl w s) (hx:Rep w s x xv) (h:mapV s.st x = some (ks,vs)):∃ r es clock,xv = .map (some r) ∧ w.heap[r]? = some (.map es clock) ∧ ks.length = es.size ∧ vs.length = es.size ∧
    (∀ (i:Nat) (c:V) (e:MapEntry),ks[i]? = some c → es[i]? = some e → PR w s.K c e.key) ∧ (∀ (i:Nat) (c:V) (e:MapEntry),vs[i]? = some c → es[i]? = some e → Rep w s c e.val):=by
  unfold mapV at h
  split at h
  · simp only [Option.some.injEq,Prod.mk.injEq] at h
    obtain ⟨rfl,rfl⟩:=h
    cases hx with
    | pure _ _ h =>
      cases h with
      | pmap _ _ r es clock hb hK hk hv h1 h2 => exact ⟨r,es,clock,rfl,hb,hk,hv,h1,fun i c e hc he => .pure _ _ (h2 i c e hc he)⟩
  · rename_i id
    split at h
    · rename_i ks' vs' hst
      simp only [Option.some.injEq,Prod.mk.injEq] at h
      obtain ⟨rfl,rfl⟩:=h
      cases hx with
      | pure _ _ h => cases h
      | map _ b hb =>
        have hob:=hs.obj id _ _ hst hb
        simp only [ObjOK] at hob
        obtain ⟨es,clock,h1,h2,h3,h4,h5⟩:=hob
        exact ⟨b,es,clock,rfl,h1,h2,h3,h4,h5⟩
    · cases h
  · cases h
theorem checkKey_ok {d:TypeDesc} {kt:TypeId} {k:V} {kv:Value} {K:Nat → Nat → Prop} (hu:P.underlying kt = some d) (hk:PR w K k kv) (hd:keyD d k = true) (empty:Bool) (w0:World):(Instr.checkKey empty 10000 kt kv).run P w0 = .ok () w0:=by
  suffices h:∀ n,(Instr.checkKey empty (n + 1) kt kv).run P w0 = .ok () w0 from h 9999
  intro n
  cases d <;> cases k <;> simp only [keyD,Bool.false_eq_true] at hd <;> cases hk <;> simp [Instr.checkKey,run_underlying hu]
def keyP (d:TypeDesc) (ks:List V) (k:V):Bool:=keyD d k && ks.all (keyD d)
theorem findKey_ok {d:TypeDesc} {kt:TypeId} {k:V} {kv:Value} {K:Nat → Nat → Prop} {ks:List V} {es:Array MapEntry} (hu:P.underlying kt = some d) (hk:PR w K k kv) (hd:keyP d ks k = true) (hl:ks.length = es.size)
    (hr:∀ (i:Nat) (c:V) (e:MapEntry),ks[i]? = some c → es[i]? = some e → PR w K c e.key) (w0:World) :
    (Instr.findKey kt kv es.toList).run P w0 = .ok ((idxK k ks).bind fun i => (es[i]?).map fun e => (i,e.val)) w0:=by
  simp only [keyP,Bool.and_eq_true,List.all_eq_true] at hd
  have:=findNow_eq hk hd.1 ks es.toList 0 (by simpa using hl) (fun i c e h h' => hr i c e h (by simpa using h')) hd.2
  simp only [Instr.findKey,Sem.run_bind,run_underlying hu,Result.andThen_ok,this]
  simp
def getK (k:V) (ks vs:List V) (z:V):V :=
  match idxK k ks with
  | some i => vs.getD i .undef
  | none => z
def hasK (k:V) (ks:List V):Bool:=(idxK k ks).isSome
def lookE (P:Program) (st:List O) (t:TypeId) (x k:V) (ok:Bool):Option V :=
  match mapT P t,mapV st x with
  | some (d,et),some (ks,vs) => match keyP d ks k,zroV P et with
    | true,some z => some (match ok with
      | true => .tuple [getK k ks vs z,.bool (hasK k ks)]
      | false => getK k ks vs z)
    | _,_ => none
  | _,_ => none
def lookP (P:Program) (st:List O) (t:TypeId) (x k:V) (ok:Bool) (K:V → Prop):Prop :=
  match lookE P st t x k ok with
  | some v => K v
  | none => False
theorem PR_key {d:TypeDesc} {k:V} {kv:Value} (hk:Rep w s k kv) (hd:keyD d k = true):PR w s.K k kv:=by
  cases d <;> cases k <;> simp only [keyD,Bool.false_eq_true] at hd <;> cases hk <;> assumption
theorem mapT_inv {t:TypeId} {d:TypeDesc} {et:TypeId} (h:mapT P t = some (d,et)):∃ kt,P.underlying t = some (.map kt et) ∧ P.underlying kt = some d:=by
  unfold mapT at h
  split at h
  · rename_i kt et' hu
    simp only [Option.map_eq_some_iff,Prod.mk.injEq] at h
    obtain ⟨d',hd,rfl,rfl⟩:=h
    exact ⟨kt,hu,hd⟩
  · cases h
theorem pair_rep {a:V} {x:Value} (h:Rep w s a x) (b:Bool):Rep w s (.tuple [a,.bool b]) (.tuple #[x,.bool b]):=by
  refine .tuple [a,.bool b] [x,.bool b] rfl fun i c y hc hy => ?_
  match i with
  | 0 => cases hc;cases hy;exact h
  | 1 => cases hc;cases hy;exact .pure _ _ (.bool b)
  | i + 2 => simp at hc
theorem look_sound {a b:V} {x y:Value} (hs:Sim P gl w s) {t:TypeId} {ok:Bool} {K:V → Prop} (hx:Rep w s a x) (hy:Rep w s b y) (h:lookP P s.st t a b ok K) :
    ∃ v z,(Instr.lookup t x y ok).run P w = .ok z w ∧ Rep w s v z ∧ K v:=by
  unfold lookP at h
  cases hv:lookE P s.st t a b ok with
  | none => rw [hv] at h;exact h.elim
  | some v =>
    rw [hv] at h
    unfold lookE at hv
    split at hv <;> try (cases hv;done)
    rename_i d et ks vs ht hm
    split at hv <;> try (cases hv;done)
    rename_i z hkp hz
    simp only [Option.some.injEq] at hv
    obtain ⟨kt,hu,hd⟩:=mapT_inv ht
    obtain ⟨r,es,clock,rfl,hb,hk,hvl,h1,h2⟩:=mapV_rep hs hx hm
    have hkd:keyD d b = true:=by simp only [keyP,Bool.and_eq_true] at hkp;exact hkp.1
    have hpk:=PR_key hy hkd
    have e1:=checkKey_ok hd hpk hkd es.isEmpty w
    have e2:=findKey_ok hd hpk hkp hk h1 w
    have e0:(getObj r).run P w = .ok (.map es clock) w:=by simp [getObj,Sem.run,hb]
    have key:∃ zv b',Rep w s (getK b ks vs z) zv ∧ hasK b ks = b' ∧ (Instr.lookup t (.map (some r)) y ok).run P w = .ok (if ok then .tuple #[zv,.bool b'] else zv) w:=by
      cases hi:idxK b ks with
      | some i =>
        rw [hi] at e2
        have hlt:=idxK_lt hi
        have he:es[i]? = some es[i]:=Array.getElem?_eq_getElem (by omega)
        have hvi:vs[i]? = some vs[i]:=List.getElem?_eq_getElem (by omega)
        simp only [Option.bind_some,he,Option.map_some] at e2
        refine ⟨es[i].val,true, ?_,by simp [hasK,hi], ?_⟩
        · have hg:getK b ks vs z = vs[i]:=by simp [getK,hi,List.getD_eq_getElem?_getD,hvi]
          rw [hg]
          exact h2 i _ _ hvi he
        · simp only [Instr.lookup,Sem.run_bind,run_underlying hu,Result.andThen_ok,e0,e1,e2,Sem.run_pure]
      | none =>
        rw [hi] at e2
        obtain ⟨zv,hzr,hzz⟩:=zroV_rep hz
        refine ⟨zv,false, ?_,by simp [hasK,hi], ?_⟩
        · have hg:getK b ks vs z = z:=by simp [getK,hi]
          rw [hg]
          exact hzz _ _
        · simp only [Option.bind_none] at e2
          simp only [Instr.lookup,Sem.run_bind,run_underlying hu,Result.andThen_ok,e0,e1,e2,Sem.run_pure,hzr]
    obtain ⟨zv,b',k1,k2,k3⟩:=key
    refine ⟨v,_,k3, ?_,h⟩
    subst hv
    cases ok
    · exact k1
    · rw [k2];exact pair_rep k1 b'
theorem new_map {gl:Nat → V} (hs:Sim P gl w s) {ks vs:List V} {es:Array MapEntry} (clock:Nat) (hk:ks.length = es.size) (hv:vs.length = es.size)
    (h1:∀ (i:Nat) (c:V) (e:MapEntry),ks[i]? = some c → es[i]? = some e → PR w s.K c e.key) (h2:∀ (i:Nat) (c:V) (e:MapEntry),vs[i]? = some c → es[i]? = some e → Rep w s c e.val) :
    let w':=w.alloc (.map es clock)
    let s':=s.push (.map ks vs) (.blk w.heap.size)
    Sim P gl w' s' ∧ Evolve w s w' s' ∧ Rep w' s' (.map s.st.length) (.map (some w.heap.size)):=by
  intro w' s'
  have hE0:=Evolve.alloc hs.wf (w:=w) (.map es clock) (fun _ => False)
  have hS0:=hs.alloc (.map es clock) (fun _ => False)
  have hK:(fun b o => s.K b o ∨ (b = w.heap.size ∧ False)) = s.K:=by funext b o;simp
  rw [hK] at hE0 hS0
  have hE:Evolve w s w' s':=Evolve.push hs.wf hE0 (.map ks vs) (.blk w.heap.size) (fun _ b hb => by simp only [Gh.at,Option.some.injEq] at hb;omega) (fun _ _ _ => by simp)
  have hlt:∀ i,¬ s.own i w.heap.size:=fun i hi => by have:=hs.mine_lt ⟨i,hi⟩;omega
  have hok:ObjOK P w' s' (.map ks vs) (.blk w.heap.size):=⟨es,clock,heap_alloc_new w _,hk,hv,fun i c e hc he => (h1 i c e hc he).keeps hE0.keeps,fun j c z hc hz => ((h2 j c z hc hz).evolve hE0 hs.wf).push⟩
  refine ⟨hS0.push (fun i b _ hb hi => ?_) (fun b x _ hb _ hk => ?_) (fun b _ hb hf => ?_) (fun _ _ _ => by simp) hok (fun b _ hb => by simp only [Gh.at,Option.some.injEq] at hb;subst hb;exact (show s.late _ from hs.late (Nat.le_refl _))),hE,.map _ _ (by simp [s',S.push,hs.len])⟩
  · simp only [Gh.at,Option.some.injEq] at hb
    subst hb
    exact hlt i hi
  · simp only [Gh.at,Option.some.injEq] at hb
    subst hb
    have:=hs.kin _ _ hk
    omega
  · simp only [Gh.at,Option.some.injEq] at hb
    subst hb
    have:=(hs.fgn _ hf).1
    omega
theorem turn_map (h:Sim P gl w s) {i b:Nat} {ks vs ks' vs':List V} {es es':Array MapEntry} {clock clock':Nat} (ho:s.st[i]? = some (.map ks vs)) (hg:s.g[i]? = some (.blk b)) (hb:w.heap[b]? = some (.map es clock))
    (hk:ks'.length = es'.size) (hv:vs'.length = es'.size) (h1:∀ (i:Nat) (c:V) (e:MapEntry),ks'[i]? = some c → es'[i]? = some e → PR w s.K c e.key) (h2:∀ (i:Nat) (c:V) (e:MapEntry),vs'[i]? = some c → es'[i]? = some e → Rep w s c e.val) :
    let w':World:={ w with heap:=w.heap.setIfInBounds b (.map es' clock') }
    let s':=s.turn s.K i (.map ks' vs') (.blk b)
    Evolve w s w' s' ∧ Sim P gl w' s':=by
  intro w' s'
  have hlt:b < w.heap.size:=(Array.getElem?_eq_some_iff.1 hb).1
  have hnk:∀ x,¬ s.K b x:=fun x => h.kout i b x _ ⟨_,_,ho,rfl,hg,rfl⟩ ho trivial
  have hheap:∀ k,k ≠ b → w'.heap[k]? = w.heap[k]?:=fun k hk => by
    show (w.heap.setIfInBounds b _)[k]? = _
    simp [Ne.symm hk]
  refine turn h ho hg rfl rfl rfl rfl (by simp [w']) (fun k hk hne => hheap k (fun e => hne (by subst e;rfl))) ⟨fun _ _ hk => hk,fun k o x hk hx => ?_,fun k es c hk hx => ?_,fun k o n hk hx => ?_⟩ (fun _ _ hk => .inl hk)
    (fun k o hk => by have:=h.kin k o hk;simp [w'];omega) ⟨rfl,.inr ⟨_,_,rfl⟩⟩ rfl (fun k x hk _ => ?_) (fun hE => ?_)
  · have hkb:k ≠ b:=fun e => hnk o (e ▸ hk)
    rw [World.cell?_of_block (w:=w) (hheap k hkb)]
    exact hx
  · have hkb:k ≠ b:=fun e => hnk 0 (e ▸ hk)
    rw [hheap k hkb]
    exact hx
  · have hkb:k ≠ b:=fun e => hnk o (e ▸ hk)
    exact hx.same (hheap k hkb)
  · simp only [Gh.at,Option.some.injEq] at hk
    subst hk
    exact hnk x
  · exact ⟨es',clock',by simp [w',hlt],hk,hv,fun i c e hc he => (h1 i c e hc he).keeps hE.keeps,fun i c e hc he => (h2 i c e hc he).evolve hE h.wf⟩
def ownM (st:List O):V → Option (Nat × List V × List V)
  | .map id => match st[id]? with
    | some (.map ks vs) => some (id,ks,vs)
    | _ => none
  | _ => none
def setK (k v:V) (ks vs:List V):O :=
  match idxK k ks with
  | some i => .map ks (vs.set i v)
  | none => .map (ks ++ [k]) (vs ++ [v])
def delK (k:V) (ks vs:List V):O :=
  match idxK k ks with
  | some i => .map (ks.eraseIdx i) (vs.eraseIdx i)
  | none => .map ks vs
theorem ownM_rep {x:V} {xv:Value} {id:Nat} {ks vs:List V} (hs:Sim P gl w s) (hx:Rep w s x xv) (h:ownM s.st x = some (id,ks,vs)):∃ r es clock,xv = .map (some r) ∧ s.st[id]? = some (.map ks vs) ∧ s.g[id]? = some (.blk r) ∧ w.heap[r]? = some (.map es clock) ∧ ks.length = es.size ∧ vs.length = es.size ∧
    (∀ (i:Nat) (c:V) (e:MapEntry),ks[i]? = some c → es[i]? = some e → PR w s.K c e.key) ∧ (∀ (i:Nat) (c:V) (e:MapEntry),vs[i]? = some c → es[i]? = some e → Rep w s c e.val):=by
  unfold ownM at h
  split at h
  · rename_i id'
    split at h
    · rename_i ks' vs' hst
      simp only [Option.some.injEq,Prod.mk.injEq] at h
      obtain ⟨rfl,rfl,rfl⟩:=h
      cases hx with
      | pure _ _ h => cases h
      | map _ b hb =>
        have hob:=hs.obj id' _ _ hst hb
        simp only [ObjOK] at hob
        obtain ⟨es,clock,h1,h2,h3,h4,h5⟩:=hob
        exact ⟨b,es,clock,rfl,hst,hb,h1,h2,h3,h4,h5⟩
    · cases h
  · cases h
def setE (P:Program) (st:List O) (t:TypeId) (x k v:V):Option (List O) :=
  match mapT P t,ownM st x with
  | some (d,_),some (id,ks,vs) => match keyP d ks k with
    | true => some (st.set id (setK k v ks vs))
    | false => none
  | _,_ => none
def setP (P:Program) (st:List O) (t:TypeId) (x k v:V) (K:List O → Prop):Prop :=
  match setE P st t x k v with
  | some st' => K st'
  | none => False
def delE (P:Program) (st:List O) (t:TypeId) (x k:V):Option (List O) :=
  match mapT P t,ownM st x with
  | some (d,_),some (id,ks,vs) => match keyP d ks k with
    | true => some (st.set id (delK k ks vs))
    | false => none
  | _,_ => none
def delP (P:Program) (st:List O) (t:TypeId) (x k:V) (K:List O → Prop):Prop :=
  match delE P st t x k with
  | some st' => K st'
  | none => False
theorem keyEq_PR {d:TypeDesc} {K:Nat → Nat → Prop} {a b:V} {x y:Value} (ha:PR w K a x) (hb:PR w K b y) (hda:keyD d a = true) (hdb:keyD d b = true) (h:keyEq a b = true):x = y:=by
  cases d <;> cases a <;> simp only [keyD,decide_eq_true_eq,Bool.false_eq_true] at hda <;> cases b <;> simp only [keyD,decide_eq_true_eq,Bool.false_eq_true] at hdb <;> cases ha <;> cases hb <;> simp_all [keyEq]
theorem stays {x:Value} {d:TypeDesc} {K:Nat → Nat → Prop} {a:V} (ha:PR w K a x) (hd:keyD d a = true) (w0:World):(Instr.keyThatStays x x).run P w0 = .ok x w0:=by
  have:Instr.sameBits 10000 x x = true:=by
    suffices h:∀ n,Instr.sameBits (n + 1) x x = true from h 9999
    intro n
    cases d <;> cases a <;> simp only [keyD,decide_eq_true_eq,Bool.false_eq_true] at hd <;> cases ha <;> simp [Instr.sameBits]
    exact (MapKept.bytes_beq _ _).2 rfl
  simp [Instr.keyThatStays,this]
theorem set_sound {a b c:V} {x y z:Value} (hs:Sim P gl w s) {t:TypeId} {K:List O → Prop} (hx:Rep w s a x) (hy:Rep w s b y) (hz:Rep w s c z) (h:setP P s.st t a b c K) :
    ∃ w' s',(Instr.mapUpdate t x y z).run P w = .ok () w' ∧ Sim P gl w' s' ∧ Evolve w s w' s' ∧ K s'.st:=by
  unfold setP at h
  cases hv:setE P s.st t a b c with
  | none => rw [hv] at h;exact h.elim
  | some st' =>
    rw [hv] at h
    unfold setE at hv
    split at hv <;> try (cases hv;done)
    rename_i d et id ks vs ht hm
    split at hv <;> try (cases hv;done)
    rename_i hkp
    simp only [Option.some.injEq] at hv
    subst hv
    obtain ⟨kt,hu,hd⟩:=mapT_inv ht
    obtain ⟨r,es,clock,rfl,ho,hg,hb,hk,hv,h1,h2⟩:=ownM_rep hs hx hm
    have hkd:keyD d b = true:=by simp only [keyP,Bool.and_eq_true] at hkp;exact hkp.1
    have hpk:=PR_key hy hkd
    have e1:=checkKey_ok hd hpk hkd false w
    have e2:=findKey_ok hd hpk hkp hk h1 w
    have e0:(getObj r).run P w = .ok (.map es clock) w:=by simp [getObj,Sem.run,hb]
    have e3:∀ o,(setObj r o).run P w = .ok () { w with heap:=w.heap.setIfInBounds r o }:=fun o => by simp [setObj,Sem.run,hb]
    unfold setK at h
    cases hi:idxK b ks with
    | some i =>
      rw [hi] at h e2
      simp only at h
      have hlt:=idxK_lt hi
      have he:es[i]? = some es[i]:=Array.getElem?_eq_getElem (by omega)
      simp only [Option.bind_some,he,Option.map_some] at e2
      have hki:ks[i]? = some ks[i]:=List.getElem?_eq_getElem hlt
      have hkk:es[i].key = y:=by
        have hall:=hkp
        simp only [keyP,Bool.and_eq_true,List.all_eq_true] at hall
        exact (keyEq_PR hpk (h1 i _ _ hki he) hkd (hall.2 _ (List.getElem_mem hlt)) (idxK_eq hi hki)).symm
      have e4:=stays (P:=P) hpk hkd w
      obtain ⟨hE,hS⟩:=turn_map hs ho hg hb (ks':=ks) (vs':=vs.set i c) (es':=es.modify i fun e => { e with key:=y,val:=z }) (clock':=clock) (by simpa using hk) (by simpa using hv)
        (fun j c' e hc hej => by
          rw [Array.getElem?_modify] at hej
          split at hej
          · rename_i hij;subst hij
            rw [he] at hej
            simp only [Option.map_some,Option.some.injEq] at hej
            subst hej
            have:=h1 _ _ _ hc he
            rw [hkk] at this
            exact this
          · exact h1 j c' e hc hej)
        (fun j c' e hc hej => by
          rw [Array.getElem?_modify] at hej
          rw [List.getElem?_set] at hc
          split at hej
          · rename_i hij;subst hij
            rw [he] at hej
            simp only [Option.map_some,Option.some.injEq] at hej
            subst hej
            rw [if_pos rfl,if_pos (by omega)] at hc
            simp only [Option.some.injEq] at hc
            subst hc
            exact hz
          · rename_i hij
            rw [if_neg hij] at hc
            exact h2 j c' e hc hej)
      refine ⟨_,_, ?_,hS,hE,h⟩
      simp only [Instr.mapUpdate,Sem.run_bind,run_underlying hu,Result.andThen_ok,e0,e1,e2,Sem.run_pure]
      rw [he]
      simp only [Option.map_some,Option.getD_some,hkk,e4,Result.andThen_ok,e3]
    | none =>
      rw [hi] at h e2
      simp only at h
      simp only [Option.bind_none] at e2
      obtain ⟨hE,hS⟩:=turn_map hs ho hg hb (ks':=ks ++ [b]) (vs':=vs ++ [c]) (es':=es.push { key:=y,val:=z,born:=clock }) (clock':=clock + 1) (by simp [hk]) (by simp [hv])
        (fun j c' e hc hej => by
          rw [Array.getElem?_push] at hej
          split at hej
          · rename_i hj;subst hj
            rw [← hk,List.getElem?_append_right (Nat.le_refl _)] at hc
            simp at hc hej
            subst hc;subst hej
            exact hpk
          · rename_i hj
            have:j < es.size:=by have:=(Array.getElem?_eq_some_iff.1 hej).1;omega
            rw [List.getElem?_append_left (by omega)] at hc
            exact h1 j c' e hc hej)
        (fun j c' e hc hej => by
          rw [Array.getElem?_push] at hej
          split at hej
          · rename_i hj;subst hj
            rw [← hv,List.getElem?_append_right (Nat.le_refl _)] at hc
            simp at hc hej
            subst hc;subst hej
            exact hz
          · rename_i hj
            have:j < es.size:=by have:=(Array.getElem?_eq_some_iff.1 hej).1;omega
            rw [List.getElem?_append_left (by omega)] at hc
            exact h2 j c' e hc hej)
      refine ⟨_,_, ?_,hS,hE,h⟩
      simp only [Instr.mapUpdate,Sem.run_bind,run_underlying hu,Result.andThen_ok,e0,e1,e2,e3]
theorem eraseIdx_at {α:Type} {l:List α} {i j:Nat} {x:α} (h:(l.eraseIdx i)[j]? = some x):l[if j < i then j else j + 1]? = some x:=by
  rw [List.getElem?_eraseIdx] at h
  split at h <;> rename_i hj <;> simp [hj,h]
theorem del_sound {a b:V} {x y:Value} {ty:TypeId} (hs:Sim P gl w s) {t u:TypeId} {K:List O → Prop} (hx:Rep w s a x) (hy:Rep w s b y) (h:delP P s.st t a b K) :
    ∃ w' s',(Builtin.delete_ #[t,u] ty #[x,y]).run P w = .ok (.tuple #[]) w' ∧ Sim P gl w' s' ∧ Evolve w s w' s' ∧ K s'.st:=by
  unfold delP at h
  cases hv:delE P s.st t a b with
  | none => rw [hv] at h;exact h.elim
  | some st' =>
    rw [hv] at h
    unfold delE at hv
    split at hv <;> try (cases hv;done)
    rename_i d et id ks vs ht hm
    split at hv <;> try (cases hv;done)
    rename_i hkp
    simp only [Option.some.injEq] at hv
    subst hv
    obtain ⟨kt,hu,hd⟩:=mapT_inv ht
    obtain ⟨r,es,clock,rfl,ho,hg,hb,hk,hv,h1,h2⟩:=ownM_rep hs hx hm
    have hkd:keyD d b = true:=by simp only [keyP,Bool.and_eq_true] at hkp;exact hkp.1
    have hpk:=PR_key hy hkd
    have e1:=checkKey_ok hd hpk hkd es.isEmpty w
    have e2:=findKey_ok hd hpk hkp hk h1 w
    have e0:(getObj r).run P w = .ok (.map es clock) w:=by simp [getObj,Sem.run,hb]
    have e3:∀ o,(setObj r o).run P w = .ok () { w with heap:=w.heap.setIfInBounds r o }:=fun o => by simp [setObj,Sem.run,hb]
    unfold delK at h
    cases hi:idxK b ks with
    | some i =>
      rw [hi] at h e2
      simp only at h
      have hlt:=idxK_lt hi
      have he:es[i]? = some es[i]:=Array.getElem?_eq_getElem (by omega)
      simp only [Option.bind_some,he,Option.map_some] at e2
      have hel:∀ (j:Nat) (e:MapEntry),(es.eraseIdxIfInBounds i)[j]? = some e → (es.toList.eraseIdx i)[j]? = some e:=fun j e hj => by
        unfold Array.eraseIdxIfInBounds at hj
        rw [dif_pos (by omega)] at hj
        rw [← Array.toList_eraseIdx,Array.getElem?_toList]
        exact hj
      have hes:(es.eraseIdxIfInBounds i).size = es.size - 1:=by
        unfold Array.eraseIdxIfInBounds
        rw [dif_pos (by omega)]
        simp
      obtain ⟨hE,hS⟩:=turn_map hs ho hg hb (ks':=ks.eraseIdx i) (vs':=vs.eraseIdx i) (es':=es.eraseIdxIfInBounds i) (clock':=clock) (by rw [List.length_eraseIdx_of_lt hlt,hes,hk]) (by rw [List.length_eraseIdx_of_lt (by omega),hes,hv])
        (fun j c' e hc hej => h1 _ c' e (eraseIdx_at hc) (by simpa using eraseIdx_at (hel j e hej)))
        (fun j c' e hc hej => h2 _ c' e (eraseIdx_at hc) (by simpa using eraseIdx_at (hel j e hej)))
      refine ⟨_,_, ?_,hS,hE,h⟩
      simp [Builtin.delete_,Sem.run_bind,run_underlying hu,Result.andThen_ok,e0,e1,e2,e3]
    | none =>
      rw [hi] at h e2
      simp only at h
      simp only [Option.bind_none] at e2
      obtain ⟨hE,hS⟩:=turn_map hs ho hg hb (ks':=ks) (vs':=vs) (es':=es) (clock':=clock) hk hv h1 h2
      refine ⟨_,_, ?_,hS,hE,h⟩
      simp [Builtin.delete_,Sem.run_bind,run_underlying hu,Result.andThen_ok,e0,e1,e2,e3]
end
end Go.Duo
