/-
  A part of the proof.
-/
import Derived.Test.YtdlcnihacaboiaaGreatDoorGG
import Derived.WalkKit
import GoSem.ClaimChange
import Derived.DataReads
set_option linter.all false
namespace Go.Duo
open Go
def mkV (P:Program) (t:TypeId) (vs:List V):V:=match P.underlying t with
  | some (.struct _) => .agg vs
  | some (.array _ _) => .agg vs
  | _ => vs.headD .undef
def Has (P:Program):Nat → TypeId → List V → Prop
  | 0,_,_ => False
  | fuel + 1,t,vs => match P.underlying t with
    | some .bool => ∃ b,vs = [.bool b]
    | some (.int k) => ∃ n,vs = [.int k n] ∧ (Lit.int k n).wf = true
    | some .string => ∃ s:List UInt8,vs = [.str s] ∧ s.length ≤ maxLen
    | some (.slice e) => ∃ es:List V,vs = [.sl es none] ∧ es.length ≤ maxLen ∧ ∀ el ∈ es,∃ cs,el = mkV P e cs ∧ cs.length = P.cellsOf e ∧ Has P fuel e cs
    | some (.struct fs) => vs.length = P.cellsOf t ∧ ∀ f ∈ fs.toList,Has P fuel f.type ((vs.drop f.offset).take (P.cellsOf f.type))
    | _ => False
def tiled (P:Program):Nat → List Field → Option Nat
  | off,[] => some off
  | off,f :: fs => if f.offset = off then tiled P (off + P.cellsOf f.type) fs else none
def flatT (P:Program):Nat → TypeId → Bool
  | 0,_ => true
  | fuel + 1,t => match P.underlying t with
    | some .bool => true
    | some (.int _) => true
    | some .string => true
    | some (.slice e) => flatT P fuel e && (match P.underlying e with | some (.struct _) => true | _ => P.cellsOf e == 1)
    | some (.struct fs) => (fs.toList.all fun f => flatT P fuel f.type) && tiled P 0 fs.toList == some (P.cellsOf t)
    | _ => false
section
variable {P:Program} {w:World} {K:Nat → Nat → Prop}
def PRL (w:World) (K:Nat → Nat → Prop) (vs:List V) (cs:List Value):Prop:=vs.length = cs.length ∧ ∀ (i:Nat) (c:V) (x:Value),vs[i]? = some c → cs[i]? = some x → PR w K c x ∧ c.one = true
theorem PRL.nil:PRL w K [] []:=⟨rfl,fun i c x h => by simp at h⟩
theorem PRL.one {v:V} {x:Value} (h:PR w K v x) (h1:v.one = true):PRL w K [v] [x]:=by
  refine ⟨rfl,fun i c y hc hy => ?_⟩
  cases i with
  | zero => simp at hc hy;subst hc hy;exact ⟨h,h1⟩
  | succ i => simp at hc
theorem PRL.app {vs us:List V} {cs ds:List Value} (h:PRL w K vs cs) (h2:PRL w K us ds):PRL w K (vs ++ us) (cs ++ ds):=by
  refine ⟨by rw [List.length_append,List.length_append,h.1,h2.1],fun i c x hc hx => ?_⟩
  by_cases hi:i < vs.length
  · rw [List.getElem?_append_left hi] at hc
    rw [List.getElem?_append_left (by rw [← h.1];exact hi)] at hx
    exact h.2 i c x hc hx
  · rw [List.getElem?_append_right (by omega)] at hc
    rw [List.getElem?_append_right (by rw [← h.1];omega),← h.1] at hx
    exact h2.2 _ c x hc hx
theorem PRL.agg {vs:List V} {cs:List Value} (h:PRL w K vs cs):PR w K (.agg vs) (.agg cs.toArray):=.agg vs cs h.1 fun i c x hc hx => (h.2 i c x hc hx).1
variable {H:Type} {enc:TypeId × Value → H} {base:Nat} {spare:Nat → Bool} {held:Bool}
theorem fieldsV {fuel:Nat} (ih:∀ (t:TypeId) (cs:List Value) (d:DataW H) (ps:List MemPlace),(∀ n,flatT P n t = true) → DataW.trod enc P w base spare held fuel t cs = some (d,ps) → ∃ vs,PRL w K vs cs ∧ Has P fuel t vs) (cs:List Value) :
    ∀ (fl:List Field) (off total:Nat) (xs:List (DataW H × List MemPlace)),tiled P off fl = some total → total ≤ cs.length → (∀ f ∈ fl,∀ n,flatT P n f.type = true) →
      (fl.mapM fun f => DataW.trod enc P w base spare held fuel f.type ((cs.drop f.offset).take (P.cellsOf f.type))) = some xs →
      off ≤ total ∧ ∃ vs,PRL w K vs ((cs.drop off).take (total - off)) ∧ ∀ f ∈ fl,off ≤ f.offset ∧ Has P fuel f.type ((vs.drop (f.offset - off)).take (P.cellsOf f.type)):=by
  intro fl
  induction fl with
  | nil =>
    intro off total xs ht _ _ _
    simp only [tiled,Option.some.injEq] at ht
    subst ht
    exact ⟨Nat.le_refl _,[],by rw [Nat.sub_self,List.take_zero];exact PRL.nil,by simp⟩
  | cons f fl ihl =>
    intro off total xs ht hle hfl hx
    simp only [tiled] at ht
    split at ht
    · rename_i ho
      rw [List.mapM_cons] at hx
      cases h1:DataW.trod enc P w base spare held fuel f.type ((cs.drop f.offset).take (P.cellsOf f.type)) with
      | none => rw [h1] at hx;simp at hx
      | some dp =>
        rw [h1] at hx
        cases h2:fl.mapM fun f => DataW.trod enc P w base spare held fuel f.type ((cs.drop f.offset).take (P.cellsOf f.type)) with
        | none => rw [h2] at hx;simp at hx
        | some ys =>
          obtain ⟨d,ps⟩:=dp
          obtain ⟨vs1,k1,k2⟩:=ih f.type _ d ps (hfl f (List.mem_cons_self ..)) h1
          obtain ⟨k3,vs2,k4,k5⟩:=ihl _ total ys ht hle (fun g hg => hfl g (List.mem_cons_of_mem _ hg)) h2
          rw [ho] at k1
          have hl1:vs1.length = P.cellsOf f.type:=by
            rw [k1.1,List.length_take,List.length_drop];omega
          refine ⟨by omega,vs1 ++ vs2, ?_,fun g hg => ?_⟩
          · have he:(cs.drop off).take (total - off) = (cs.drop off).take (P.cellsOf f.type) ++ ((cs.drop (off + P.cellsOf f.type)).take (total - (off + P.cellsOf f.type))):=by
              rw [← List.drop_drop,← List.take_add];congr 1;omega
            rw [he]
            exact k1.app k4
          · rcases List.mem_cons.1 hg with rfl | hg
            · refine ⟨by omega, ?_⟩
              rw [ho,Nat.sub_self,List.drop_zero,List.take_append_of_le_length (by omega),List.take_of_length_le (by omega)]
              exact k2
            · obtain ⟨q1,q2⟩:=k5 g hg
              refine ⟨by omega, ?_⟩
              have:(vs1 ++ vs2).drop (g.offset - off) = vs2.drop (g.offset - (off + P.cellsOf f.type)):=by
                rw [List.drop_append,List.drop_eq_nil_of_le (by omega),List.nil_append,hl1]
                congr 1;omega
              rw [this];exact q2
    · cases ht
theorem mapM_range_get {β:Type} {f:Nat → Option β} {n:Nat} {r:List β} (h:(List.range n).mapM f = some r):r.length = n ∧ ∀ i,i < n → ∃ y,f i = some y:=by
  have h1:=mapM_some_length h
  rw [List.length_range] at h1
  refine ⟨h1,fun i hi => ?_⟩
  have:=mapM_some_get h i i (by rw [List.getElem?_range hi])
  rw [List.getElem?_eq_getElem (by omega)] at this
  exact ⟨_,this⟩
theorem cells_get {a:Addr} {n:Nat} {cs:List Value} (h:w.cells? base a n = some cs):cs.length = n ∧ ∀ j,j < n → ∃ x,cs[j]? = some x ∧ w.cell? (a.add j) = some x:=by
  unfold World.cells? at h
  split at h
  · have h1:=mapM_some_length h
    rw [List.length_range] at h1
    refine ⟨h1,fun j hj => ?_⟩
    have:=mapM_some_get h j j (by rw [List.getElem?_range hj])
    rw [List.getElem?_eq_getElem (by omega)] at this
    exact ⟨_,List.getElem?_eq_getElem (by omega),this⟩
  · cases h
theorem cell_spot {a:Addr} {x:Value} (h:w.cell? a = some x):a.spot = none ∧ a.block < w.heap.size:=by
  unfold World.cell? at h
  split at h
  · rename_i c _ _ hb
    refine ⟨?_,(Array.getElem?_eq_some_iff.1 hb).1⟩
    cases hs:a.spot with
    | none => rfl
    | some k => rw [hs] at h;simp at h
  · cases h
theorem mkV_cells {t:TypeId} {vs:List V} (h1:vs.length = P.cellsOf t) (hf:(match P.underlying t with | some (.struct _) => true | _ => P.cellsOf t == 1) = true) (hone:∀ c ∈ vs,c.one = true):(mkV P t vs).cells = vs:=by
  unfold mkV
  have single:P.cellsOf t = 1 → (vs.headD V.undef).cells = vs:=fun h => by
    match vs,h1.trans h with
    | [v],_ => exact (V.bare_one (hone v (by simp))).2.2
  cases hu:P.underlying t with
  | none => rw [hu] at hf;exact single (by simpa using hf)
  | some d =>
    rw [hu] at hf
    cases d <;> first | rfl | exact single (by simpa using hf)
theorem trodV (hK:∀ b o,b < w.heap.size → K b o):∀ (fuel:Nat) (t:TypeId) (cs:List Value) (d:DataW H) (ps:List MemPlace),(∀ n,flatT P n t = true) → DataW.trod enc P w base spare held fuel t cs = some (d,ps) → ∃ vs,PRL w K vs cs ∧ Has P fuel t vs:=by
  intro fuel
  induction fuel with
  | zero => intro t cs d ps _ h;simp [DataW.trod] at h
  | succ fuel ih =>
    intro t cs d ps hflat h
    have hf1:=fun n => hflat (n + 1)
    simp only [flatT] at hf1
    unfold DataW.trod at h
    simp only [Has]
    cases hu:P.underlying t with
    | none => have:=hf1 0;rw [hu] at this;simp at this
    | some D =>
      rw [hu] at h hf1
      cases D <;> try (have:=hf1 0;simp at this;done)
      case bool =>
        rcases cs with _ | ⟨c,_ | ⟨c2,cs⟩⟩ <;> try (simp at h;done)
        cases c <;> try (simp at h;done)
        exact ⟨_,PRL.one (.bool _) rfl,_,rfl⟩
      case int k =>
        rcases cs with _ | ⟨c,_ | ⟨c2,cs⟩⟩ <;> try (simp at h;done)
        cases c <;> try (simp at h;done)
        simp only at h
        split at h
        · rename_i hk
          obtain ⟨rfl,hwf⟩:=hk
          exact ⟨_,PRL.one (.int _ _) rfl,_,rfl,hwf⟩
        · cases h
      case string =>
        rcases cs with _ | ⟨c,_ | ⟨c2,cs⟩⟩ <;> try (simp at h;done)
        cases c <;> try (simp at h;done)
        rename_i sb
        simp only at h
        split at h
        · rename_i hk
          refine ⟨[.str sb.data.toList],PRL.one ?_ rfl,_,rfl,by simpa using hk⟩
          have:=PR.str (w:=w) (K:=K) sb.data.toList
          simpa using this
        · cases h
      case struct fs =>
        simp only at h
        split at h
        · rename_i hl
          cases hm:fs.toList.mapM fun f => DataW.trod enc P w base spare held fuel f.type ((cs.drop f.offset).take (P.cellsOf f.type)) with
          | none => rw [hm] at h;simp at h
          | some xs =>
            have hfl:∀ f ∈ fs.toList,∀ n,flatT P n f.type = true:=fun f hf n => by
              have:=hf1 n
              simp only [Bool.and_eq_true,List.all_eq_true] at this
              exact this.1 f hf
            have htl:tiled P 0 fs.toList = some (P.cellsOf t):=by
              have:=hf1 0
              simp only [Bool.and_eq_true,beq_iff_eq] at this
              exact this.2
            obtain ⟨_,vs,h1,h2⟩:=fieldsV (K:=K) ih cs fs.toList 0 (P.cellsOf t) xs htl (by omega) hfl hm
            rw [List.drop_zero,Nat.sub_zero,List.take_of_length_le (by omega)] at h1
            exact ⟨vs,h1,by rw [h1.1];exact hl,fun f hf => by have:=(h2 f hf).2;rwa [Nat.sub_zero] at this⟩
        · cases h
      case slice e =>
        have hfe:∀ n,flatT P n e = true:=fun n => by
          have:=hf1 n
          simp only [Bool.and_eq_true] at this
          exact this.1
        have hce:(match P.underlying e with | some (.struct _) => true | _ => P.cellsOf e == 1) = true:=by
          have:=hf1 0
          simp only [Bool.and_eq_true] at this
          exact this.2
        rcases cs with _ | ⟨c,_ | ⟨c2,cs⟩⟩ <;> try (simp at h;done)
        cases c <;> try (simp at h;done)
        rename_i ad len cap
        cases ad with
        | none =>
          have hz:len = 0 ∧ cap = 0:=by
            cases len <;> cases cap <;> simp at h <;> exact ⟨rfl,rfl⟩
          obtain ⟨rfl,rfl⟩:=hz
          exact ⟨_,PRL.one (PR.nil_sl none) rfl,[],rfl,Nat.zero_le _,by simp⟩
        | some a =>
          simp only at h
          split at h
          · rename_i hb
            obtain ⟨_,hlc,hcm⟩:=hb
            cases hm:(List.range len).mapM fun i => (w.cells? base (a.add (i * P.cellsOf e)) (P.cellsOf e)).bind (DataW.trod enc P w base spare held fuel e) with
            | none => rw [hm] at h;simp at h
            | some elems =>
              obtain ⟨_,hall⟩:=mapM_range_get hm
              have key:∀ i,i < len → ∃ vs:List V,vs.length = P.cellsOf e ∧ Has P fuel e vs ∧ (∀ c ∈ vs,c.one = true) ∧ ∀ (j:Nat) (c:V),vs[j]? = some c → ∃ x,w.cell? (a.add (i * P.cellsOf e + j)) = some x ∧ PR w K c x:=fun i hi => by
                obtain ⟨⟨d',ps'⟩,hy⟩:=hall i hi
                cases hcs:w.cells? base (a.add (i * P.cellsOf e)) (P.cellsOf e) with
                | none => rw [hcs] at hy;simp at hy
                | some cs' =>
                  rw [hcs] at hy
                  obtain ⟨vs,h1,h2⟩:=ih e cs' d' ps' hfe hy
                  obtain ⟨g1,g2⟩:=cells_get hcs
                  refine ⟨vs,h1.1.trans g1,h2,fun c hc => ?_,fun j c hj => ?_⟩
                  · obtain ⟨j,hj,rfl⟩:=List.mem_iff_getElem.1 hc
                    exact (h1.2 j _ (cs'[j]'(by rw [← h1.1];exact hj)) (List.getElem?_eq_getElem hj) (List.getElem?_eq_getElem _)).2
                  · have hjl:=(List.getElem?_eq_some_iff.1 hj).1
                    obtain ⟨x,hx,hcell⟩:=g2 j (by rw [← g1,← h1.1];exact hjl)
                    have ha:(a.add (i * P.cellsOf e)).add j = a.add (i * P.cellsOf e + j):=by
                      unfold Addr.add
                      by_cases h0:i * P.cellsOf e = 0
                      · simp [h0]
                      · rw [if_neg h0]
                        by_cases hj0:j = 0
                        · simp [hj0,h0]
                        · simp [hj0,h0,Nat.add_assoc]
                    rw [ha] at hcell
                    exact ⟨x,hcell,(h1.2 j c x hj hx).1⟩
              let g:Nat → List V:=fun i => if hi:i < len then Classical.choose (key i hi) else []
              have hg:∀ i,i < len → (g i).length = P.cellsOf e ∧ Has P fuel e (g i) ∧ (∀ c ∈ g i,c.one = true) ∧ ∀ (j:Nat) (c:V),(g i)[j]? = some c → ∃ x,w.cell? (a.add (i * P.cellsOf e + j)) = some x ∧ PR w K c x:=fun i hi => by
                show (dite _ _ _:List V).length = _ ∧ _
                simp only [g,dif_pos hi]
                exact Classical.choose_spec (key i hi)
              have hcl:∀ i,i < len → (mkV P e (g i)).cells = g i:=fun i hi => mkV_cells (hg i hi).1 hce (hg i hi).2.2.1
              obtain ⟨es,hes⟩:∃ es,(List.range len).map (fun i => mkV P e (g i)) = es:=⟨_,rfl⟩
              have hel:es.length = len:=by rw [← hes];simp
              have hei:∀ (i:Nat) (hi:i < es.length),es[i] = mkV P e (g i):=fun i hi => by subst hes;simp
              have hsz:∀ el ∈ es,el.cells.length = P.cellsOf e:=fun el hel' => by
                obtain ⟨i,hi,rfl⟩:=List.mem_iff_getElem.1 hel'
                rw [hei i hi,hcl i (by omega)];exact (hg i (by omega)).1
              have hfl:∀ (J:Nat) (c:V),(flat es)[J]? = some c → c.one = true ∧ ∃ x,w.cell? (a.add J) = some x ∧ PR w K c x:=fun J c hJ => by
                have hJl:=(List.getElem?_eq_some_iff.1 hJ).1
                rw [flat_length hsz] at hJl
                have hpos:0 < P.cellsOf e:=by
                  rcases Nat.eq_zero_or_pos (P.cellsOf e) with h0 | h0
                  · rw [h0] at hJl;omega
                  · exact h0
                have hi:J / P.cellsOf e < es.length:=Nat.div_lt_of_lt_mul (by rw [Nat.mul_comm];exact hJl)
                have hj:J % P.cellsOf e < P.cellsOf e:=Nat.mod_lt _ hpos
                have hJe:J / P.cellsOf e * P.cellsOf e + J % P.cellsOf e = J:=by rw [Nat.mul_comm];exact Nat.div_add_mod _ _
                have hlen:(es[J / P.cellsOf e]).cells.length = P.cellsOf e:=hsz _ (List.getElem_mem hi)
                have hat:=flat_at hsz hi (j:=J % P.cellsOf e) (List.getElem?_eq_getElem (by rw [hlen];exact hj))
                rw [hJe,hJ] at hat
                have hce':(es[J / P.cellsOf e]).cells = g (J / P.cellsOf e):=by rw [hei _ hi,hcl _ (by omega)]
                have hgj:(g (J / P.cellsOf e))[J % P.cellsOf e]? = some c:=by
                  rw [← hce',List.getElem?_eq_getElem (by rw [hlen];exact hj)];exact hat.symm
                obtain ⟨_,_,q1,q2⟩:=hg (J / P.cellsOf e) (by omega)
                obtain ⟨x,hx,hp⟩:=q2 _ c hgj
                rw [hJe] at hx
                exact ⟨q1 c (List.mem_iff_getElem?.2 ⟨_,hgj⟩),x,hx,hp⟩
              refine ⟨[.sl es none],PRL.one ?_ rfl,es,rfl,by omega,fun el hel' => ?_⟩
              · have:=PR.sl (w:=w) (K:=K) es (some a) cap (P.cellsOf e) (fun J => (w.cell? (a.add J)).getD undef) (by omega) hcm hsz (fun c hc => ?_) (fun J c hJ => ?_) (fun J c hJ => ?_)
                · rwa [hel] at this
                · obtain ⟨J,hJ⟩:=List.mem_iff_getElem?.1 hc
                  exact (hfl J c hJ).1
                · obtain ⟨_,x,hx,_⟩:=hfl J c hJ
                  obtain ⟨hs,hb⟩:=cell_spot hx
                  have hJ0:(flat es)[0]? = some ((flat es)[0]'(by have:=(List.getElem?_eq_some_iff.1 hJ).1;omega)):=List.getElem?_eq_getElem _
                  obtain ⟨_,x0,hx0,_⟩:=hfl 0 _ hJ0
                  have ha0:a.add 0 = a:=rfl
                  rw [ha0] at hx0
                  obtain ⟨hs0,_⟩:=cell_spot hx0
                  obtain ⟨ab,ao,asp⟩:=a
                  simp only at hs0
                  subst hs0
                  have ha:Addr.add ⟨ab,ao,none⟩ J = ⟨ab,ao + J,none⟩:=by
                    unfold Addr.add
                    split
                    · rename_i h0;subst h0;rfl
                    · rfl
                  rw [ha] at hx hb ⊢
                  exact ⟨ab,ao,rfl,by rw [hx];rfl,hK _ _ hb⟩
                · obtain ⟨_,x,hx,hp⟩:=hfl J c hJ
                  rw [hx];exact hp
              · obtain ⟨i,hi,rfl⟩:=List.mem_iff_getElem.1 hel'
                rw [hei i hi]
                exact ⟨g i,rfl,(hg i (by omega)).1,(hg i (by omega)).2.1⟩
          · cases h
end
end Go.Duo

namespace Go.Duo
open Go
end Go.Duo
