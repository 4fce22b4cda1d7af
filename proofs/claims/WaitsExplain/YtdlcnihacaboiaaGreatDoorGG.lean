/-
  A part of the proof.
-/
import Derived.Test.YtdlcnihacaboiaaGreatDoorGF
import Derived.Lib.ParseIntB
import Derived.Lib.ItoaMem
import Derived.Lib.ItoaLen
import Derived.RangeFuncIn
set_option linter.all false
namespace Go.Duo
open Go
end Go.Duo

namespace Go.Duo
open Go
section
variable {P:Program} {gl:Nat → V} {r:Option Nat} {e:Env} {st:List O} {w:World} {s:S} {Q:Exit → Env → List O → Prop}
def V.fa (i ver:Nat) (es:List V):V → V
  | .agg xs => .agg (faL i ver es xs)
  | .tuple xs => .tuple (faL i ver es xs)
  | .func fn a b => .func fn (faL i ver es a) (faL i ver es b)
  | .iface t v => .iface t (v.fa i ver es)
  | .ref j v => if j = i then (if v = ver then .sl es none else .undef) else .ref j v
  | .rptr j v o => if j = i then .undef else .rptr j v o
  | v => v
where faL (i ver:Nat) (es:List V):List V → List V
  | [] => []
  | x :: xs => x.fa i ver es :: faL i ver es xs
theorem faL_eq (i ver:Nat) (es xs:List V):V.fa.faL i ver es xs = xs.map (V.fa i ver es):=by
  induction xs with
  | nil => rfl
  | cons x xs ih => simp [V.fa.faL,ih]
def O.fa (i ver:Nat) (es:List V):O → O
  | .box t xs => .box t (xs.map (V.fa i ver es))
  | .map ks vs => .map ks (vs.map (V.fa i ver es))
  | o => o
theorem fa_map {i ver:Nat} {es ds:List V} {xs:List Value} {R:V → Value → Prop} (ih:∀ (j:Nat) (c:V) (x:Value),ds[j]? = some c → xs[j]? = some x → R (c.fa i ver es) x):∀ (j:Nat) (c:V) (x:Value),(ds.map (V.fa i ver es))[j]? = some c → xs[j]? = some x → R c x:=fun j c x hc hx => by
  rw [List.getElem?_map] at hc
  cases hj:ds[j]? with
  | none => simp [hj] at hc
  | some c0 => simp only [hj,Option.map_some,Option.some.injEq] at hc;subst hc;exact ih j c0 x hj hx
theorem PR.fa {K:Nat → Nat → Prop} {i ver:Nat} {es:List V} {v:V} {x:Value} (h:PR w K v x):v.fa i ver es = v:=by
  have mapid:∀ {ds:List V} {xs:List Value},ds.length = xs.length → (∀ (j:Nat) (c:V) (x:Value),ds[j]? = some c → xs[j]? = some x → c.fa i ver es = c) → ds.map (V.fa i ver es) = ds:=fun {ds xs} hl ih => by
    apply List.ext_getElem (by simp)
    intro j h1 h2
    rw [List.getElem_map]
    exact ih j _ (xs[j]'(by omega)) (List.getElem?_eq_getElem h2) (List.getElem?_eq_getElem _)
  induction h with
  | agg ds xs hl _ ih => simp only [V.fa,faL_eq,mapid hl ih]
  | tuple ds xs hl _ ih => simp only [V.fa,faL_eq,mapid hl ih]
  | func fn fs ds xs ys hl hl' _ _ ih ih' => simp only [V.fa,faL_eq,mapid hl ih,mapid hl' ih']
  | iface t v x _ ih => simp only [V.fa,ih]
  | _ => rfl
def S.fa0 (s:S) (i:Nat) (x:Value):S:={ s with K:=fun b' o => s.K b' o ∨ x.ownBlock = some b',st:=s.st.set i .dead }
def S.fa (s:S) (i ver:Nat) (es:List V) (x:Value):S:={ s.fa0 i x with st:=(s.st.set i .dead).map (O.fa i ver es) }
variable {i ver:Nat} {el:TypeId} {sz:Nat} {es:List V} {x:Value}
theorem keeps_fa0:Keeps w s.K w (s.fa0 i x).K:=⟨fun _ _ h => .inl h,fun _ _ _ _ h => h,fun _ _ _ _ h => h,fun _ _ _ _ h => h⟩
theorem Sim.fa0E (hs:Sim P gl w s) (ho:s.st[i]? = some (.arr el sz ver es)) (hg:s.g[i]? = some (.row x)):Evolve w s w (s.fa0 i x):=by
  have hR:=Evolve.refl (w:=w) hs.wf
  refine ⟨rfl,rfl,rfl,Nat.le_refl _,keeps_fa0,fun b' o h => ?_,fun _ _ _ _ => rfl,Nat.le_refl _,fun j o g hj hgj => ?_,fun j o g b' hj _ _ hgj _ => ?_,fun j xs k go hj hoj => ?_⟩
  · rcases h with h | h
    · exact .inl h
    · exact .inr (.inr (.inl ⟨i,_,_,ho,rfl,hg,h⟩))
  · by_cases hij:i = j
    · subst hij
      rw [ho] at hj
      rw [hg] at hgj
      simp only [Option.some.injEq] at hj hgj
      subst hj hgj
      exact ⟨.dead,_,by simp [S.fa0,(List.getElem?_eq_some_iff.1 ho).1],hg,.inl rfl⟩
    · obtain ⟨o',g',h1,h2,h3⟩:=hR.objs j o g hj hgj
      exact ⟨o',g',by simp only [S.fa0];rw [List.getElem?_set_ne hij];exact h1,h2,h3⟩
  · have:=(List.getElem?_eq_some_iff.1 hgj).1
    simp [S.fa0] at this
    omega
  · have:=(List.getElem?_eq_some_iff.1 hoj).1
    simp [S.fa0] at this
    have:=hs.len
    omega
theorem own_fa0 {j b':Nat} (h:(s.fa0 i x).own j b'):j ≠ i ∧ s.own j b':=by
  obtain ⟨o,g,ho,hl,hg,hat⟩:=h
  simp only [S.fa0] at ho hg
  rcases getElem?_set_cases ho with ⟨rfl,rfl,_⟩ | ⟨hne,ho⟩
  · cases hl
  · exact ⟨hne,o,g,ho,hl,hg,hat⟩
theorem Sim.fa0 (hs:Sim P gl w s) (ho:s.st[i]? = some (.arr el sz ver es)) (hg:s.g[i]? = some (.row x)):Sim P gl w (s.fa0 i x) where
  len:=by simp [S.fa0,hs.len]
  obj:=fun j o g hj hgj => by
    have hj':(s.st.set i .dead)[j]? = some o:=hj
    rcases getElem?_set_cases hj' with ⟨rfl,rfl,_⟩ | ⟨hne,hj'⟩
    · trivial
    · refine (hs.obj j o g hj' hgj).keep (hs.fa0E ho hg) hs.wf (fun _ _ _ => rfl) (fun l F J Jx xs k go hg' ho' => ⟨fun _ _ => rfl,fun b' o' hk => ?_,fun _ _ => rfl,fun b' o' hk => ?_⟩)
      · rcases hk with hk | hk
        · exact .inl hk
        · refine .inr ⟨?_,fun hF => (hs.fgn b' ⟨j,xs,k,l,go,F,J,Jx,by rw [hj',ho'],by rw [← hg'];exact hgj,hF⟩).2 ⟨i,_,_,ho,rfl,hg,hk⟩⟩
          have:=hs.obj j _ _ hj' hgj
          rw [ho',hg'] at this
          simp only [ObjOK] at this
          exact this.2.2.2 b' ⟨i,_,_,ho,rfl,hg,hk⟩
      · rcases hk with hk | hk
        · exact hs.kin b' o' hk
        · exact hs.mine_lt ⟨i,_,_,ho,rfl,hg,hk⟩
  inj:=fun j k b' hj hk => hs.inj j k b' (own_fa0 hj).2 (own_fa0 hk).2
  kout:=fun j b' o ob hj hob hwr hk => by
    obtain ⟨hne,hj'⟩:=own_fa0 hj
    have hob':(s.st.set i .dead)[j]? = some ob:=hob
    rcases getElem?_set_cases hob' with ⟨rfl,_⟩ | ⟨_,hob'⟩
    · exact hne rfl
    · rcases hk with hk | hk
      · exact hs.kout j b' o ob hj' hob' hwr hk
      · exact hne (hs.inj j i b' hj' ⟨_,_,ho,rfl,hg,hk⟩)
  kin:=fun b' o hk => by
    rcases hk with hk | hk
    · exact hs.kin b' o hk
    · exact hs.mine_lt ⟨i,_,_,ho,rfl,hg,hk⟩
  fgn:=fun b' hb => by
    obtain ⟨j,xs,k,l,go,F,J,Jx,hj,hgj,hF⟩:=hb
    have hj':(s.st.set i .dead)[j]? = some _:=hj
    rcases getElem?_set_cases hj' with ⟨_,h,_⟩ | ⟨_,hj'⟩
    · cases h
    · obtain ⟨h1,h2⟩:=hs.fgn b' ⟨j,xs,k,l,go,F,J,Jx,hj',hgj,hF⟩
      exact ⟨h1,fun ⟨m,hm⟩ => h2 ⟨m,(own_fa0 hm).2⟩⟩
  glob:=fun g => (hs.glob g).imp id fun k => globKeeps (K':=(s.fa0 i x).K) keeps_fa0 k
theorem fa_ref (hs:Sim P gl w s) (ho:s.st[i]? = some (.arr el sz ver es)) (hg:s.g[i]? = some (.row x)) {y:Value} (hx:Rep w s (.ref i ver) y):PR w (s.fa0 i x).K (.sl es none) y:=by
  obtain ⟨xs,hown,hsz,hone,hxl,hpr⟩:=hs.obj i _ _ ho hg
  have hx1:RefOK s i ver y:=by
    cases hx with
    | pure _ _ h => cases h
    | ref _ _ _ _ h => exact h
  obtain ⟨o',ho',hm⟩:=hx1
  rw [ho] at ho'
  simp only [Option.some.injEq] at ho'
  subst ho'
  rcases hm.2 rfl with h | ⟨rfl,a,rfl⟩
  · rw [hg] at h
    simp only [Option.some.injEq,Gh.row.injEq] at h
    subst h
    rcases Nat.eq_zero_or_pos es.length with h0 | h0
    · obtain rfl:=List.eq_nil_of_length_eq_zero h0
      rcases hown.2 with ⟨rfl,_⟩ | ⟨g,cap,cur,rfl,_,_,_,hcm,_⟩
      · exact PR.nil_sl none
      · exact .sl [] _ cap sz (fun _ => undef) (Nat.zero_le _) hcm (by simp) (by simp) (by simp) (by simp)
    · exact pr_of_own hown rfl h0 hsz hone (fun b j hb _ => .inr hb) (fun j c u hc hu => (hpr j c u hc hu).keeps keeps_fa0)
  · exact PR.nil_sl a
theorem fa_st {j:Nat} {o:O} (h:s.st[j]? = some o) (hj:j ≠ i):(s.fa i ver es x).st[j]? = some (o.fa i ver es):=by
  simp only [S.fa,List.getElem?_map]
  rw [List.getElem?_set_ne (fun e => hj e.symm),h]
  rfl
theorem fa_back {j:Nat} {o:O} (h:(s.fa i ver es x).st[j]? = some o):(j = i ∧ o = .dead) ∨ (j ≠ i ∧ ∃ o',s.st[j]? = some o' ∧ o = o'.fa i ver es):=by
  simp only [S.fa,List.getElem?_map,Option.map_eq_some_iff] at h
  obtain ⟨o',h1,rfl⟩:=h
  rcases getElem?_set_cases h1 with ⟨rfl,rfl,_⟩ | ⟨hne,h1⟩
  · exact .inl ⟨rfl,rfl⟩
  · exact .inr ⟨hne,o',h1,rfl⟩
theorem Rep.fa (hs:Sim P gl w s) (ho:s.st[i]? = some (.arr el sz ver es)) (hg:s.g[i]? = some (.row x)) {v:V} {y:Value} (hx:Rep w s v y):Rep w (s.fa i ver es x) (v.fa i ver es) y:=by
  have hk:Keeps w s.K w (s.fa i ver es x).K:=keeps_fa0 (i:=i)
  induction hx with
  | pure v x h => rw [h.fa];exact .pure _ _ (h.keeps hk)
  | undef x => exact .undef x
  | agg ds xs hl _ ih => simp only [V.fa,faL_eq];exact .agg _ xs (by simpa using hl) (fa_map (R:=Rep w (s.fa i ver es x)) ih)
  | tuple ds xs hl _ ih => simp only [V.fa,faL_eq];exact .tuple _ xs (by simpa using hl) (fa_map (R:=Rep w (s.fa i ver es x)) ih)
  | func fn fs ds xs ys hl hl' _ _ ih ih' => simp only [V.fa,faL_eq];exact .func fn _ _ xs ys (by simpa using hl) (by simpa using hl') (fa_map (R:=Rep w (s.fa i ver es x)) ih) (fa_map (R:=Rep w (s.fa i ver es x)) ih')
  | iface t v y _ ih => exact .iface t _ y ih
  | tok es' id y hpr ht =>
    refine .tok es' id y (hpr.keeps hk) ?_
    obtain ⟨o,ho',hm⟩:=ht
    by_cases hid:id = i
    · subst hid
      rw [ho] at ho'
      simp only [Option.some.injEq] at ho'
      subst ho'
      exact hm.elim
    · refine ⟨o.fa i ver es,fa_st ho' hid, ?_⟩
      cases o <;> exact hm
  | ref id v' y h1 ht =>
    simp only [V.fa]
    by_cases hid:id = i
    · subst hid
      rw [if_pos rfl]
      by_cases hv:v' = ver
      · subst hv
        rw [if_pos rfl]
        exact .pure _ _ (fa_ref hs ho hg (.ref id v' y h1 ht))
      · rw [if_neg hv]
        exact .undef _
    · rw [if_neg hid]
      obtain ⟨o,ho',hm⟩:=ht
      refine .ref id v' y h1 ⟨o.fa i ver es,fa_st ho' hid, ?_⟩
      cases o <;> exact hm
  | rptr id v' off y h1 ht =>
    simp only [V.fa]
    by_cases hid:id = i
    · rw [if_pos hid]
      exact .undef _
    · rw [if_neg hid]
      obtain ⟨o,ho',hm⟩:=ht
      refine .rptr id v' off y h1 ⟨o.fa i ver es,fa_st ho' hid, ?_⟩
      cases o <;> exact hm
  | ptr id off b' hb => exact .ptr id off b' hb
  | map id b' hb => exact .map id b' hb
  | yld id l F J Jx hb => exact .yld id l F J Jx hb
theorem O.fa_lives (i ver:Nat) (es:List V) (o:O):(o.fa i ver es).lives = o.lives ∧ ∀ y,(o.fa i ver es).writes y ↔ o.writes y:=by cases o <;> exact ⟨rfl,fun _ => Iff.rfl⟩
theorem own_fa {j b':Nat} (h:(s.fa i ver es x).own j b'):j ≠ i ∧ s.own j b':=by
  obtain ⟨o,g,ho,hl,hg,hat⟩:=h
  rcases fa_back ho with ⟨rfl,rfl⟩ | ⟨hne,o',ho',rfl⟩
  · cases hl
  · exact ⟨hne,o',g,ho',by rw [← (O.fa_lives i ver es o').1];exact hl,hg,hat⟩
theorem foreign_fa {b':Nat} (h:(s.fa i ver es x).foreign b'):s.foreign b':=by
  obtain ⟨j,xs,k,l,go,F,J,Jx,ho,hg,hF⟩:=h
  rcases fa_back ho with ⟨_,h⟩ | ⟨_,o',ho',he⟩
  · cases h
  · cases o' <;> simp only [O.fa] at he <;> cases he
    exact ⟨j,xs,k,l,go,F,J,Jx,ho',hg,hF⟩
theorem Evolve.fa {w0:World} {s0:S} (hl0:s0.g.length = s0.st.length) (hE:Evolve w0 s0 w s) (hs:Sim P gl w s) (ho:s.st[i]? = some (.arr el sz ver es)) (hg:s.g[i]? = some (.row x)):Evolve w0 s0 w (s.fa i ver es x):=by
  have hE':=hE.trans hl0 hs.len (hs.fa0E ho hg)
  refine ⟨hE'.os,hE'.tape,hE'.output,hE'.size,hE'.keeps,hE'.knew,hE'.block,hE'.len,fun j o g hj hgj => ?_,fun j o g b' hj hoj hlv hgj hat => ?_,fun j xs k go hj hoj => ?_⟩
  · obtain ⟨o1,g1,h1,h2,tr⟩:=hE'.objs j o g hj hgj
    refine ⟨o1.fa i ver es,g1, ?_,h2, ?_⟩
    · simp only [S.fa,List.getElem?_map]
      have:(s.st.set i .dead)[j]? = some o1:=h1
      rw [this]
      rfl
    · cases o with
      | box t' ds =>
        obtain ⟨rfl,rfl | ⟨ds',rfl,hc⟩⟩:=tr
        · exact ⟨rfl,.inl rfl⟩
        · exact ⟨rfl,.inr ⟨_,rfl,by simpa using hc⟩⟩
      | map ks vs =>
        obtain ⟨rfl,rfl | ⟨ks',vs',rfl⟩⟩:=tr
        · exact ⟨rfl,.inl rfl⟩
        · exact ⟨rfl,.inr ⟨_,_,rfl⟩⟩
      | tok e sz m =>
        rcases tr with rfl | ⟨m',rfl,tr⟩
        · exact .inl rfl
        · exact .inr ⟨m',rfl,tr⟩
      | arr e sz v es =>
        rcases tr with rfl | ⟨m',es',rfl,tr⟩
        · exact .inl rfl
        · exact .inr ⟨m',es',rfl,tr⟩
      | yld xs n go =>
        obtain ⟨t1,rfl | ⟨j',go',rfl,t2⟩⟩:=tr
        · exact ⟨t1,.inl rfl⟩
        · exact ⟨t1,.inr ⟨j',go',rfl,t2⟩⟩
      | dead => obtain ⟨rfl,rfl⟩:=tr;exact ⟨rfl,rfl⟩
  · rcases fa_back hoj with ⟨_,rfl⟩ | ⟨_,o',ho',rfl⟩
    · cases hlv
    · exact hE.fresh j o' g b' hj ho' (by rw [← (O.fa_lives i ver es o').1];exact hlv) hgj hat
  · rcases fa_back hoj with ⟨_,h⟩ | ⟨_,o',ho',he⟩
    · cases h
    · cases o' <;> simp only [O.fa] at he <;> cases he
      exact hE.noyld j _ _ _ hj ho'
theorem Sim.fa (hs:Sim P gl w s) (ho:s.st[i]? = some (.arr el sz ver es)) (hg:s.g[i]? = some (.row x)):Sim P gl w (s.fa i ver es x):=by
  have h1:=hs.fa0 ho hg
  refine ⟨by simp [S.fa,S.fa0,hs.len],fun j o g hj hgj => ?_,fun j k b' hj hk => hs.inj j k b' (own_fa hj).2 (own_fa hk).2,fun j b' o ob hj hob hwr hk => ?_,h1.kin,fun b' hb => ?_,h1.glob⟩
  · rcases fa_back hj with ⟨_,rfl⟩ | ⟨hne,o',ho',rfl⟩
    · trivial
    · cases o' with
      | box t' ds =>
        have hb:=hs.obj j _ g ho' hgj
        cases g <;> simp only [ObjOK,O.fa] at hb ⊢
        obtain ⟨arr,ha,hl,hr⟩:=hb
        exact ⟨arr,ha,by simpa using hl,fa_map (xs:=arr.toList) (R:=Rep w (s.fa i ver es x)) (fun n c y hc hy => (hr n c y hc (by simpa using hy)).fa hs ho hg) |> fun h n c y hc hy => h n c y hc (by simpa using hy)⟩
      | map ks vs =>
        have hb:=hs.obj j _ g ho' hgj
        have hb1:=h1.obj j _ g (by simp only [S.fa0];rw [List.getElem?_set_ne (fun e => hne e.symm)];exact ho') hgj
        cases g <;> simp only [ObjOK,O.fa] at hb hb1 ⊢
        obtain ⟨es',clock,ha,hl,hv,_,hr⟩:=hb
        obtain ⟨es2,clock',ha',_,_,hk,_⟩:=hb1
        rw [ha] at ha'
        simp only [Option.some.injEq,Obj.map.injEq] at ha'
        obtain ⟨rfl,rfl⟩:=ha'
        refine ⟨_,_,ha,hl,by simpa using hv,hk,fun n c e hc he => ?_⟩
        rw [List.getElem?_map] at hc
        cases hj:vs[n]? with
        | none => simp [hj] at hc
        | some c0 => simp only [hj,Option.map_some,Option.some.injEq] at hc;subst hc;exact (hr n c0 e hj he).fa hs ho hg
      | _ =>
        have hb0:=hs.obj j _ g ho' hgj
        have hb:=h1.obj j _ g (by simp only [S.fa0];rw [List.getElem?_set_ne (fun e => hne e.symm)];exact ho') hgj
        cases g <;> simp only [ObjOK] at hb0 <;> first | exact hb.elim | exact hb | (simp only [ObjOK,O.fa] at hb ⊢;exact ⟨hb.1,hb.2.1,hb.2.2.1,fun b' ⟨m,hm⟩ => hb0.2.2.2 b' ⟨m,(own_fa hm).2⟩⟩)
  · obtain ⟨hne,hj'⟩:=own_fa hj
    rcases fa_back hob with ⟨rfl,_⟩ | ⟨_,o',ho',rfl⟩
    · exact hne rfl
    · rcases hk with hk | hk
      · exact hs.kout j b' o o' hj' ho' (((O.fa_lives i ver es o').2 o).1 hwr) hk
      · exact hne (hs.inj j i b' hj' ⟨_,_,ho,rfl,hg,hk⟩)
  · obtain ⟨h2,h3⟩:=hs.fgn b' (foreign_fa hb)
    exact ⟨h2,fun ⟨m,hm⟩ => h3 ⟨m,(own_fa hm).2⟩⟩
def Env.fa (i ver:Nat) (es:List V) (e:Env):Env:=⟨e.n,e.m.map fun p => (p.1,p.2.fa i ver es)⟩
theorem Env.fa_get (i ver:Nat) (es:List V) (e:Env) (t:Nat):(e.fa i ver es).get t = (e.get t).fa i ver es:=by
  obtain ⟨n,m⟩:=e
  simp only [Env.fa,Env.get]
  induction m with
  | nil => rfl
  | cons p m ih =>
    obtain ⟨a,v⟩:=p
    simp only [List.map_cons,getM]
    split
    · rfl
    · exact ih
theorem arr_row (hs:Sim P gl w s) (ho:s.st[i]? = some (.arr el sz ver es)):∃ x,s.g[i]? = some (.row x):=hs.wf.arr i _ _ _ _ ho
theorem AW.fa {c:Code} (i:Nat) (el:TypeId) (sz ver:Nat) (es:List V) (ho:st[i]? = some (.arr el sz ver es)) (h:AW P gl r c Q (e.fa i ver es) ((st.set i .dead).map (O.fa i ver es))):AW P gl r c Q e st:=fun n0 w s a hn hst hs ha => by
  subst hst
  obtain ⟨x,hg⟩:=arr_row hs ho
  have hS:=hs.fa ho hg
  have hE:=(Evolve.refl (w:=w) hs.wf).fa hs.len hs ho hg
  have hA:ActOK w (s.fa i ver es x) n0 (e.fa i ver es) a:=by
    refine ⟨ha.n,fun t => by rw [Env.fa_get];exact (ha.get t).fa hs ho hg,⟨fun d hd => ?_,ha.marks.2⟩⟩
    obtain ⟨r,h1,h2,h3,h4,h5⟩:=ha.marks.1 d hd
    exact ⟨r,h1,h2,h3,fun ⟨m,hm⟩ => h4 ⟨m,(own_fa hm).2⟩,fun hf => h5 (foreign_fa hf)⟩
  refine wpIn_mono (h n0 w (s.fa i ver es x) a hn rfl hS hA) fun y a' w' ⟨e'',s',h1,h2,h3,hq⟩ => ?_
  exact ⟨e'',s',h1,hE.trans hs.len hS.len h2,h3,hq⟩
theorem AW.arr0 {c:Code} (el:TypeId) (sz:Nat) (h:AW P gl r c Q e (st ++ [.arr el sz 0 []])):AW P gl r c Q e st:=fun n0 w s a hn hst hs ha => by
  subst hst
  have hS:Sim P gl w (s.push (.arr el sz 0 []) (.row (.slice none 0 0))):=hs.push (fun _ _ _ h => by cases h) (fun _ _ _ h => by cases h) (fun _ _ h => by cases h) (fun _ _ _ => by simp) ⟨[],⟨by simp,.inl ⟨rfl,rfl⟩⟩,by simp,by simp,by simp,by simp⟩ (fun _ _ h => by cases h)
  have hE:Evolve w s w (s.push (.arr el sz 0 []) (.row (.slice none 0 0))):=Evolve.push hs.wf (Evolve.refl hs.wf) _ _ (fun _ _ h => by cases h) (fun _ _ _ => by simp)
  refine wpIn_mono (h n0 w _ a hn rfl hS (ha.evolve hE hs.wf)) fun x a' w' ⟨e'',s',h1,h2,h3,hq⟩ => ?_
  exact ⟨e'',s',h1,hE.trans hs.len hS.len h2,h3,hq⟩
theorem V.le_nil_ref {k:Nat} {e:TypeId} {sz v:Nat} (h:st[k]? = some (.arr e sz v [])):V.le st .nil (.ref k v):=fun w s x hs hx => by
  obtain ⟨a,rfl⟩:=hx.nil_inv
  exact .ref k v _ rfl ⟨.arr e sz v [],hs ▸ h,Nat.le_refl _,fun _ => .inr ⟨rfl,a,rfl⟩⟩
theorem Call.fa {k:FuncId} {args:List V} {v0:V} {st0:List O} (i:Nat) (el:TypeId) (sz ver:Nat) (es:List V) (ho:st0[i]? = some (.arr el sz ver es)) (h:Call P gl k args st fun v st' => v = v0 ∧ st' = st0) :
    Call P gl k args st fun v st' => v = v0.fa i ver es ∧ st' = (st0.set i .dead).map (O.fa i ver es):=fun w s xs hst hs hx => by
  refine CallsIn.mono (h w s xs hst hs hx) fun e w' ⟨v,x,s',h1,h2,h3,h4,h5,h6⟩ => ?_
  subst h5 h6
  obtain ⟨y,hg⟩:=arr_row h2 ho
  exact ⟨_,x,s'.fa i ver es y,h1,h2.fa ho hg,h3.fa hs.len h2 ho hg,h4.fa h2 ho hg,rfl,rfl⟩
theorem Call.forget {k:FuncId} {args:List V} {v0:V} {st0:List O} (n:Nat) (hn:st.length ≤ n) (h:Call P gl k args st fun v st' => v = v0 ∧ st' = st0) :
    Call P gl k args st fun v st' => v = v0.trim n ∧ st' = trimS n st0:=fun w s xs hst hs hx => by
  refine CallsIn.mono (h w s xs hst hs hx) fun e w' ⟨v,x,s',h1,h2,h3,h4,h5,h6⟩ => ?_
  subst h5 h6 hst
  exact ⟨_,x,s'.trim n,h1,h2.trim n,h3.trim hs.len h2.len hn,h4.trim,rfl,rfl⟩
end
end Go.Duo

namespace Go.Duo
open Go
end Go.Duo

namespace Go.Duo
open Go
abbrev Str:=List UInt8
inductive Ty where
  | mk (kind prio:Int) (name:Str) (shift:Int) (labels:List Str) (kids:List Ty)
structure Vl where
  kind:Int
  name:Str
  n:Int
  deriving DecidableEq
inductive Pr where
  | mk (kind:Int) (chan var:Str) (labels:List Str) (args:List Vl) (t:Ty) (kids:List Pr)
mutual
def encT:Ty → V
  | .mk k p n s l ks => .agg [.int .i64 k,.int .i64 p,.str n,.int .i64 s,.sl (l.map .str) none,.sl (encTs ks) none]
def encTs:List Ty → List V
  | [] => []
  | t :: ts => encT t :: encTs ts
end
theorem encTs_eq (l:List Ty):encTs l = l.map encT:=by
  induction l with
  | nil => rfl
  | cons t l ih => simp [encTs,ih]
theorem encT_mk (k p:Int) (n:Str) (s:Int) (l:List Str) (ks:List Ty):encT (.mk k p n s l ks) = .agg [.int .i64 k,.int .i64 p,.str n,.int .i64 s,.sl (l.map .str) none,.sl (ks.map encT) none]:=by rw [encT,encTs_eq]
theorem encT_cells (t:Ty):.agg (encT t).cells = encT t:=by cases t;rw [encT];rfl
theorem encT_len (t:Ty):(encT t).cells.length = 6:=by cases t;rw [encT];rfl
theorem encT_take (t:Ty):(encT t).cells.take 6 = (encT t).cells:=by rw [List.take_of_length_le (by rw [encT_len];exact Nat.le_refl _)]
theorem encT_one (t:Ty):(encT t).cells.all V.one = true:=by cases t;rw [encT];rfl
def encV (v:Vl):V:=.agg [.int .i64 v.kind,.str v.name,.int .i64 v.n]
mutual
def encP:Pr → V
  | .mk k c v l a t ks => .agg ([.int .i64 k,.str c,.str v,.sl (l.map .str) none,.sl (a.map encV) none] ++ (encT t).cells ++ [.sl (encPs ks) none])
def encPs:List Pr → List V
  | [] => []
  | t :: ts => encP t :: encPs ts
end
theorem encPs_eq (l:List Pr):encPs l = l.map encP:=by
  induction l with
  | nil => rfl
  | cons t l ih => simp [encPs,ih]
theorem encP_cells (p:Pr):.agg (encP p).cells = encP p:=by cases p;rw [encP];rfl
theorem encP_len (p:Pr):(encP p).cells.length = 12:=by
  obtain ⟨k,c,v,l,a,t,ks⟩:=p
  rw [encP]
  show (_ ++ (encT t).cells ++ _:List V).length = 12
  simp only [List.length_append,encT_len,List.length_cons,List.length_nil]
theorem encP_take (p:Pr):(encP p).cells.take 12 = (encP p).cells:=by rw [List.take_of_length_le (by rw [encP_len];exact Nat.le_refl _)]
theorem Ty.ind {p:Ty → Prop} (h:∀ k pr n s l ks,(∀ t ∈ ks,p t) → p (.mk k pr n s l ks)) (t:Ty):p t :=
  match t with
  | .mk k pr n s l ks => h k pr n s l ks fun t _ => Ty.ind h t
theorem Pr.ind {p:Pr → Prop} (h:∀ k c v l a t ks,(∀ q ∈ ks,p q) → p (.mk k c v l a t ks)) (q:Pr):p q :=
  match q with
  | .mk k c v l a t ks => h k c v l a t ks fun q _ => Pr.ind h q
theorem encT_pure (t:Ty):PureV (encT t) ∧ (encT t).bare = encT t:=by
  obtain ⟨k,p,n,s,l,ks⟩:=t
  rw [encT_mk]
  refine ⟨PureV.agg ?_,by simp [V.bare,V.bare.bareL]⟩
  intro c hc
  simp only [List.mem_cons,List.not_mem_nil,or_false] at hc
  rcases hc with rfl | rfl | rfl | rfl | rfl | rfl
  · exact PureV.int _ _
  · exact PureV.int _ _
  · exact PureV.str _
  · exact PureV.int _ _
  · exact PureV.sl _ _
  · exact PureV.sl _ _
theorem Real.ty {k p:Int} {n:Str} {s:Int} {l:List Str} {ks:List Ty} (h:Real (encT (.mk k p n s l ks))):l.length ≤ 9223372036854775807 ∧ ks.length ≤ 9223372036854775807 ∧ ∀ t ∈ ks,∀ c ∈ (encT t).cells,Real c:=by
  rw [encT_mk] at h
  have h1:=(h.agg (.sl (l.map .str) none) (by simp)).sl
  have h2:=(h.agg (.sl (ks.map encT) none) (by simp)).sl
  refine ⟨by simpa [maxLen] using h1.1,by simpa [maxLen] using h2.1,fun t ht c hc => h2.2 c ?_⟩
  exact List.mem_flatMap.2 ⟨encT t,List.mem_map.2 ⟨t,ht,rfl⟩,hc⟩
mutual
def sameT:Ty → Ty → Bool
  | .mk k p n s l ks,.mk k' p' n' s' l' ks' => decide (k = k') && decide (p = p') && decide (n = n') && decide (s = s') && decide (l = l') && decide (ks.length = ks'.length) && sameTs ks ks'
def sameTs:List Ty → List Ty → Bool
  | t :: ts,u :: us => sameT t u && sameTs ts us
  | _,_ => true
end
theorem encP_mk (k:Int) (c v:Str) (l:List Str) (a:List Vl) (t:Ty) (ks:List Pr):encP (.mk k c v l a t ks) = .agg (.int .i64 k :: .str c :: .str v :: .sl (l.map .str) none :: .sl (a.map encV) none :: ((encT t).cells ++ [.sl (ks.map encP) none])):=by rw [encP,encPs_eq];rfl
theorem encP_one (p:Pr):(encP p).cells.all V.one = true:=by
  obtain ⟨k,c,v,l,a,t,ks⟩:=p
  rw [encP_mk,c_agg]
  simp [V.one,encT_one]
theorem take_T (t:Ty) (l:List V):((encT t).cells ++ l).take 6 = (encT t).cells:=by
  have h:=List.take_left (l₁:=(encT t).cells) (l₂:=l);rwa [encT_len] at h
theorem drop_T (t:Ty) (l:List V):((encT t).cells ++ l).drop 6 = l:=by
  have h:=List.drop_left (l₁:=(encT t).cells) (l₂:=l);rwa [encT_len] at h
theorem len_T (t:Ty) (l:List V):((encT t).cells ++ l).length = l.length + 6:=by rw [List.length_append,encT_len,Nat.add_comm]
theorem all_T (t:Ty) (l:List V):((encT t).cells ++ l).all V.one = l.all V.one:=by rw [List.all_append,encT_one,Bool.true_and]
theorem encV_cells (v:Vl):(encV v).cells = [.int .i64 v.kind,.str v.name,.int .i64 v.n]:=rfl
theorem encP_pure (p:Pr):PureV (encP p) ∧ (encP p).bare = encP p:=by
  obtain ⟨k,c,v,l,a,t,ks⟩:=p
  have ht:∀ x ∈ (encT t).cells,PureV x ∧ x.bare = x:=fun x hx => by
    obtain ⟨k,p,n,s,l,ks⟩:=t
    rw [encT_mk] at hx
    simp only [c_agg,List.mem_cons,List.not_mem_nil,or_false] at hx
    rcases hx with rfl | rfl | rfl | rfl | rfl | rfl
    · exact ⟨PureV.int _ _,rfl⟩
    · exact ⟨PureV.int _ _,rfl⟩
    · exact ⟨PureV.str _,rfl⟩
    · exact ⟨PureV.int _ _,rfl⟩
    · exact ⟨PureV.sl _ _,rfl⟩
    · exact ⟨PureV.sl _ _,rfl⟩
  have hall:∀ x ∈ (.int .i64 k :: .str c :: .str v :: .sl (l.map .str) none :: .sl (a.map encV) none :: ((encT t).cells ++ [.sl (ks.map encP) none]):List V),PureV x ∧ x.bare = x:=fun x hx => by
    simp only [List.mem_cons,List.mem_append,List.not_mem_nil,or_false] at hx
    rcases hx with rfl | rfl | rfl | rfl | rfl | hx | rfl
    · exact ⟨PureV.int _ _,rfl⟩
    · exact ⟨PureV.str _,rfl⟩
    · exact ⟨PureV.str _,rfl⟩
    · exact ⟨PureV.sl _ _,rfl⟩
    · exact ⟨PureV.sl _ _,rfl⟩
    · exact ht x hx
    · exact ⟨PureV.sl _ _,rfl⟩
  rw [encP_mk]
  refine ⟨PureV.agg fun x hx => (hall x hx).1, ?_⟩
  rw [V.bare_agg]
  congr 1
  exact (List.map_congr_left fun x hx => (hall x hx).2).trans (List.map_id _)
theorem Real.pr {k:Int} {c v:Str} {l:List Str} {a:List Vl} {t:Ty} {ks:List Pr} (h:Real (encP (.mk k c v l a t ks))):l.length ≤ 9223372036854775807 ∧ a.length ≤ 9223372036854775807 ∧ ks.length ≤ 9223372036854775807:=by
  rw [encP_mk] at h
  have h1:=(h.agg (.sl (l.map .str) none) (by simp)).sl.1
  have h2:=(h.agg (.sl (a.map encV) none) (by simp)).sl.1
  have h3:=(h.agg (.sl (ks.map encP) none) (by simp)).sl.1
  simp only [maxLen,List.length_map] at h1 h2 h3
  exact ⟨h1,h2,h3⟩
mutual
def raiseT (k:Int):Ty → Ty
  | .mk kind prio name shift labels kids => .mk kind (if 4 ≤ kind ∧ kind ≤ 7 then IntKind.wrap .i64 (prio + k) else prio) name shift labels (raiseTs k kids)
def raiseTs (k:Int):List Ty → List Ty
  | [] => []
  | t :: ts => raiseT k t :: raiseTs k ts
end
theorem raiseTs_eq (k:Int) (l:List Ty):raiseTs k l = l.map (raiseT k):=by
  induction l with
  | nil => rfl
  | cons t l ih => simp [raiseTs,ih]
theorem encT_bare (t:Ty):(encT t).bare = encT t:=(encT_pure t).2
theorem encP_bare (p:Pr):(encP p).bare = encP p:=(encP_pure p).2
theorem encP_dlen (p:Pr) (n:Nat):((encP p).cells.drop n).length = 12 - n:=by rw [List.length_drop,encP_len]
end Go.Duo

namespace Go.Duo
open Go
def nameL (k:Int) (p:Bool):Str:=Lib.itoa k ++ [if p then 43 else 45]
def dig (c:UInt8):Bool:=decide (48 ≤ c.toNat) && decide (c.toNat ≤ 57)
def foldD (n:Nat) (l:Str):Nat:=l.foldl (fun n c => 10 * n + (c.toNat - 48)) n
theorem decDigits_dig (u:Nat):∀ c ∈ Lib.decDigits u,dig c = true:=by
  induction u using Nat.strongRecOn with
  | ind u ih =>
    intro c hc
    rw [Lib.decDigits] at hc
    split at hc
    · rename_i h
      have:c = UInt8.ofNat (48 + u):=by simpa using hc
      subst this
      simp only [dig,Bool.and_eq_true,decide_eq_true_eq,UInt8.toNat_ofNat']
      omega
    · rename_i h
      rcases List.mem_append.1 hc with hc | hc
      · exact ih _ (by omega) c hc
      · have:c = UInt8.ofNat (48 + u % 10):=by simpa using hc
        subst this
        simp only [dig,Bool.and_eq_true,decide_eq_true_eq,UInt8.toNat_ofNat']
        omega
theorem foldD_append (n:Nat) (a b:Str):foldD n (a ++ b) = foldD (foldD n a) b:=List.foldl_append
theorem foldD_dec (u:Nat):foldD 0 (Lib.decDigits u) = u:=by
  induction u using Nat.strongRecOn with
  | ind u ih =>
    rw [Lib.decDigits]
    split
    · rename_i h
      simp only [foldD,List.foldl,UInt8.toNat_ofNat']
      omega
    · rename_i h
      rw [foldD_append,ih _ (by omega)]
      simp only [foldD,List.foldl,UInt8.toNat_ofNat']
      omega
theorem foldD_ge (l:Str):∀ n,n ≤ foldD n l:=by
  induction l with
  | nil => exact fun n => Nat.le_refl n
  | cons c l ih => intro n;exact Nat.le_trans (by omega) (ih (10 * n + (c.toNat - 48)))
theorem foldD_cons (n:Nat) (c:UInt8) (l:Str):foldD n (c :: l) = foldD (10 * n + (c.toNat - 48)) l:=by unfold foldD;rw [List.foldl_cons]
theorem parseUintM_step {M acc:Nat} {c:UInt8} {l:Str} (hc:48 ≤ c.toNat ∧ c.toNat ≤ 57) (h1:¬ 1844674407370955162 ≤ acc) (h2:¬ M < acc * 10 + (c.toNat - 48)):Lib.parseUintM M acc (c :: l) = Lib.parseUintM M (acc * 10 + (c.toNat - 48)) l:=by
  simp [Lib.parseUintM,hc,h1,h2]
theorem parseUintM_dig (M:Nat) (hM:M ≤ 4294967295) (l:Str):∀ (acc:Nat),(∀ c ∈ l,dig c = true) → foldD acc l ≤ M → Lib.parseUintM M acc l = .ok (foldD acc l):=by
  induction l with
  | nil => intro acc _ _;rfl
  | cons c l ih =>
    intro acc hd hf
    have hc:=hd c (List.mem_cons_self ..)
    simp only [dig,Bool.and_eq_true,decide_eq_true_eq] at hc
    rw [foldD_cons] at hf
    have h1:=foldD_ge l (10 * acc + (c.toNat - 48))
    have h2:=ih _ (fun c hc => hd c (List.mem_cons_of_mem _ hc)) hf
    have h3:¬ 1844674407370955162 ≤ acc:=by omega
    rw [parseUintM_step hc h3 (by omega),foldD_cons,Nat.mul_comm acc 10]
    exact h2
theorem decDigits_cons (u:Nat):∃ c l,Lib.decDigits u = c :: l ∧ dig c = true:=by
  cases h:Lib.decDigits u with
  | nil => have:=Lib.decDigits_length u;rw [h] at this;have h2:=Lib.nDigits_pos u;simp at this;omega
  | cons c l => exact ⟨c,l,rfl,decDigits_dig u c (by rw [h];exact List.mem_cons_self ..)⟩
theorem parseIntB_plain {c:UInt8} {r:Str} {u:Nat} (h1:¬ (c.toNat = 43 ∨ c.toNat = 45)) (h2:Lib.parseUintB 32 (c :: r) = .ok u) (h3:u ≤ 2147483647):Lib.parseIntB 32 (c :: r) = .ok (u:Int):=by
  have h4:¬ c.toNat = 45:=fun h => h1 (.inr h)
  have h5:(if c.toNat = 43 ∨ c.toNat = 45 then r else c :: r) = c :: r:=if_neg h1
  unfold Lib.parseIntB
  simp only [h5,h2]
  simp only [h4,not_false_eq_true,true_and,false_and,if_false]
  exact if_neg (by omega)
theorem parseIntB_itoa (k:Nat) (h:k ≤ 2147483647):Lib.parseIntB 32 (Lib.itoa k) = .ok (k:Int):=by
  rw [Lib.itoa_nonneg]
  obtain ⟨c,l,hcl,hc⟩:=decDigits_cons k
  have hp:Lib.parseUintB 32 (Lib.decDigits k) = .ok k:=by
    rw [Lib.parseUintB,if_neg (by rw [hcl];simp),parseUintM_dig _ (by decide) _ _ (decDigits_dig k) (by rw [foldD_dec];omega),foldD_dec]
  simp only [dig,Bool.and_eq_true,decide_eq_true_eq] at hc
  rw [hcl] at hp ⊢
  exact parseIntB_plain (by omega) hp h
theorem parseIntB_ok {s:Str} {k:Int} (h:Lib.parseIntB 32 s = .ok k):k ≤ 2147483647:=by
  cases s with
  | nil => cases h
  | cons c r =>
    simp only [Lib.parseIntB] at h
    split at h
    · cases h
    · cases h
    · rename_i u hu
      split at h
      · cases h
      · split at h
        · cases h
        · rename_i h1 h2
          cases h
          split
          · omega
          · rename_i h3;have:¬ 2147483648 ≤ u:=fun h4 => h1 ⟨h3,by simpa using h4⟩;omega
theorem nameL_ne_nil (k:Int) (p:Bool):nameL k p ≠ []:=by simp [nameL]
theorem nameL_dropLast (k:Int) (p:Bool):(nameL k p).dropLast = Lib.itoa k:=by simp [nameL]
theorem nameL_last (k:Int) (p:Bool):(nameL k p).getLast? = some (if p then 43 else 45):=by simp [nameL]
def epL (s:Str):Option (Nat × Bool) :=
  if foldD 0 s.dropLast ≤ 2147483647 ∧ s = nameL (foldD 0 s.dropLast) (decide (s.getLast? = some 43)) then some (foldD 0 s.dropLast,decide (s.getLast? = some 43)) else none
theorem epL_some {s:Str} {k:Nat} {p:Bool}:epL s = some (k,p) ↔ k ≤ 2147483647 ∧ s = nameL k p:=by
  unfold epL
  constructor
  · intro h
    split at h
    · rename_i hh;cases h;exact hh
    · cases h
  · rintro ⟨hk,rfl⟩
    have h1:foldD 0 (nameL k p).dropLast = k:=by rw [nameL_dropLast,Lib.itoa_nonneg,foldD_dec]
    have h2:decide ((nameL (k:Int) p).getLast? = some 43) = p:=by rw [nameL_last];cases p <;> decide
    rw [h1,h2,if_pos ⟨hk,rfl⟩]
theorem epL_none {s:Str}:epL s = none ↔ ∀ (k:Nat) (p:Bool),k ≤ 2147483647 → s ≠ nameL k p:=by
  constructor
  · intro h k p hk hs
    rw [epL_some.2 ⟨hk,hs⟩] at h;cases h
  · intro h
    cases h':epL s with
    | none => rfl
    | some x => obtain ⟨k,p⟩:=x;have:=epL_some.1 h';exact absurd this.2 (h k p this.1)
def epV (s:Str):V:=match epL s with
  | some (k,p) => .tuple [.int .i64 k,.bool p,.bool true]
  | none => .tuple [.int .i64 0,.bool false,.bool false]
theorem snoc (s:Str) (h:s ≠ []):∃ a c,s = a ++ [c]:=⟨s.dropLast,s.getLast h,(List.dropLast_concat_getLast h).symm⟩
theorem epL_prog_some {a:Str} {c:UInt8} {k:Int} (h1:Lib.parseIntB 32 a = .ok k) (h2:nameL k (decide ([c] = [43])) = a ++ [c]) (h3:0 ≤ k):epV (a ++ [c]) = .tuple [.int .i64 k,.bool (decide ([c] = [43])),.bool true]:=by
  obtain ⟨n,rfl⟩:=Int.eq_ofNat_of_zero_le h3
  have:=parseIntB_ok h1
  unfold epV
  rw [epL_some.2 ⟨by omega,h2.symm⟩]
theorem epL_prog_none {a:Str} {c:UInt8} (h:∀ k:Int,Lib.parseIntB 32 a = .ok k → nameL k (decide ([c] = [43])) = a ++ [c] → k < 0):epV (a ++ [c]) = .tuple [.int .i64 0,.bool false,.bool false]:=by
  unfold epV
  cases h':epL (a ++ [c]) with
  | none => rfl
  | some x =>
    obtain ⟨k,p⟩:=x
    obtain ⟨hk,hs⟩:=epL_some.1 h'
    have ha:a = Lib.itoa k:=by rw [← nameL_dropLast k p,← hs];simp
    have hc:some c = some (if p then (43:UInt8) else 45):=by rw [← nameL_last k p,← hs];simp
    have hp:decide ([c] = [43]) = p:=by cases hc;cases p <;> decide
    have h1:=h k (by rw [ha];exact parseIntB_itoa k hk) (by rw [hp];exact hs.symm)
    omega
theorem epL_nil:epL [] = none:=epL_none.2 fun k p _ h => nameL_ne_nil k p h.symm
theorem epV_ref_none {s:Str} (h:∀ (k:Nat) (p:Bool),k ≤ 2147483647 → s ≠ nameL k p):epV s = .tuple [.int .i64 0,.bool false,.bool false]:=by
  unfold epV;rw [epL_none.2 h]
theorem epV_ref_some {s:Str} {k:Nat} (hk:k ≤ 2147483647) (p:Bool) (hs:s = nameL k p):epV s = .tuple [.int .i64 k,.bool p,.bool true]:=by
  unfold epV;rw [epL_some.2 ⟨hk,hs⟩]
theorem itoa_len31 {k:Nat} (hk:k ≤ 2147483647):1 ≤ (Lib.itoa k).length ∧ (Lib.itoa k).length ≤ 10:=by
  rw [Lib.itoa_nonneg,Lib.decDigits_length]
  refine ⟨Lib.nDigits_pos k, ?_⟩
  rcases Nat.lt_or_ge 10 (Lib.nDigits k) with h | h
  · exfalso
    have h1:=Lib.nDigits_pos k
    have:∀ n u,10 ^ n ≤ u ∨ Lib.nDigits u ≤ n ∨ n = 0:=by
      intro n
      induction n with
      | zero => intro u;exact .inr (.inr rfl)
      | succ n ih =>
        intro u
        by_cases hu:u < 10
        · rw [Lib.nDigits_small hu];exact .inr (.inl (by omega))
        · rw [Lib.nDigits_big hu]
          rcases ih (u / 10) with h | h | h
          · refine .inl ?_;rw [Nat.pow_succ];omega
          · exact .inr (.inl (by omega))
          · subst h;exact .inl (by omega)
    rcases this 10 k with h | h | h <;> omega
  · exact h
theorem itoa_min:Lib.itoa (-9223372036854775808) = [45,57,50,50,51,51,55,50,48,51,54,56,53,52,55,55,53,56,48,56]:=by
  rw [show (-9223372036854775808:Int) = -((9223372036854775808:Nat):Int) from rfl,Lib.itoa_neg _ (by decide)]
  simp [Lib.decDigits]
theorem itoa_minus {n:Int} (h:n < 0):[45] ++ Lib.itoa (0 - n) = Lib.itoa n:=by
  obtain ⟨m,hm⟩:∃ m:Nat,n = -(m:Int):=⟨n.natAbs,by omega⟩
  subst hm
  rw [Lib.itoa_neg m (by omega),show (0 - -(m:Int)) = (m:Int) by omega,Lib.itoa_nonneg];rfl
theorem itoa_small {n:Int} (h0:0 ≤ n) (h:n < 10):((([48,49,50,51,52,53,54,55,56,57]:Str).take (n % 10 + 1).toNat).drop (n % 10).toNat) = Lib.itoa n:=by
  obtain ⟨m,rfl⟩:=Int.eq_ofNat_of_zero_le h0
  rw [Lib.itoa_nonneg]
  have:m < 10:=by omega
  rcases m with _ | _ | _ | _ | _ | _ | _ | _ | _ | _ | m <;> first | omega | (rw [Lib.decDigits,dif_pos (by decide)];rfl)
theorem itoa_big {n:Int} (h:10 ≤ n):Lib.itoa (n / 10) ++ ((([48,49,50,51,52,53,54,55,56,57]:Str).take (n % 10 + 1).toNat).drop (n % 10).toNat) = Lib.itoa n:=by
  have h1:=itoa_small (n:=n % 10) (by omega) (by omega)
  rw [show n % 10 % 10 = n % 10 by omega] at h1
  rw [h1]
  obtain ⟨m,rfl⟩:=Int.eq_ofNat_of_zero_le (show 0 ≤ n by omega)
  rw [show ((m:Int) / 10) = ((m / 10:Nat):Int) by omega,show ((m:Int) % 10) = ((m % 10:Nat):Int) by omega,Lib.itoa_nonneg,Lib.itoa_nonneg,Lib.itoa_nonneg]
  conv => rhs;rw [Lib.decDigits,dif_neg (by omega)]
  rw [Lib.decDigits_one (show m % 10 < 10 by omega)]
def idxL (l:List Str) (c:Str):Int:=if c ∈ l then ((l.takeWhile fun x => !decide (x = c)).length:Nat) else -1
theorem idxL_ge (l:List Str) (c:Str):decide (0 ≤ idxL l c) = decide (c ∈ l):=by
  unfold idxL;split <;> simp_all
theorem notin_step {l:List Str} {c:Str} {i:Nat} (h:c ∉ l.take i) (hlt:i < l.length) (hq:¬ l[i] = c):c ∉ l.take (i + 1):=by
  rw [List.take_add_one,List.getElem?_eq_getElem hlt]
  simp only [Option.toList,List.mem_append,List.mem_singleton]
  rintro (h' | h')
  · exact h h'
  · exact hq h'.symm
theorem idxL_none {l:List Str} {c:Str} (h:c ∉ l):idxL l c = -1:=if_neg h
theorem takeWhile_first {α:Type} (p:α → Bool):∀ (a:List α) (x:α) (b:List α),(∀ y ∈ a,p y = true) → p x = false → (a ++ x :: b).takeWhile p = a:=by
  intro a
  induction a with
  | nil => intro x b _ h;simp [h]
  | cons y a ih => intro x b h1 h2;rw [List.cons_append,List.takeWhile_cons,if_pos (h1 y (List.mem_cons_self ..)),ih x b (fun z hz => h1 z (List.mem_cons_of_mem _ hz)) h2]
theorem idxL_at {l:List Str} {c:Str} {i:Nat} (h:c ∉ l.take i) (hlt:i < l.length) (hq:l[i] = c):idxL l c = i:=by
  unfold idxL
  rw [if_pos (hq ▸ List.getElem_mem hlt)]
  have:l.takeWhile (fun x => !decide (x = c)) = l.take i:=by
    conv => lhs;rw [← List.take_append_drop i l,List.drop_eq_getElem_cons hlt]
    refine takeWhile_first _ _ _ _ (fun y hy => ?_) (by simp [hq])
    have:¬ y = c:=fun h' => h (h' ▸ hy)
    simp [this]
  rw [this,List.length_take];omega
theorem foldD_lt:∀ (l:Str) (n:Nat),(∀ c ∈ l,dig c = true) → foldD n l + 1 ≤ (n + 1) * 10 ^ l.length:=by
  intro l
  induction l with
  | nil => intro n _;simp [foldD]
  | cons c l ih =>
    intro n h
    have hc:=h c (List.mem_cons_self ..)
    simp only [dig,Bool.and_eq_true,decide_eq_true_eq] at hc
    have h1:=ih (10 * n + (c.toNat - 48)) (fun c hc => h c (List.mem_cons_of_mem _ hc))
    rw [foldD_cons,List.length_cons,Nat.pow_succ]
    have h2:10 * n + (c.toNat - 48) + 1 ≤ 10 * (n + 1):=by omega
    have h3:=Nat.mul_le_mul_right (10 ^ l.length) h2
    calc foldD (10 * n + (c.toNat - 48)) l + 1 ≤ (10 * n + (c.toNat - 48) + 1) * 10 ^ l.length:=h1
      _ ≤ 10 * (n + 1) * 10 ^ l.length:=h3
      _ = (n + 1) * (10 ^ l.length * 10):=by rw [Nat.mul_comm 10 (n + 1),Nat.mul_assoc,Nat.mul_comm 10]
theorem foldD_bound {l:Str} (h:∀ c ∈ l,dig c = true) (hl:l.length ≤ 10):foldD 0 l ≤ 9999999999:=by
  have h1:=foldD_lt l 0 h
  have h2:10 ^ l.length ≤ 10 ^ 10:=Nat.pow_le_pow_right (by decide) hl
  omega
theorem foldD_take {s:Str} {i:Nat} (h:i < s.length):foldD 0 (s.take (i + 1)) = 10 * foldD 0 (s.take i) + (s[i].toNat - 48):=by
  rw [List.take_add_one,List.getElem?_eq_getElem h,foldD_append];simp only [Option.toList,foldD_cons];rfl
theorem dig_take {s:Str} {i:Nat} (h:i < s.length) (h1:∀ c ∈ s.take i,dig c = true) (h2:48 ≤ s[i].toNat) (h3:s[i].toNat ≤ 57):∀ c ∈ s.take (i + 1),dig c = true:=by
  rw [List.take_add_one,List.getElem?_eq_getElem h]
  intro c hc
  rcases List.mem_append.1 hc with hc | hc
  · exact h1 c hc
  · have:c = s[i]:=by simpa using hc
    subst this;simp [dig,h2,h3]
theorem nameL_len {k:Nat} (hk:k ≤ 2147483647) (p:Bool):2 ≤ (nameL k p).length ∧ (nameL k p).length ≤ 11:=by
  have:=itoa_len31 hk
  simp only [nameL,List.length_append,List.length_cons,List.length_nil];omega
theorem ref_short {s:Str} (h:s.length < 2 ∨ 11 < s.length):epV s = .tuple [.int .i64 0,.bool false,.bool false]:=epV_ref_none fun k p hk hs => by
  subst hs;have:=nameL_len hk p;omega
theorem ref_nodig {s:Str} {i:Nat} (h:i < s.length) (h1:i + 1 < s.length) (h2:s[i].toNat < 48 ∨ 57 < s[i].toNat):epV s = .tuple [.int .i64 0,.bool false,.bool false]:=epV_ref_none fun k p hk hs => by
  have h3:s[i] ∈ s.dropLast:=by rw [List.mem_iff_getElem];exact ⟨i,by rw [List.length_dropLast];omega,by rw [List.getElem_dropLast]⟩
  have h4:dig s[i] = true:=decDigits_dig k _ (by rw [← Lib.itoa_nonneg,← nameL_dropLast k p,← hs];exact h3)
  simp only [dig,Bool.and_eq_true,decide_eq_true_eq] at h4;omega
theorem ref_noname {s:Str} (h:2147483647 < foldD 0 (s.take (s.length - 1)) ∨ (¬ s = nameL (foldD 0 (s.take (s.length - 1)):Nat) true ∧ ¬ s = nameL (foldD 0 (s.take (s.length - 1)):Nat) false)):epV s = .tuple [.int .i64 0,.bool false,.bool false]:=epV_ref_none fun k p hk hs => by
  have h1:foldD 0 (s.take (s.length - 1)) = k:=by rw [← List.dropLast_eq_take,hs,nameL_dropLast,Lib.itoa_nonneg,foldD_dec]
  rw [h1] at h
  rcases h with h | h
  · omega
  · cases p
    · exact h.2 hs
    · exact h.1 hs
theorem ref_name {s:Str} {n:Nat} (h:n ≤ 2147483647) (h1:s.length - 1 < s.length) (h2:s = nameL n true ∨ s = nameL n false):epV s = .tuple [.int .i64 n,.bool (decide ((s[s.length - 1].toNat:Int) = 43)),.bool true]:=by
  have h3:s[s.length - 1]? = s.getLast?:=by rw [List.getLast?_eq_getElem?]
  rw [List.getElem?_eq_getElem h1] at h3
  rcases h2 with h2 | h2
  · rw [epV_ref_some h true h2]
    have h4:s.getLast? = some 43:=by rw [h2];exact nameL_last n true
    rw [h4] at h3;have h5:s[s.length - 1] = 43:=by simpa using h3
    rw [h5];rfl
  · rw [epV_ref_some h false h2]
    have h4:s.getLast? = some 45:=by rw [h2];exact nameL_last n false
    rw [h4] at h3;have h5:s[s.length - 1] = 45:=by simpa using h3
    rw [h5];rfl
def dualV (s:Str):V:=match epL s with
  | some (k,p) => .tuple [.str (nameL k (!p)),.bool true]
  | none => .tuple [.str [],.bool false]
def epK (s:Str):Int:=match epL s with | some (k,_) => k | none => 0
def epP (s:Str):Bool:=match epL s with | some (_,p) => p | none => false
def epO (s:Str):Bool:=(epL s).isSome
theorem epV_eq (s:Str):epV s = .tuple [.int .i64 (epK s),.bool (epP s),.bool (epO s)]:=by unfold epV epK epP epO;cases epL s <;> rfl
theorem epK_lt (s:Str):0 ≤ epK s ∧ epK s ≤ 2147483647:=by
  unfold epK
  cases h:epL s with
  | none => simp
  | some x => obtain ⟨k,p⟩:=x;have:=(epL_some.1 h).1;simp only;omega
def dualN (s:Str):Str:=if epO s = true then nameL (epK s) (!(epP s)) else []
theorem dualV_eq (s:Str):dualV s = .tuple [.str (dualN s),.bool (epO s)]:=by unfold dualV dualN epO epK epP;cases epL s <;> rfl
end Go.Duo

namespace Go.Duo
open Go
section
variable {P:Program} {gl:Nat → V} {r:Option Nat} {e:Env} {st:List O} {w w':World} {s:S} {Q:Exit → Env → List O → Prop}
theorem Rep.reK {K':Nat → Nat → Prop} (hk:Keeps w s.K w' K') {v:V} {x:Value} (h:Rep w s v x):Rep w' { s with K:=K' } v x:=by
  induction h with
  | pure v x hp => exact .pure v x (hp.keeps hk)
  | undef x => exact .undef x
  | agg cs xs hl _ ih => exact .agg cs xs hl ih
  | tuple cs xs hl _ ih => exact .tuple cs xs hl ih
  | func fn fs cs xs ys hl hl' _ _ ih ih' => exact .func fn fs cs xs ys hl hl' ih ih'
  | iface t v x _ ih => exact .iface t v x ih
  | tok es id x hp ht => exact .tok es id x (hp.keeps hk) ht
  | ref id ver x h1 hr => exact .ref id ver x h1 hr
  | ptr id off b hb => exact .ptr id off b hb
  | rptr id ver off x h1 hr => exact .rptr id ver off x h1 hr
  | map id b hb => exact .map id b hb
  | yld id l F J Jx hb => exact .yld id l F J Jx hb
theorem ObjOK.reK {K':Nat → Nat → Prop} (hk:Keeps w s.K w' K') {o:O} {g:Gh} (hos:w'.os = w.os) (htape:w'.tape = w.tape) (hout:w'.output = w.output) (hsize:w.heap.size ≤ w'.heap.size)
    (hb:o.lives = true → ∀ b,g.at = some b → w'.heap[b]? = w.heap[b]?)
    (hF:∀ l F J Jx xs i go,g = .yl l F J Jx → o = .yld xs i go → (∀ b,F b → w'.heap[b]? = w.heap[b]?) ∧ (∀ b o,K' b o → s.K b o ∨ (l < b ∧ ¬ F b)) ∧ (∀ b,b ≤ l → w'.heap[b]? = w.heap[b]?) ∧ (∀ b o,K' b o → b < w'.heap.size))
    (h:ObjOK P w s o g):ObjOK P w' { s with K:=K' } o g:=by
  cases o <;> cases g <;> simp only [ObjOK] at h ⊢
  · obtain ⟨arr,ha,hl,hr⟩:=h
    exact ⟨arr,(hb rfl _ rfl).trans ha,hl,fun i c x hc hx => (hr i c x hc hx).reK hk⟩
  · obtain ⟨es,clock,ha,h0,hv,h1,h2⟩:=h
    exact ⟨es,clock,(hb rfl _ rfl).trans ha,h0,hv,fun i c e hc he => (h1 i c e hc he).keeps hk,fun i c e hc he => (h2 i c e hc he).reK hk⟩
  · obtain ⟨xs,h1,h2⟩:=h
    refine ⟨xs,h1, ?_⟩
    rcases h2 with h2 | ⟨g,cap,cur,rfl,h3,h4,h5⟩
    · exact .inl h2
    · exact .inr ⟨g,cap,cur,rfl,h3,(hb rfl g rfl).trans h4,h5⟩
  · obtain ⟨xs,⟨h1,h2⟩,h6,h7,h8,h9⟩:=h
    refine ⟨xs,⟨h1, ?_⟩,h6,h7,h8,fun j c y hc hy => (h9 j c y hc hy).keeps hk⟩
    rcases h2 with h2 | ⟨g,cap,cur,rfl,h3,h4,h5⟩
    · exact .inl h2
    · exact .inr ⟨g,cap,cur,rfl,h3,(hb rfl g rfl).trans h4,h5⟩
  · obtain ⟨h1,h2,h3,h4⟩:=h
    obtain ⟨k1,k2,k3,k4⟩:=hF _ _ _ _ _ _ _ rfl rfl
    exact ⟨h2.stable _ _ _ _ _ _ _ h1 k1 hos htape hout hsize hk k2 k3 k4,h2,Nat.lt_of_lt_of_le h3 hsize,h4⟩
def RJ (P:Program) (gl:Nat → V) (w0:World) (s0:S) (rc:Loop) (I:List O → Prop) (F:Nat → Prop) (K:Nat → Nat → Prop) (W:World):Prop :=
  ∃ s':S,s'.K = K ∧ Sim P gl W s' ∧ Evolve w0 s0 W s' ∧ I s'.st ∧ (∀ b,F b ↔ (s'.mine b ∨ s'.foreign b ∨ b = w0.heap.size ∨ b = w0.heap.size + 1)) ∧
    W.heap[w0.heap.size]? = some (.deferred (some [])) ∧ W.heap[w0.heap.size + 1]? = some (.loop rc) ∧
    (∀ b,b = w0.heap.size ∨ b = w0.heap.size + 1 → ¬ s'.mine b ∧ ¬ s'.foreign b ∧ ∀ o,¬ K b o)
theorem RJ.stable {w0:World} {s0:S} {rc:Loop} {I:List O → Prop} (hs0:Sim P gl w0 s0) {F:Nat → Prop} {K K':Nat → Nat → Prop} {W W':World} (h:RJ P gl w0 s0 rc I F K W) (hF:∀ b,F b → W'.heap[b]? = W.heap[b]?) (hos:W'.os = W.os) (htape:W'.tape = W.tape) (hout:W'.output = W.output)
    (hsize:W.heap.size ≤ W'.heap.size) (hk:Keeps W K W' K') (hnew:∀ b o,K' b o → K b o ∨ (w0.heap.size + 1 < b ∧ ¬ F b)) (hold:∀ b,b ≤ w0.heap.size + 1 → W'.heap[b]? = W.heap[b]?) (hkin:∀ b o,K' b o → b < W'.heap.size):RJ P gl w0 s0 rc I F K' W':=by
  obtain ⟨s',rfl,hS,hE,hI,hFi,hD,hl,hno⟩:=h
  have hmF:∀ b,s'.mine b → F b:=fun b hb => (hFi b).2 (.inl hb)
  have hfF:∀ b,s'.foreign b → F b:=fun b hb => (hFi b).2 (.inr (.inl hb))
  have hlate:s'.late (w0.heap.size + 1):=(hs0.late (Nat.le_succ _)).evolve hE hs0.len
  refine ⟨{ s' with K:=K' },rfl, ?_, ?_,hI,hFi,(hold _ (by omega)).trans hD,(hold _ (by omega)).trans hl,fun b hb => ⟨(hno b hb).1,(hno b hb).2.1,fun o hko => ?_⟩⟩
  · refine ⟨hS.len,fun i o g ho hg => ?_,hS.inj,fun i b o ob hi hob hwr hko => ?_,hkin,fun b hb => ⟨Nat.lt_of_lt_of_le (hS.fgn b hb).1 hsize,(hS.fgn b hb).2⟩,fun g => (hS.glob g).imp (fun h => h) fun k => globKeeps hk k⟩
    · refine (hS.obj i o g ho hg).reK hk hos htape hout hsize (fun hlv b hb => hF b (hmF b ⟨i,o,g,ho,hlv,hg,hb⟩)) (fun l F2 J Jx xs k go hg' ho' => ?_)
      subst hg' ho'
      have hll:=hlate i xs k l go F2 J Jx ho hg
      have hsub:∀ b,F2 b → F b:=fun b hb => hfF b ⟨i,xs,k,l,go,F2,J,Jx,ho,hg,hb⟩
      refine ⟨fun b hb => hF b (hsub b hb),fun b o hko => ?_,fun b hb => hold b (by omega),hkin⟩
      rcases hnew b o hko with h | ⟨h1,h2⟩
      · exact .inl h
      · exact .inr ⟨by omega,fun hb => h2 (hsub b hb)⟩
    · rcases hnew b o hko with h | ⟨_,h2⟩
      · exact hS.kout i b o ob hi hob hwr h
      · exact h2 (hmF b ⟨i,hi⟩)
  · refine ⟨hos.trans hE.os,htape.trans hE.tape,hout.trans hE.output,Nat.le_trans hE.size hsize,hE.keeps.trans hk,fun b o hko => ?_,fun b hb hm hf => (hold b (by omega)).trans (hE.block b hb hm hf),hE.len,hE.objs,hE.fresh,hE.noyld⟩
    rcases hnew b o hko with h | ⟨h1,_⟩
    · exact hE.knew b o h
    · exact .inr (.inl (by omega))
  · rcases hnew b o hko with h | ⟨h1,_⟩
    · exact (hno b hb).2.2 o h
    · rcases hb with rfl | rfl <;> omega
theorem Marks.putObj {n0 n:Nat} {ds:List Deferred} {o':Obj} {rc:Loop} (hn:w.heap[n]? = some (.loop rc)) (hm:Marks w s n0 ds):Marks (w.putObj n o') s n0 ds:=by
  refine ⟨fun d hd => ?_,hm.2⟩
  obtain ⟨r,h1,h2,h3,h4,h5⟩:=hm.1 d hd
  have hne:r ≠ n:=fun he => by subst he;rw [hn] at h3;cases h3
  exact ⟨r,h1,h2,(World.putObj_heap_other hne).trans h3,h4,h5⟩
end
end Go.Duo

namespace Go.Duo
open Go
section
variable {P:Program} {gl:Nat → V} {r:Option Nat} {e:Env} {st:List O} {w w':World} {s s':S} {ops:Array Oper} {m:Nat}
def OpB2 (P:Program) (gl:Nat → V) (r:Option Nat) (ops:Array Oper) (o:Oper) (e:Env) (st st':List O) (v:V) (u:Option ((Nat → V) × O)):Prop :=
  ∀ e':Env,(∀ t ∈ o.looksAt ops,e'.get t = e.get t) → ∀ (n0:Nat) (w:World) (s:S) (a:Act) (next:Act → World → Prop) (Q:Exit → Act → World → Prop),n0 ≤ w.heap.size → s.st = st → Sim P gl w s → ActOK w s n0 e' a →
    (∀ x w' s',Sim P gl w' s' → Evolve w s w' s' → s'.st = st' → Rep w' s' v x → (∀ f o,u = some (f,o) → ∃ b,w.heap.size ≤ b ∧ Pend P w' s' f o x b) → next (a.put o.dst x) w') →
    if Region.wanted o (yielded ops a.tmps) = true then o.wpIn (Fr r) 0 P a w next Q else (∀ f,o.about P w a.eval = some f → (Fr r).fn f) ∧ next (a.put o.dst undef) w
structure InvQ (S:Bool → List O) (q:Nat) (P:Program) (gl:Nat → V) (ops:Array Oper) (m:Nat) (res:List (V × Option ((Nat → V) × O))) (e:Env) (n0:Nat) (w0:World) (s0:Duo.S) (L:Array Bool) (a:Act) (w:World) (s:Duo.S) (B:Nat → Nat):Prop where
  closed:Closed ops L
  pre:∀ i,L.getD i false = true → i < m
  st:s.st = S (L.getD q false)
  sim:Sim P gl w s
  ev:Evolve w0 s0 w s
  n:e.n ≤ a.tmps.size
  marks:Marks w s n0 a.defers
  old:∀ t,(∀ j,j < m → dstAt ops j ≠ some t) → Rep w s (e.get t) (a.tmps.getD t undef)
  new:∀ (j:Nat) (t:Tmp) (v:V) (u:Option ((Nat → V) × O)),L.getD j false = true → dstAt ops j = some t → res[j]? = some (v,u) → Rep w s v (a.tmps.getD t undef) ∧ ∀ f o,u = some (f,o) → w0.heap.size ≤ B j ∧ Pend P w s f o (a.tmps.getD t undef) (B j)
  inj:∀ (j j':Nat) (v v':V) (fo fo':(Nat → V) × O),L.getD j false = true → L.getD j' false = true → res[j]? = some (v,some fo) → res[j']? = some (v',some fo') → B j = B j' → j = j'
theorem anyQ {S:Bool → List O} {q:Nat} {res:List (V × Option ((Nat → V) × O))} {n0:Nat} {w0:World} {s0:Duo.S} (hok:anyOK ops m = true) (hqm:q < m) (hrl:res.length = m)
    (hat:∀ (i:Nat) (o:Oper),(ops.toList.take m)[i]? = some o → ∃ v u,res[i]? = some (v,u) ∧ (envOf ((ops.toList.take m).take i) (res.take i) e).fits o.dst ∧ (u.isSome = true → o.dst.isSome = true) ∧
      ∀ b,(b = true → i ≠ q ∧ dep ops q i = false) → OpB2 P gl r ops o (envOf ((ops.toList.take m).take i) (res.take i) e) (S b) (S (b || decide (i = q))) v u)
    (hn0:n0 ≤ w0.heap.size) (hlen0:s0.st.length ≤ (S true).length) (hwf0:s0.g.length = s0.st.length) {Q:Exit → Act → World → Prop}
    (hfin:∀ a w s,Sim P gl w s → Evolve w0 s0 w s → ActOK w s n0 (applyUps (upsOf (ops.toList.take m) res) (envOf (ops.toList.take m) res e) (S true)).1 a → s.st = (applyUps (upsOf (ops.toList.take m) res) (envOf (ops.toList.take m) res e) (S true)).2 → wpOpsIn (Fr r) 0 P ops Q (List.range' m (ops.size - m)) a w) :
    ∀ (fuel:Nat) (L:Array Bool) (a:Act) (w:World) (s:Duo.S) (B:Nat → Nat),InvQ S q P gl ops m res e n0 w0 s0 L a w s B → L.count false ≤ fuel → wpAnyIn (Fr r) 0 P .any ops Q fuel L a w:=by
  obtain ⟨hm,hdown,hlook,hdst,hrest⟩:=anyOK_spec hok
  have hl:(ops.toList.take m).length = m:=by simp;omega
  have hget:∀ i,i < m → (ops.toList.take m)[i]? = ops[i]?:=fun i hi => by rw [List.getElem?_take_of_lt hi];simp
  have henv:∀ (i:Nat) (t:Tmp),i ≤ m → ((∀ j,j < m → dstAt ops j ≠ some t) → (envOf ((ops.toList.take m).take i) (res.take i) e).get t = e.get t) ∧
      ∀ j v u,j < i → dstAt ops j = some t → res[j]? = some (v,u) → (envOf ((ops.toList.take m).take i) (res.take i) e).get t = v:=fun i t hi => by
    have hg:∀ k o,((ops.toList.take m).take i)[k]? = some o → k < i ∧ dstAt ops k = o.dst:=fun k o hk => by
      have hki:k < i:=by
        have:=(List.getElem?_eq_some_iff.1 hk).1
        simp at this
        omega
      rw [List.getElem?_take_of_lt hki,hget k (by omega)] at hk
      exact ⟨hki,by simp [dstAt,hk]⟩
    refine ⟨fun h => envOf_other _ _ _ _ fun k o hk he => ?_,fun j v u hj hd hr => ?_⟩
    · obtain ⟨h1,h2⟩:=hg k o hk
      exact h k (by omega) (h2.trans he)
    · have hjs:j < ops.size:=by omega
      refine envOf_at _ _ _ _ j ops[j] v u (by rw [List.getElem?_take_of_lt hj,hget j (by omega)];exact Array.getElem?_eq_getElem hjs) (by rw [List.getElem?_take_of_lt hj];exact hr) (by simpa [dstAt,hjs] using hd) fun k o hk ho he => ?_
      obtain ⟨h1,h2⟩:=hg k o ho
      have:=hdst j k t (by omega) (by omega) hd (h2.trans he)
      omega
  have hdone:∀ (fuel:Nat) (L:Array Bool) (a:Act) (w:World) (s:Duo.S) (B:Nat → Nat),InvQ S q P gl ops m res e n0 w0 s0 L a w s B → L.count false ≤ fuel → (∀ j,j < m → L.getD j false = true) → wpAnyIn (Fr r) 0 P .any ops Q fuel L a w:=fun fuel L a w s B hI hf hall => by
    have hA:ActOK w s n0 (envOf (ops.toList.take m) res e) a:=by
      refine ⟨by rw [envOf_n];exact hI.n,fun t => ?_,hI.marks⟩
      obtain ⟨g1,g2⟩:=henv m t (Nat.le_refl _)
      have t1:(ops.toList.take m).take m = ops.toList.take m:=List.take_of_length_le (by omega)
      have t2:res.take m = res:=List.take_of_length_le (by omega)
      rw [t1,t2] at g1 g2
      by_cases hex:∃ j,j < m ∧ dstAt ops j = some t
      · obtain ⟨j,hj,hd⟩:=hex
        obtain ⟨v,u,hr,_⟩:=hat j (ops[j]'(by omega)) (by rw [hget j hj];exact Array.getElem?_eq_getElem _)
        rw [g2 j v u hj hd hr]
        exact (hI.new j t v u (hall j hj) hd hr).1
      · rw [g1 fun j hj hd => hex ⟨j,hj,hd⟩]
        exact hI.old t fun j hj hd => hex ⟨j,hj,hd⟩
    obtain ⟨bs,q1,q2,_,q4⟩:=ups_blocks (P:=P) (w:=w) (s:=s) (w0:=w0) (a:=a) (B:=B) (ops.toList.take m) res 0 (fun j o v f ob d ho hr hd => by
      have hj:j < m:=by have:=(List.getElem?_eq_some_iff.1 ho).1;omega
      rw [hget j hj] at ho
      have:=(hI.new j d v (some (f,ob)) (hall j hj) (by simp [dstAt,ho,hd]) hr).2 f ob rfl
      simpa using this) (fun j j' v v' fo fo' hr hr' he => by
      have hj:j < m:=by have:=(List.getElem?_eq_some_iff.1 hr).1;omega
      have hj':j' < m:=by have:=(List.getElem?_eq_some_iff.1 hr').1;omega
      exact hI.inj j j' v v' fo fo' (hall j hj) (hall j' hj') hr hr' (by simpa using he))
    have hstE:s.st = S true:=by rw [hI.st,hall q hqm]
    have hlen1:s0.st.length ≤ s.st.length:=by rw [hstE];exact hlen0
    obtain ⟨s',k1,k2,k3,k4⟩:=register (upsOf (ops.toList.take m) res) bs s _ hI.sim hI.ev hlen1 hA q1 q2 q4
    rw [hstE] at k3 k4
    refine chain (m:=m) (fun i hi hmi => (hrest (by omega)).2 i hi hmi) hdown (ops.size - m) m (by omega) (Nat.le_refl _) fuel L a w hI.closed.1 (fun i hi => ⟨fun h => hI.pre i h,fun h => hall i h⟩) hf (hfin a w s' k1 k2 k3 k4)
  intro fuel
  induction fuel with
  | zero =>
    intro L a w s B hI hf
    refine hdone 0 L a w s B hI hf fun j hj => ?_
    cases hx:L.getD j false with
    | true => rfl
    | false =>
      have:=count_set (L:=L) (i:=j) (by rw [hI.closed.1];omega) hx
      omega
  | succ fuel ih =>
    intro L a w s B hI hf
    by_cases hall:∀ j,j < m → L.getD j false = true
    · exact hdone _ L a w s B hI hf hall
    · -- some operation of the first phase is ready
      have hsize:=hI.closed.1
      have hmin:∃ j,j < m ∧ j ∈ Region.ready .any ops L:=by
        have hex:∃ j,j < m ∧ L.getD j false = false:=by
          apply Classical.byContradiction
          intro hno
          refine hall fun j hj => ?_
          cases hx:L.getD j false with
          | true => rfl
          | false => exact absurd ⟨j,hj,hx⟩ hno
        obtain ⟨j,hj⟩:=hex
        induction j using Nat.strongRecOn with
        | _ j ihj =>
          by_cases hd:∃ i,i < j ∧ L.getD i false = false
          · obtain ⟨i,hi,hx⟩:=hd
            exact ihj i hi ⟨by omega,hx⟩
          · refine ⟨j,hj.1,(ready_spec hsize).2 ⟨by omega,hj.2,fun i hdep => ?_⟩⟩
            cases hx:L.getD i false with
            | true => rfl
            | false => exact absurd ⟨i,hdown j i hdep,hx⟩ hd
      obtain ⟨j0,_,hj0⟩:=hmin
      refine ⟨fun h0 => by rw [h0] at hj0;simp at hj0,fun i hi => ?_⟩
      obtain ⟨hilt,hifalse,hideps⟩:=(ready_spec hsize).1 hi
      have him:i < m:=by
        apply Classical.byContradiction
        intro hge
        by_cases heq:i = m
        · subst heq
          refine hall fun j hj => ?_
          obtain ⟨hsucc,_⟩:=hrest hilt
          have key:∀ d j,j < i → i - j = d → L.getD j false = true:=by
            intro d
            induction d using Nat.strongRecOn with
            | _ d ihd =>
              intro j hj hd
              obtain ⟨j',h1,h2,h3⟩:=hsucc j hj
              by_cases hj':j' = i
              · subst hj';exact hideps j h3
              · exact hI.closed.2 j' j (ihd (i - j') (by omega) j' (by omega) rfl) h3
          exact key _ j hj rfl
        · have:=hideps _ ((hrest (by omega)).2 i hilt (by omega))
          have:=hI.pre _ this
          omega
      have hoi:ops[i]? = some ops[i]:=Array.getElem?_eq_getElem hilt
      obtain ⟨v,u,hres,hfit,hud,hB⟩:=hat i ops[i] (by rw [hget i him];exact hoi)
      have hA:ActOK w s n0 ⟨e.n,((ops[i]).looksAt ops).map fun t => (t,(envOf ((ops.toList.take m).take i) (res.take i) e).get t)⟩ a:=by
        refine ⟨hI.n,fun t => ?_,hI.marks⟩
        show Rep w s (getM _ t) _
        rw [getM_map (fun t => (envOf ((ops.toList.take m).take i) (res.take i) e).get t)]
        split
        · rename_i hlk
          obtain ⟨g1,g2⟩:=henv i t (by omega)
          by_cases hex:∃ j,j < m ∧ dstAt ops j = some t
          · obtain ⟨j,hj,hd⟩:=hex
            have hdep:=hlook i j _ t him hj hoi hlk hd
            obtain ⟨vj,uj,hrj,_⟩:=hat j (ops[j]'(by omega)) (by rw [hget j hj];exact Array.getElem?_eq_getElem _)
            rw [g2 j vj uj (hdown i j hdep) hd hrj]
            exact (hI.new j t vj uj (hideps j hdep) hd hrj).1
          · rw [g1 fun j hj hd => hex ⟨j,hj,hd⟩]
            exact hI.old t fun j hj hd => hex ⟨j,hj,hd⟩
        · exact .undef _
      have hbq:L.getD q false = true → i ≠ q ∧ dep ops q i = false:=fun hb => by
        refine ⟨fun he => absurd hb (by subst he;rw [hifalse];simp), ?_⟩
        cases hd:dep ops q i with
        | false => rfl
        | true => have:=hI.closed.2 q i hb hd;rw [hifalse] at this;cases this
      have hstep:=hB (L.getD q false) hbq ⟨e.n,((ops[i]).looksAt ops).map fun t => (t,(envOf ((ops.toList.take m).take i) (res.take i) e).get t)⟩ (fun t ht => by show getM _ t = _;rw [getM_map (fun t => (envOf ((ops.toList.take m).take i) (res.take i) e).get t),if_pos ht]) n0 w s a
        (wpAnyIn (Fr r) 0 P .any ops Q fuel (L.setIfInBounds i true)) Q (Nat.le_trans hn0 hI.ev.size) hI.st hI.sim hA (fun x w' s' k1 k2 k3 k4 k5 => ?_)
      · unfold wpOpIn
        rw [hoi]
        exact hstep
      · have hcs:=count_set (L:=L) (i:=i) (by omega) hifalse
        have hwf:=hI.sim.wf
        obtain ⟨bn,hbn⟩:∃ bn,∀ f o,u = some (f,o) → w.heap.size ≤ bn ∧ Pend P w' s' f o x bn:=by
          cases u with
          | none => exact ⟨0,by simp⟩
          | some fo =>
            obtain ⟨f,o⟩:=fo
            obtain ⟨bn,h1,h2⟩:=k5 f o rfl
            exact ⟨bn,fun f' o' he => by simp only [Option.some.injEq,Prod.mk.injEq] at he;obtain ⟨rfl,rfl⟩:=he;exact ⟨h1,h2⟩⟩
        have hdi:∀ j t,j < m → j ≠ i → dstAt ops j = some t → (ops[i]).dst ≠ some t:=fun j t hj hne hd he => hne (hdst j i t hj him hd (by simp [dstAt,hilt,he]))
        refine ih _ (a.put (ops[i]).dst x) w' s' (fun j => if j = i then bn else B j) ⟨hI.closed.set hi,fun j hj => ?_,k3.trans (by rw [getD_set (by omega)];by_cases hiq:i = q <;> simp [hiq]),k1,hI.ev.trans hwf0 hI.sim.len k2,by rw [put_size];exact hI.n,by rw [put_defers];exact hI.marks.evolve k2 hwf,fun t ht => ?_,fun j t vj uj hL hd hrj => ?_,fun j j' v1 v2 fo fo' hL hL' hr hr' hBe => ?_⟩ (by omega)
        · rw [getD_set (by omega)] at hj
          split at hj
          · rename_i he;subst he;exact him
          · exact hI.pre j hj
        · rw [put_other (fun he => ht i him (by simp [dstAt,hilt,he]))]
          exact (hI.old t ht).evolve k2 hwf
        · rw [getD_set (by omega)] at hL
          by_cases hji:j = i
          · subst hji
            rw [hres] at hrj
            simp only [Option.some.injEq,Prod.mk.injEq] at hrj
            obtain ⟨rfl,rfl⟩:=hrj
            have hd':(ops[j]).dst = some t:=by simpa [dstAt,hilt] using hd
            have hlt:t < a.tmps.size:=by
              rw [hd'] at hfit
              have h1:t < (envOf ((ops.toList.take m).take j) (res.take j) e).n:=hfit
              rw [envOf_n] at h1
              exact Nat.lt_of_lt_of_le h1 hI.n
            rw [hd',put_same hlt]
            refine ⟨k4,fun f o hu => ?_⟩
            rw [if_pos rfl]
            obtain ⟨h1,h2⟩:=hbn f o hu
            exact ⟨Nat.le_trans hI.ev.size h1,h2⟩
          · rw [if_neg (fun he => hji he.symm)] at hL
            have hjm:=hI.pre j hL
            rw [put_other (hdi j t hjm hji hd)]
            obtain ⟨h1,h2⟩:=hI.new j t vj uj hL hd hrj
            refine ⟨h1.evolve k2 hwf,fun f o hu => ?_⟩
            rw [if_neg hji]
            obtain ⟨h3,h4⟩:=h2 f o hu
            exact ⟨h3,h4.evolve hI.sim k2⟩
        · rw [getD_set (by omega)] at hL hL'
          have hlt:∀ j v fo,j ≠ i → L.getD j false = true → res[j]? = some (v,some fo) → B j < w.heap.size:=fun j v fo hji hL hr => by
            have hjm:=hI.pre j hL
            obtain ⟨v',u',hr',_,hud',_⟩:=hat j (ops[j]'(by omega)) (by rw [hget j hjm];exact Array.getElem?_eq_getElem _)
            rw [hr] at hr'
            simp only [Option.some.injEq,Prod.mk.injEq] at hr'
            obtain ⟨rfl,rfl⟩:=hr'
            obtain ⟨d,hd⟩:=Option.isSome_iff_exists.1 (hud' rfl)
            obtain ⟨_,h2⟩:=hI.new j d v (some fo) hL (by simp [dstAt,show j < ops.size by omega,hd]) hr
            obtain ⟨_,_,_,h3,_⟩:=(h2 fo.1 fo.2 rfl).2
            exact h3
          have hnew:∀ v fo,res[i]? = some (v,some fo) → w.heap.size ≤ bn:=fun v' fo hr => by
            rw [hres] at hr
            simp only [Option.some.injEq,Prod.mk.injEq] at hr
            exact (hbn fo.1 fo.2 hr.2).1
          by_cases h1:j = i
          · by_cases h2:j' = i
            · omega
            · subst h1
              rw [if_pos rfl,if_neg h2] at hBe
              rw [if_neg (fun he => h2 he.symm)] at hL'
              have:=hlt j' v2 fo' h2 hL' hr'
              have:=hnew v1 fo hr
              omega
          · rw [if_neg (fun he => h1 he.symm)] at hL
            by_cases h2:j' = i
            · subst h2
              rw [if_neg h1,if_pos rfl] at hBe
              have:=hlt j v1 fo h1 hL hr
              have:=hnew v2 fo' hr'
              omega
            · rw [if_neg h1,if_neg h2] at hBe
              rw [if_neg (fun he => h2 he.symm)] at hL'
              exact hI.inj j j' v1 v2 fo fo' hL hL' hr hr' hBe
def nopO (o:Oper):Oper:={ o with op:=.assign (.const (.bool true)),dst:=none,guard:=none }
def lateOK (ops:Array Oper) (m q:Nat) (ls:List Nat):Bool:=(List.range m).all fun i => i == q || dep ops q i || ls.contains i
def awS (P:Program) (gl:Nat → V) (ops:Array Oper) (e1:Env) (st':List O):List Nat → Prop
  | [] => True
  | i :: ls => (∃ o d,ops[i]? = some o ∧ o.guard = none ∧ o.dst = some d ∧ stepA P gl (e1.ev gl) st' o.op fun v u => v = e1.get d ∧ u = none) ∧ awS P gl ops e1 st' ls
theorem awS_mem {e1:Env} {st':List O}:∀ {ls:List Nat},awS P gl ops e1 st' ls → ∀ i ∈ ls,∃ o d,ops[i]? = some o ∧ o.guard = none ∧ o.dst = some d ∧ stepA P gl (e1.ev gl) st' o.op fun v u => v = e1.get d ∧ u = none:=by
  intro ls
  induction ls with
  | nil => intro _ i hi;cases hi
  | cons j ls ih =>
    intro h i hi
    rcases List.mem_cons.1 hi with rfl | hi
    · exact h.1
    · exact ih h.2 i hi
theorem awS_cons {e1:Env} {st':List O} {ls:List Nat} {i d:Nat} {o:Oper} (ho0:ops.toList[i]? = some o) (hg:o.guard = none) (hd:o.dst = some d) (hc:calm o.op = true)
    (h:∀ K2:V → List O → Prop,(∀ v st2,v = e1.get d → K2 v st2) → step1 P gl (e1.ev gl) st' o.op K2) (h2:awS P gl ops e1 st' ls):awS P gl ops e1 st' (i :: ls):=by
  refine ⟨⟨o,d,by simpa using ho0,hg,hd, ?_⟩,h2⟩
  have h1:=h (fun v _ => v = e1.get d ∧ (none:Option ((Nat → V) × O)) = none) (fun v st2 hv => ⟨hv,rfl⟩)
  unfold stepA
  cases hop:o.op <;> rw [hop] at hc h1 <;> first
    | (simp only [calm,Bool.false_eq_true] at hc;done)
    | exact (if_pos hc).symm ▸ h1
    | skip
  rename_i c
  simp only at h1 ⊢
  cases hcal:c.callee with
  | value f => simp only [calm,hcal,Bool.false_eq_true] at hc
  | invoke a b => simp only [calm,hcal,Bool.false_eq_true] at hc
  | builtin b =>
    simp only [calm,hcal] at hc
    cases b <;> first
      | (simp only [Bool.false_eq_true] at hc;done)
      | (simp only [calm,hcal];rw [if_pos trivial];exact h1)
theorem envOf_dst:∀ (l l':List Oper) (res:List (V × Option ((Nat → V) × O))) (e:Env),l.map (·.dst) = l'.map (·.dst) → envOf l res e = envOf l' res e ∧ upsOf l res = upsOf l' res:=by
  intro l
  induction l with
  | nil => intro l' res e h;cases l' with
    | nil => exact ⟨rfl,rfl⟩
    | cons => simp at h
  | cons o l ih =>
    intro l' res e h
    cases l' with
    | nil => simp at h
    | cons o' l' =>
      simp only [List.map_cons,List.cons.injEq] at h
      cases res with
      | nil => exact ⟨rfl,rfl⟩
      | cons p res =>
        obtain ⟨v,u⟩:=p
        simp only [envOf,upsOf,h.1]
        exact ⟨(ih l' res _ h.2).1,by rw [(ih l' res e h.2).2]⟩
theorem envOf_set:∀ (l:List Oper) (res:List (V × Option ((Nat → V) × O))) (e:Env) (q:Nat) (p:V × Option ((Nat → V) × O)),(∀ o,l[q]? = some o → o.dst = none) → envOf l (res.set q p) e = envOf l res e ∧ upsOf l (res.set q p) = upsOf l res:=by
  intro l
  induction l with
  | nil => intro res e q p _;cases res <;> cases q <;> exact ⟨rfl,rfl⟩
  | cons o l ih =>
    intro res e q p h
    cases res with
    | nil => exact ⟨rfl,rfl⟩
    | cons p0 res =>
      obtain ⟨v,u⟩:=p0
      cases q with
      | zero =>
        have:=h o rfl
        obtain ⟨v',u'⟩:=p
        simp only [List.set_cons_zero,envOf,upsOf,this]
        refine ⟨rfl, ?_⟩
        cases u <;> cases u' <;> rfl
      | succ q =>
        have ih':=fun e => ih res e q p (fun o' ho' => h o' (by simpa using ho'))
        simp only [List.set_cons_succ,envOf,upsOf]
        exact ⟨(ih' _).1,by rw [(ih' e).2]⟩
theorem applyUps_len:∀ (ups:List Up) (e:Env) (st:List O),(applyUps ups e st).2.length = st.length + ups.length:=by
  intro ups
  induction ups with
  | nil => intro e st;rfl
  | cons u ups ih => intro e st;obtain ⟨d,f,o⟩:=u;rw [applyUps,ih];simp;omega
theorem upsOf_nil:∀ (l:List Oper) (res:List (V × Option ((Nat → V) × O))),upsOf l res = [] → ∀ (i:Nat) (o:Oper) (v:V) (u:Option ((Nat → V) × O)),l[i]? = some o → res[i]? = some (v,u) → o.dst.isSome = true → u = none:=by
  intro l
  induction l with
  | nil => intro res _ i o v u h;simp at h
  | cons o l ih =>
    intro res h i o' v u h1 h2 h3
    cases res with
    | nil => simp at h2
    | cons p res =>
      obtain ⟨v0,u0⟩:=p
      simp only [upsOf,List.append_eq_nil_iff] at h
      cases i with
      | zero =>
        simp only [List.getElem?_cons_zero,Option.some.injEq,Prod.mk.injEq] at h1 h2
        subst h1
        obtain ⟨rfl,rfl⟩:=h2
        obtain ⟨d,hd⟩:=Option.isSome_iff_exists.1 h3
        cases u0 with
        | none => rfl
        | some fo => obtain ⟨f,ob⟩:=fo;rw [hd] at h;simp [upOf] at h
      | succ i => exact ih res h.2 i o' v u (by simpa using h1) (by simpa using h2) h3
theorem env_agree (hok:anyOK ops m = true) {res:List (V × Option ((Nat → V) × O))} (hlen:res.length = m) {i:Nat} {o:Oper} {t:Tmp} (hi:i < m) (ho:ops[i]? = some o) (ht:t ∈ o.looksAt ops) :
    (envOf (ops.toList.take m) res e).get t = (envOf ((ops.toList.take m).take i) (res.take i) e).get t:=by
  obtain ⟨hm,hdown,hlook,hdst,_⟩:=anyOK_spec hok
  have hget:∀ j,j < m → (ops.toList.take m)[j]? = ops[j]?:=fun j hj => by rw [List.getElem?_take_of_lt hj];simp
  by_cases hex:∃ j,j < m ∧ dstAt ops j = some t
  · obtain ⟨j,hj,hd⟩:=hex
    have hji:=hdown i j (hlook i j o t hi hj ho ht hd)
    obtain ⟨v,u,hrj⟩:∃ v u,res[j]? = some (v,u):=⟨(res[j]'(by omega)).1,(res[j]'(by omega)).2,List.getElem?_eq_getElem _⟩
    have hoj:ops[j]? = some (ops[j]'(by omega)):=Array.getElem?_eq_getElem _
    have hdj:(ops[j]'(by omega)).dst = some t:=by simpa [dstAt,hoj] using hd
    have hno:∀ (k:Nat) (o':Oper),j < k → (ops.toList.take m)[k]? = some o' → o'.dst ≠ some t:=fun k o' hk ho' he => by
      have hkm:k < m:=by have:=(List.getElem?_eq_some_iff.1 ho').1;simp at this;omega
      rw [hget k hkm] at ho'
      have:=hdst j k t hj hkm hd (by simp [dstAt,ho',he])
      omega
    rw [envOf_at _ _ _ _ j _ v u ((hget j hj).trans hoj) hrj hdj hno,
      envOf_at _ _ _ _ j _ v u (by rw [List.getElem?_take_of_lt hji,hget j hj];exact hoj) (by rw [List.getElem?_take_of_lt hji];exact hrj) hdj fun k o' hk ho' => by
        have hki:k < i:=by have:=(List.getElem?_eq_some_iff.1 ho').1;simp at this;omega
        rw [List.getElem?_take_of_lt hki] at ho'
        exact hno k o' hk ho']
  · have hno:∀ (k:Nat) (o':Oper),(ops.toList.take m)[k]? = some o' → o'.dst ≠ some t:=fun k o' ho' he => by
      have hkm:k < m:=by have:=(List.getElem?_eq_some_iff.1 ho').1;simp at this;omega
      rw [hget k hkm] at ho'
      exact hex ⟨k,hkm,by simp [dstAt,ho',he]⟩
    rw [envOf_other _ _ _ _ hno,envOf_other _ _ _ _ fun k o' ho' => by
      have hki:k < i:=by have:=(List.getElem?_eq_some_iff.1 ho').1;simp at this;omega
      rw [List.getElem?_take_of_lt hki] at ho'
      exact hno k o' ho']
theorem AW.anyS {id:Nat} {Q:Exit → Env → List O → Prop} (hfol:P.follows .mixedOrders = true) (m q:Nat) (ls:List Nat) (oq:Oper) (hok:anyOK ops m = true) (hqm:q < m) (hoq0:ops.toList[q]? = some oq) (hg:oq.guard = none) (hd:oq.dst = none) (hls:lateOK ops m q ls = true)
    (h:awA P gl ops ((ops.toList.take m).set q (nopO oq)) e st [] fun e1 s1 => s1 = st ∧ ∃ st',step1 P gl (e1.ev gl) st oq.op (fun v s2 => v = .undef ∧ s2 = st') ∧ st.length = st'.length ∧ awS P gl ops e1 st' ls ∧ awL P gl ops (ops.toList.drop m) e1 st' (Q .normal)):AW P gl r (.region id ops true) Q e st:=fun n0 w s a hn hst hs ha => by
  have hoq:ops[q]? = some oq:=by simpa using hoq0
  refine wpIn_region_any hfol ?_
  have hE0:=Evolve.drawn (w:=w) hs.wf (w.drawn + 1)
  have hS0:=hs.drawn (w.drawn + 1)
  have hA0:=ha.evolve hE0 hs.wf
  obtain ⟨res0,hrun,hK⟩:=awA_run (r:=r) _ _ _ h
  rw [List.nil_append] at hK
  obtain ⟨hm,hdown,hlook,hdstu,hrest0⟩:=anyOK_spec hok
  obtain ⟨l,hl⟩:∃ l,ops.toList.take m = l:=⟨_,rfl⟩
  have hll:l.length = m:=by rw [← hl];simp;omega
  have hget:∀ i,i < m → l[i]? = ops[i]?:=fun i hi => by rw [← hl,List.getElem?_take_of_lt hi];simp
  rw [hl] at hrun hK
  have hmap:∀ (k:Nat),((l.set q (nopO oq)).take k).map (·.dst) = (l.take k).map (·.dst):=fun k => by
    apply List.ext_getElem?
    intro j
    simp only [List.getElem?_map,List.getElem?_take]
    split
    · by_cases hj:q = j
      · subst hj
        rw [List.getElem?_set_self (by omega),hget q hqm,hoq]
        simp [nopO,hd]
      · rw [List.getElem?_set_ne hj]
    · rfl
  have hmapA:(l.set q (nopO oq)).map (·.dst) = l.map (·.dst):=by
    have:=hmap m
    rwa [List.take_of_length_le (by simp [hll]),List.take_of_length_le (by omega)] at this
  obtain ⟨hlen0,hat0⟩:=runA_at _ _ _ hrun
  rw [List.length_set,hll] at hlen0
  obtain ⟨hd1,hd2⟩:=envOf_dst _ _ res0 e hmapA
  have hqdst:∀ o,l[q]? = some o → o.dst = none:=fun o ho => by rw [hget q hqm,hoq] at ho;cases ho;exact hd
  obtain ⟨res,hres⟩:∃ res,res0.set q (.undef,none) = res:=⟨_,rfl⟩
  have hrl:res.length = m:=by rw [← hres,List.length_set];omega
  obtain ⟨hd3,hd4⟩:=envOf_set l res0 e q (.undef,none) hqdst
  rw [hres] at hd3 hd4
  rw [hd1,hd2,← hd3,← hd4] at hK
  obtain ⟨hs1,st',hst',hlen',hS,hrest⟩:=hK
  have hups:upsOf l res = []:=by
    have:=congrArg List.length hs1
    rw [applyUps_len] at this
    exact List.length_eq_zero_iff.1 (by omega)
  rw [hups] at hs1 hst' hS hrest
  simp only [applyUps] at hst' hS hrest
  have hpre:∀ i,envOf ((l.set q (nopO oq)).take i) (res0.take i) e = envOf (l.take i) (res.take i) e:=fun i => by
    rw [(envOf_dst _ _ (res0.take i) e (hmap i)).1,← hres,List.take_set]
    refine ((envOf_set (l.take i) (res0.take i) e q (.undef,none) fun o ho => ?_).1).symm
    rw [List.getElem?_take] at ho
    split at ho
    · exact hqdst o ho
    · cases ho
  have hag:∀ {i:Nat} {o:Oper} {t:Tmp},i < m → ops[i]? = some o → t ∈ o.looksAt ops → (envOf l res e).get t = (envOf (l.take i) (res.take i) e).get t:=fun hi ho ht => by
    have:=env_agree (e:=e) hok hrl hi ho ht
    rwa [hl] at this
  have hL0:(Array.replicate ops.size false).getD q false = false:=by
    simp only [Array.getD_eq_getD_getElem?,Array.getElem?_replicate]
    split <;> rfl
  refine anyQ (S:=fun b => if b then st' else st) (q:=q) (res:=res) (Q:=fun x a' w' => ∃ e' s',Sim P gl w' s' ∧ Evolve w s w' s' ∧ ActOK w' s' n0 e' a' ∧ Q x e' s'.st) hok hqm hrl (fun i o hio => ?_) (w0:={ w with drawn:=w.drawn + 1 }) (s0:=s) hn (by rw [hst];show st.length ≤ st'.length;omega) hs.len (fun a' w' s' k1 k2 k3 k4 => ?_) ops.size _ a _ s (fun _ => 0)
    ⟨⟨by simp,fun i j hi => ?_⟩,fun i hi => ?_,(by rw [hL0];exact hst),hS0,Evolve.refl hS0.wf,hA0.n,hA0.marks,fun t _ => hA0.get t,fun j t v u hL => ?_,fun j j' v v' fo fo' hL => ?_⟩ (by simp [Array.count_replicate])
  · -- each operation
    rw [hl] at hio ⊢
    have him:i < m:=by have:=(List.getElem?_eq_some_iff.1 hio).1;omega
    have hoi:ops[i]? = some o:=by rw [← hget i him];exact hio
    by_cases hiq:i = q
    · subst hiq
      have ho:o = oq:=by rw [hoq] at hoi;cases hoi;rfl
      subst ho
      refine ⟨.undef,none,by rw [← hres,List.getElem?_set_self (by omega)],by rw [hd];trivial,by simp,fun b hb => ?_⟩
      cases b with
      | true => exact absurd rfl (hb rfl).1
      | false =>
        simp only [Bool.false_or,decide_true,if_true,Bool.false_eq_true,if_false]
        intro e' he n0' w1 s1 a1 next Q1 hn1 hst1 hs1' ha1 hk1
        rw [if_pos (by simp [Region.wanted,hg])]
        have hstep:step1 P gl (e'.ev gl) st o.op (fun v s2 => v = .undef ∧ s2 = st'):=step1_congr (fun x hx => by
          cases x with
          | tmp t =>
            have ht:t ∈ o.looksAt ops:=List.mem_append_left _ (List.mem_filterMap.2 ⟨.tmp t,by simpa using hx,rfl⟩)
            exact (hag him hoq ht).trans (he t ht).symm
          | _ => rfl) hst'
        refine step1_sound hstep n0' w1 s1 a1 next Q1 hn1 hst1 hs1' ha1 fun v x w2 s2 j1 j2 j3 ⟨j4,j5⟩ => ?_
        subst j4
        exact hk1 x w2 s2 j1 j2 j5 j3 (by simp)
    · obtain ⟨v,u,hr0,hfit,hus,hB⟩:=hat0 i o (by rw [List.getElem?_set_ne (fun he => hiq he.symm)];exact hio)
      have hri:res[i]? = some (v,u):=by rw [← hres,List.getElem?_set_ne (fun he => hiq he.symm)];exact hr0
      rw [hpre i] at hfit hB
      refine ⟨v,u,hri,hfit,hus,fun b hb => ?_⟩
      cases b with
      | false =>
        simp only [Bool.false_or,decide_eq_false hiq,Bool.false_eq_true,if_false]
        exact hB
      | true =>
        simp only [Bool.true_or,if_true]
        have hdq:=(hb rfl).2
        have hmem:i ∈ ls:=by
          have h1:=List.all_eq_true.1 hls i (List.mem_range.2 him)
          simpa [hiq,hdq] using h1
        obtain ⟨o',d,ho',hg',hdd,hA⟩:=awS_mem hS i hmem
        rw [hoi] at ho'
        cases ho'
        obtain ⟨v',u',⟨hv',hu'⟩,hA2⟩:=stepA_full (r:=r) hA
        have hu:u = none:=upsOf_nil l res hups i o v u hio hri (by rw [hdd];rfl)
        have hve:(envOf l res e).get d = v:=envOf_at l res e d i o v u hio hri hdd fun k o' hk ho' he => by
          have hkm:k < m:=by have:=(List.getElem?_eq_some_iff.1 ho').1;omega
          rw [hget k hkm] at ho'
          have:=hdstu i k d him hkm (by simp [dstAt,hoi,hdd]) (by simp [dstAt,ho',he])
          omega
        subst hu hu'
        rw [hve] at hv'
        subst hv'
        intro e' he n0' w1 s1 a1 next Q1 hn1 hst1 hs1' ha1 hk1
        rw [if_pos (by simp [Region.wanted,hg'])]
        refine hA2 e' (fun x hx => ?_) n0' w1 s1 a1 next Q1 hn1 hst1 hs1' ha1 hk1
        cases x with
        | tmp t =>
          have ht:t ∈ o.looksAt ops:=List.mem_append_left _ (List.mem_filterMap.2 ⟨.tmp t,by simpa using hx,rfl⟩)
          exact (hag him hoi ht).trans (he t ht).symm
        | _ => rfl
  · have hE:=hE0.trans hs.len hs.len k2
    rw [hl,hups] at k3 k4
    simp only [applyUps,if_true] at k3 k4
    have hl':(ops.toList.drop m).length = ops.size - m:=by simp
    rw [← hl']
    refine awL_sound (r:=r) (ops.toList.drop m) m _ _ rfl hrest n0 w' s' a' _ (Nat.le_trans hn hE.size) k4 k1 k3 fun e'' s'' a'' w'' j1 j2 j3 j4 => ⟨e'',s'',j1,hE.trans hs.len k1.len j2,j3,j4⟩
  all_goals (exfalso;simp only [Array.getD_eq_getD_getElem?,Array.getElem?_replicate] at *)
  · split at hi <;> simp at hi
  · split at hi <;> simp at hi
  · split at hL <;> simp at hL
  · split at hL <;> simp at hL
end
end Go.Duo

namespace Go.Duo
open Go
theorem i64w (n:Int) (h1:-9223372036854775808 ≤ n) (h2:n ≤ 9223372036854775807):IntKind.wrap .i64 n = n:=i64_ok h1 h2
theorem getD_lt {α:Type} (f:α → V) (l:List α) (i:Nat) (u:V) (h:i < l.length):(l.map f).getD i u = f (l[i]'h):=getD_map f l i h u
theorem getD_ltI {α:Type} (l:List α) (i:Nat) (u:α) (h:i < l.length):l.getD i u = l[i]'h:=by rw [List.getD_eq_getElem?_getD,List.getElem?_eq_getElem h];rfl
theorem tmod_nn (a b:Int) (h:0 ≤ a):a.tmod b = a % b:=Int.tmod_eq_emod_of_nonneg h
theorem tdiv_nn (a b:Int) (h:0 ≤ a):a.tdiv b = a / b:=Int.tdiv_eq_ediv_of_nonneg h
theorem toNat_sub1 (n:Nat):((n:Int) - 1).toNat = n - 1:=by omega
theorem snoc_drop {α:Type} (a:List α) (c:α):List.drop a.length (a ++ [c]) = [c]:=by simp
theorem snoc_take {α:Type} (a:List α) (c:α):List.take a.length (a ++ [c]) = a:=by simp
theorem snoc_take1 {α:Type} (a:List α) (c:α):List.take (a.length + 1) (a ++ [c]) = a ++ [c]:=List.take_of_length_le (by simp)
def PureL (l:List V):Prop:=∀ c ∈ l,PureV c
theorem PureL.nil:PureL []:=by intro c hc;cases hc
theorem PureL.cons {c:V} {l:List V} (h:PureV c) (h2:PureL l):PureL (c :: l):=by
  intro d hd
  rcases List.mem_cons.1 hd with rfl | hd
  · exact h
  · exact h2 d hd
theorem PureL.app {l m:List V} (h:PureL l) (h2:PureL m):PureL (l ++ m):=by
  intro d hd
  rcases List.mem_append.1 hd with hd | hd
  · exact h d hd
  · exact h2 d hd
def rowOK (v:V):Prop:=v = .nil ∨ ∃ es,v = .sl es none
theorem rowOK.nil:rowOK .nil:=.inl rfl
theorem rowOK.sl (es:List V):rowOK (.sl es none):=.inr ⟨es,rfl⟩
theorem rowOK.one {v:V} (h:rowOK v):v.one = true:=by rcases h with rfl | ⟨es,rfl⟩ <;> rfl
theorem rowOK.cells {v:V} (h:rowOK v):v.cells = [v]:=by rcases h with rfl | ⟨es,rfl⟩ <;> rfl
theorem rowOK.le {v:V} (h:rowOK v) (st:List O):V.le st v v.bare:=by
  rcases h with rfl | ⟨es,rfl⟩
  · exact V.le_nil _
  · exact V.le_of_eq (by rw [V.bare])
theorem rowOK.pure {v:V} (h:rowOK v):PureV v:=by
  rcases h with rfl | ⟨es,rfl⟩
  · exact PureV.nil
  · exact PureV.sl _ _
theorem rowOK.bare {v:V} (h:rowOK v):rowOK v.bare ∧ v.bare.bare = v.bare:=by
  rcases h with rfl | ⟨es,rfl⟩ <;> exact ⟨.inr ⟨_,by rw [V.bare]⟩,by simp [V.bare]⟩
theorem _root_.Go.Duo.Call.argle {P:Program} {gl:Nat → V} {k:FuncId} {as bs:List V} {st:List O} {K:V → List O → Prop} (h:CLe st as bs) (hc:Duo.Call P gl k bs st K):Duo.Call P gl k as st K:=fun w s xs hst hs hxs => by
  obtain ⟨hl,hle⟩:=h.spec
  refine hc w s xs hst hs ⟨hl ▸ hxs.1,fun i c x hci hxi => ?_⟩
  have hi:i < as.length:=by rw [hl];exact (List.getElem?_eq_some_iff.1 hci).1
  exact hle i as[i] c (List.getElem?_eq_getElem hi) hci w s x hst (hxs.2 i as[i] x (List.getElem?_eq_getElem hi) hxi)
end Go.Duo

namespace Go.Duo
open Go
def Pr.kind:Pr → Int | .mk k _ _ _ _ _ _ => k
def Pr.chan:Pr → Str | .mk _ c _ _ _ _ _ => c
def Pr.labels:Pr → List Str | .mk _ _ _ l _ _ _ => l
theorem encP_f0 (p:Pr) (u:V):(encP p).cells.headD u = .int .i64 p.kind:=by obtain ⟨k,c,v,l,a,t,ks⟩:=p;rw [encP_mk];rfl
theorem encP_f1 (p:Pr) (u:V):((encP p).cells.drop 1).headD u = .str p.chan:=by obtain ⟨k,c,v,l,a,t,ks⟩:=p;rw [encP_mk];rfl
theorem encP_f3 (p:Pr) (u:V):((encP p).cells.drop 3).headD u = .sl (p.labels.map .str) none:=by obtain ⟨k,c,v,l,a,t,ks⟩:=p;rw [encP_mk];rfl
structure Rx where
  o:Int
  i:Int
  c:Int
  p:Bool
  deriving DecidableEq
def encR (r:Rx):V:=.agg [.int .i64 r.o,.int .i64 r.i,.int .i64 r.c,.bool r.p]
def Rx.zero:Rx:=⟨0,0,0,false⟩
theorem encR_cells (r:Rx):(encR r).cells = [.int .i64 r.o,.int .i64 r.i,.int .i64 r.c,.bool r.p]:=rfl
def encI (n:Int):V:=.int .i64 n
def meetL (a b:Pr):Bool:=match epL a.chan with
  | some (k,p) => decide (nameL k (!p) = b.chan)
  | none => false
theorem meetL_eq (a b:Pr):meetL a b = (epO a.chan && decide (dualN a.chan = b.chan)):=by unfold meetL dualN epO epK epP;cases epL a.chan <;> simp
def fitL (a b:Pr):Bool:=decide (a.kind = 2) && decide (b.kind = 3) || decide (a.kind = 4) && decide (b.kind = 5) && decide (a.labels.headD [] ∈ b.labels)
def hasL (a:Pr):Prop:=a.kind = 4 → a.labels ≠ []
def pickI (len:Nat) (n:Int):Int:=if len = 0 then -1 else n % len
def pickR (l:List Rx) (n:Int):Rx:=l.getD (n % (l.length:Int)).toNat Rx.zero
theorem tmod_lo (n:Int) {m:Int} (h:0 < m):-m < n.tmod m:=by
  rcases Int.le_total 0 n with h1 | h1
  · rw [Int.tmod_eq_emod_of_nonneg h1];have:=Int.emod_nonneg n (show m ≠ 0 by omega);omega
  · have h2:=Int.neg_tmod (a:=n) (b:=m)
    have h3:(-n).tmod m = (-n) % m:=Int.tmod_eq_emod_of_nonneg (by omega)
    have h4:=Int.emod_lt_of_pos (-n) h
    omega
theorem tmod_hi (n:Int) {m:Int} (h:0 < m):n.tmod m < m:=by
  rcases Int.le_total 0 n with h1 | h1
  · rw [Int.tmod_eq_emod_of_nonneg h1];exact Int.emod_lt_of_pos n h
  · have h2:=Int.neg_tmod (a:=n) (b:=m)
    have h3:(-n).tmod m = (-n) % m:=Int.tmod_eq_emod_of_nonneg (by omega)
    have h4:=Int.emod_nonneg (-n) (show m ≠ 0 by omega)
    omega
theorem tmod_emod (n:Int) (m:Int):(n.tmod m) % m = n % m:=by
  have h:n = m * n.tdiv m + n.tmod m:=(Int.mul_tdiv_add_tmod n m).symm
  conv => rhs;rw [h]
  rw [Int.add_comm,Int.add_mul_emod_self_left]
theorem tmod_add (n:Int) (m:Int):(n.tmod m + m) % m = n % m:=by rw [Int.add_emod_right,tmod_emod]
theorem Real.row {α:Type} {f:α → V} {l:List α} (h:Real (.sl (l.map f) none)):l.length ≤ 9223372036854775807:=by simpa [maxLen] using h.sl.1
section
variable {α β:Type}
def partL (n:Nat) (f:Nat → Nat → Option α) (i k:Nat):List α:=(List.range i).flatMap (fun i => (List.range n).filterMap (f i)) ++ (List.range k).filterMap (f i)
def pairsL (n:Nat) (f:Nat → Nat → Option α):List α:=(List.range n).flatMap fun i => (List.range n).filterMap (f i)
theorem partL_zero (n:Nat) (f:Nat → Nat → Option α):partL n f 0 0 = []:=rfl
theorem partL_end (n:Nat) (f:Nat → Nat → Option α):partL n f n 0 = pairsL n f:=by simp [partL,pairsL]
theorem partL_succ (n:Nat) (f:Nat → Nat → Option α) (i k:Nat):partL n f i (k + 1) = partL n f i k ++ (f i k).toList:=by
  rw [partL,partL,List.range_succ,List.filterMap_append,← List.append_assoc]
  cases h:f i k <;> simp [h]
theorem partL_some {n:Nat} {f:Nat → Nat → Option α} {i k:Nat} {x:α} (h:f i k = some x):partL n f i (k + 1) = partL n f i k ++ [x]:=by rw [partL_succ,h];rfl
theorem partL_none {n:Nat} {f:Nat → Nat → Option α} {i k:Nat} (h:f i k = none):partL n f i (k + 1) = partL n f i k:=by rw [partL_succ,h];simp
theorem partL_turn (n:Nat) (f:Nat → Nat → Option α) (i:Nat):partL n f i n = partL n f (i + 1) 0:=by
  simp [partL,List.range_succ,List.flatMap_append]
theorem range_flat_le (n:Nat) (f:Nat → Nat → Option α):∀ i,((List.range i).flatMap fun i => (List.range n).filterMap (f i)).length ≤ i * n:=by
  intro i
  induction i with
  | zero => simp
  | succ i ih =>
    rw [List.range_succ,List.flatMap_append,List.length_append,Nat.succ_mul]
    have h1:((List.range n).filterMap (f i)).length ≤ n:=by have:=List.length_filterMap_le (f i) (List.range n);rwa [List.length_range] at this
    simp only [List.flatMap_cons,List.flatMap_nil,List.append_nil]
    omega
theorem partL_len {n:Nat} {f:Nat → Nat → Option α} {i k:Nat} (hn:n ≤ 1000000) (hi:i ≤ n) (hk:k ≤ n):(partL n f i k).length ≤ 1000001000000:=by
  have h1:=range_flat_le n f i
  have h2:((List.range k).filterMap (f i)).length ≤ k:=by have:=List.length_filterMap_le (f i) (List.range k);rwa [List.length_range] at this
  have h3:i * n ≤ 1000000 * 1000000:=Nat.mul_le_mul (by omega) hn
  rw [partL,List.length_append]
  omega
theorem mem_pairsL {n:Nat} {f:Nat → Nat → Option α} {x:α}:x ∈ pairsL n f ↔ ∃ i k,i < n ∧ k < n ∧ f i k = some x:=by
  unfold pairsL
  simp only [List.mem_flatMap,List.mem_filterMap,List.mem_range]
  constructor
  · rintro ⟨i,hi,k,hk,h⟩;exact ⟨i,k,hi,hk,h⟩
  · rintro ⟨i,k,hi,hk,h⟩;exact ⟨i,hi,k,hk,h⟩
end
def Pr.z:Pr:=.mk 0 [] [] [] [] (.mk 0 0 [] 0 [] []) []
def rxAt (l:List Pr) (i k:Nat):Option Rx:=if i ≠ k ∧ meetL (l.getD i .z) (l.getD k .z) = true ∧ fitL (l.getD i .z) (l.getD k .z) = true then some ⟨i,k,epK (l.getD i .z).chan,epP (l.getD i .z).chan⟩ else none
def listL (l:List Pr):List Rx:=pairsL l.length (rxAt l)
theorem rxAt_some {l:List Pr} {i k:Nat} (hi:i < l.length) (hk:k < l.length) (h:i ≠ k) (h1:meetL l[i] l[k] = true) (h2:fitL l[i] l[k] = true):rxAt l i k = some ⟨i,k,epK l[i].chan,epP l[i].chan⟩:=by
  unfold rxAt;rw [getD_ltI _ _ _ hi,getD_ltI _ _ _ hk,if_pos ⟨h,h1,h2⟩]
theorem rxAt_none {l:List Pr} {i k:Nat} (hi:i < l.length) (hk:k < l.length) (h:i = k ∨ meetL l[i] l[k] = false ∨ fitL l[i] l[k] = false):rxAt l i k = none:=by
  unfold rxAt;rw [getD_ltI _ _ _ hi,getD_ltI _ _ _ hk,if_neg]
  rintro ⟨h1,h2,h3⟩
  rcases h with h | h | h
  · exact h1 h
  · rw [h] at h2;cases h2
  · rw [h] at h3;cases h3
def Ty.z:Ty:=.mk 0 0 [] 0 [] []
end Go.Duo

namespace Go.Duo
open Go
theorem PB:(∀ (t:Ty) (l:List V),((encT t).cells ++ l).take 6 = (encT t).cells) ∧
    (∀ (t:Ty) (l:List V),((encT t).cells ++ l).drop 6 = l) ∧
    (∀ (t:Ty) (l:List V),((encT t).cells ++ l).length = l.length + 6) ∧
    (∀ (t:Ty) (l:List V),((encT t).cells ++ l).all V.one = l.all V.one) ∧
    (∀ (t:Ty),(encT t).cells.take 6 = (encT t).cells) ∧
    (∀ (t:Ty),.agg (encT t).cells = encT t) ∧
    (∀ (t:Ty),(encT t).cells.length = 6) ∧
    (∀ (t:Ty),(encT t).cells.all V.one = true) ∧
    (∀ (p:Pr),(encP p).cells.take 12 = (encP p).cells) ∧
    (∀ (p:Pr),.agg (encP p).cells = encP p) ∧
    (∀ (p:Pr),(encP p).cells.length = 12) ∧
    (∀ (p:Pr),(encP p).cells.all V.one = true) ∧
    (∀ (p:Pr) (n:Nat),((encP p).cells.drop n).length = 12 - n) ∧
    (∀ (p:Pr) (u:V),(encP p).cells.headD u = .int .i64 p.kind) ∧
    (∀ (p:Pr) (u:V),((encP p).cells.drop 1).headD u = .str p.chan) ∧
    (∀ (p:Pr) (u:V),((encP p).cells.drop 3).headD u = .sl (p.labels.map .str) none) ∧
    (∀ (s:Str),epV s = .tuple [.int .i64 (epK s),.bool (epP s),.bool (epO s)]) ∧
    (∀ (s:Str),dualV s = .tuple [.str (dualN s),.bool (epO s)]) :=
  ⟨@take_T,@drop_T,@len_T,@all_T,@encT_take,@encT_cells,@encT_len,@encT_one,@encP_take,@encP_cells,@encP_len,@encP_one,@encP_dlen,@encP_f0,@encP_f1,@encP_f3,@epV_eq,@dualV_eq⟩
end Go.Duo
