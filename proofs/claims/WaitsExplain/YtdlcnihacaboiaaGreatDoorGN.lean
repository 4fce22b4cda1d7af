/-
  A part of the proof.
-/
import Derived.Test.YtdlcnihacaboiaaGreatDoorGM
import Derived.Lib.ItoaMem
import Derived.Lib.ItoaLen
import Derived.Test.YtdlcnihacaboiaaGreatDoorGG
set_option linter.all false
namespace Go.Duo
open Go
end Go.Duo

namespace Go.Duo
open Go
end Go.Duo

namespace Go.Duo
open Go
def nw (i:Nat):Str:=36 :: Lib.itoa (i:Int)
def news (n:Nat):List Str:=(List.range n).map nw
abbrev keysN (t:Tb):Prop:=(t.map Prod.fst).Nodup
end Go.Duo

namespace Go.Duo
open Go
def short (s:Str):Prop:=s.length ≤ 30
theorem itoa_short {n:Int} (h:inI n):short (Lib.itoa n):=by
  have:=Lib.itoa_length_le n h.1 h.2
  unfold short;omega
theorem epN_short {k:Nat} (h:k ≤ 1000000) (b:Bool):short (valueS (epN k b)):=by
  have:=Lib.itoa_length_le (k:Int) (by omega) (by omega)
  simp only [valueS,epN,nameL,short,Int.reduceEq,reduceIte,false_and,List.length_append,List.length_cons,List.length_nil]
  omega
theorem shape_labels {t:Ty} (h:shapeB t = true):t.labels.length ≤ t.kids.length:=by
  unfold shapeB at h
  split at h
  · simp only [Bool.and_eq_true,decide_eq_true_eq] at h;omega
  split at h
  · simp only [Bool.and_eq_true,decide_eq_true_eq] at h;omega
  split at h
  · simp only [Bool.and_eq_true,decide_eq_true_eq] at h;omega
  split at h
  · simp only [Bool.and_eq_true,decide_eq_true_eq] at h;omega
  split at h
  · simp only [Bool.and_eq_true,decide_eq_true_eq] at h;omega
  · cases h
theorem nodeTs_all:∀ (l:List Ty) (names:List Str) (b:Bool),nodeTs l names b = 0 → ∀ u ∈ l,∃ b',nodeT u names names.length b' = 0:=by
  intro l;induction l with
  | nil => intro names b _ u hu;simp at hu
  | cons t l ih =>
    intro names b h u hu
    rw [nodeTs] at h
    by_cases h0:nodeT t names names.length b = 0
    · rw [if_pos h0] at h
      rcases List.mem_cons.1 hu with rfl | hu
      · exact ⟨b,h0⟩
      · exact ih names true h u hu
    · rw [if_neg h0] at h;exact absurd h h0
theorem shape_8 {t:Ty} (h:shapeB t = true) (hk:t.kind = 8):t.kids.length = 1:=by
  unfold shapeB at h
  rw [if_neg (by omega),if_neg (by omega),if_neg (by omega),if_pos hk] at h
  simp only [Bool.and_eq_true,decide_eq_true_eq] at h;omega
theorem shape_9 {t:Ty} (h:shapeB t = true) (hk:t.kind = 9):t.kids.length = 0:=by
  unfold shapeB at h
  rw [if_neg (by omega),if_neg (by omega),if_neg (by omega),if_neg (by omega),if_pos hk] at h
  simp only [Bool.and_eq_true,decide_eq_true_eq] at h;omega
theorem nodeT_smL:∀ (t:Ty) (names:List Str) (g:Nat) (se:Bool),t.sz ≤ 1000000 → nodeT t names g se = 0 → smL t:=Ty.ind' fun t ih names g se hsz h => by
  rw [nodeT_eq] at h
  have hz:=Ty.sz_eq t
  have hzl:=Ty.szs_len t.kids
  by_cases hs:shapeB t = false ∨ (se = true ∧ sessB t = false)
  · rw [if_pos hs] at h;cases h
  rw [if_neg hs] at h
  have hsh:shapeB t = true:=by
    cases hc:shapeB t with
    | true => rfl
    | false => exact absurd (.inl hc) hs
  have hl:=shape_labels hsh
  have hkid:∀ u ∈ t.kids,u.sz ≤ 1000000:=fun u hu => by have:=Ty.szs_mem hu;omega
  refine (smL_iff t).2 ⟨by omega,fun u hu => ?_⟩
  by_cases h9:t.kind = 9
  · have:=shape_9 hsh h9
    rw [List.eq_nil_of_length_eq_zero this] at hu;simp at hu
  rw [if_neg h9] at h
  by_cases h8:t.kind = 8
  · rw [if_pos h8] at h
    have h1:=shape_8 hsh h8
    match hk:t.kids,h1 with
    | [k],_ =>
      rw [hk] at h hu
      rw [nodeT1] at h
      rw [List.mem_singleton.1 hu]
      exact ih k (by rw [hk];simp) _ _ _ (hkid k (by rw [hk];simp)) h
  · rw [if_neg h8] at h
    obtain ⟨b',h2⟩:=nodeTs_all _ _ _ h u hu
    exact ih u hu _ _ _ (hkid u hu) h2
theorem plain_smL {q:Pr} (h:plainB q = true):smL q.typ:=by
  unfold plainB at h
  rw [sameT_eq] at h
  simp only [Bool.and_eq_true,decide_eq_true_eq] at h
  obtain ⟨⟨⟨_,h1⟩,h2⟩,_⟩:=h
  have h3:q.typ.labels = []:=h1
  have h4:q.typ.kids.length = 0:=h2
  refine (smL_iff _).2 ⟨by rw [h3];simp,fun u hu => ?_⟩
  rw [List.eq_nil_of_length_eq_zero h4] at hu;simp at hu
theorem raiseT_sz (n:Int):∀ t:Ty,(raiseT n t).sz = t.sz:=Ty.ind' fun t ih => by
  rw [raiseT_eq,Ty.sz_eq,Ty.sz_eq t]
  show 1 + Ty.szs (t.kids.map (raiseT n)) = _
  congr 1
  have:∀ l:List Ty,(∀ u ∈ l,(raiseT n u).sz = u.sz) → Ty.szs (l.map (raiseT n)) = Ty.szs l:=by
    intro l;induction l with
    | nil => intro _;rfl
    | cons u l ihl => intro h;rw [List.map_cons,Ty.szs,Ty.szs,h u (List.mem_cons_self ..),ihl fun v hv => h v (List.mem_cons_of_mem _ hv)]
  exact this _ ih
theorem raiseT_smL (n:Int):∀ t:Ty,smL t → smL (raiseT n t):=Ty.ind' fun t ih h => by
  obtain ⟨h1,h2⟩:=(smL_iff t).1 h
  rw [raiseT_eq]
  refine (smL_iff _).2 ⟨h1,fun u hu => ?_⟩
  obtain ⟨v,hv,rfl⟩:=List.mem_map.1 hu
  exact ih v hv (h2 v hv)
def ksB (q:Pr):Prop:=(q.kind = 2 → 0 < q.args.length ∧ 0 < q.kids.length) ∧ (q.kind = 3 → 0 < q.kids.length) ∧ (q.kind = 4 → 0 < q.kids.length) ∧ (q.kind = 5 → q.labels.length ≤ q.kids.length)
structure nodeG (p:Pg) (g u:Bool) (bd:List Str) (q:Pr):Prop where
  chan:preK q.kind = true → q.chan ∈ bd ∨ short q.chan
  args:∀ x ∈ q.args,okV x ∧ ((x.kind = 1 ∧ x.name ∈ bd) ∨ short (valueS x))
  sm:q.labels.length ≤ 1000000 ∧ q.args.length ≤ 1000000 ∧ q.typ.sz ≤ 1000000 ∧ smL q.typ
  sel:q.kind = 4 → q.labels ≠ []
  new:q.kind = 6 → 0 < q.kids.length ∧ ¬ q.chan = q.var ∧ inS q.chan ∧ inS q.var
  call:q.kind = 8 → (u = true → g = true) ∧ ∃ i,∃ h:i < p.defs.length,findI p.defs q.chan = i ∧ (p.defs[i]).params.length = q.args.length
  ks:ksB q
mutual
def goodP (p:Pg) (g:Bool):Pr → Bool → List Str → Prop
  | .mk k c v l a t ks,u,bd => nodeG p g u bd (.mk k c v l a t ks) ∧ goodPs p g ks (u && !preK k) (bd ++ innerL (.mk k c v l a t ks))
def goodPs (p:Pg) (g:Bool):List Pr → Bool → List Str → Prop
  | [],_,_ => True
  | q :: qs,u,bd => goodP p g q u bd ∧ goodPs p g qs u bd
end
theorem goodPs_iff {p:Pg} {g u:Bool} {bd:List Str} (l:List Pr):goodPs p g l u bd ↔ ∀ q ∈ l,goodP p g q u bd:=by
  induction l with
  | nil => simp [goodPs]
  | cons q l ih => simp [goodPs,ih]
theorem goodP_iff {p:Pg} {g u:Bool} {bd:List Str} (q:Pr):goodP p g q u bd ↔ nodeG p g u bd q ∧ ∀ k ∈ q.kids,goodP p g k (u && !preK q.kind) (bd ++ innerL q):=by
  cases q;rw [goodP,goodPs_iff];rfl
theorem goodP_lift {p:Pg} {g:Bool}:∀ (q:Pr) (u u':Bool) (bd:List Str),goodP p g q u bd → goodP p true q u' bd:=Pr.ind' fun q ih u u' bd h => by
  obtain ⟨h1,h2⟩:=(goodP_iff q).1 h
  exact (goodP_iff q).2 ⟨⟨h1.chan,h1.args,h1.sm,h1.sel,h1.new,fun hk => ⟨fun _ => rfl,(h1.call hk).2⟩,h1.ks⟩,fun k hk => ih k hk _ _ _ (h2 k hk)⟩
theorem goodP_smLP {p:Pg} {g:Bool}:∀ (q:Pr) (u:Bool) (bd:List Str),goodP p g q u bd → smLP q:=Pr.ind' fun q ih u bd h => by
  obtain ⟨h1,h2⟩:=(goodP_iff q).1 h
  exact (smLP_iff q).2 ⟨h1.sm.1,h1.sm.2.1,h1.sm.2.2.1,h1.sm.2.2.2,fun k hk => ih k hk _ _ (h2 k hk)⟩
section
variable {ns:List Str} {vs:List Vl}
theorem putP_kind (q:Pr) (bd:List Str):(putP ns vs q bd).kind = q.kind:=by rw [putP_eq];rfl
theorem putP_chan (q:Pr) (bd:List Str):(putP ns vs q bd).chan = putC ns vs bd q.kind q.chan:=by rw [putP_eq];rfl
theorem putP_var (q:Pr) (bd:List Str):(putP ns vs q bd).var = q.var:=by rw [putP_eq];rfl
theorem putP_labels (q:Pr) (bd:List Str):(putP ns vs q bd).labels = q.labels:=by rw [putP_eq];rfl
theorem putP_args (q:Pr) (bd:List Str):(putP ns vs q bd).args = q.args.map (putA ns vs bd):=by rw [putP_eq];rfl
theorem putP_typ (q:Pr) (bd:List Str):(putP ns vs q bd).typ = raiseT 0 q.typ:=by rw [putP_eq];rfl
theorem putP_kids (q:Pr) (bd:List Str):(putP ns vs q bd).kids = q.kids.map fun k => putP ns vs k (bd ++ innerL q):=by rw [putP_eq];rfl
theorem putC_same {bd:List Str} {k:Int} {c:Str} (h:preK k = false):putC ns vs bd k c = c:=by
  unfold preK at h
  refine if_neg fun ⟨h1,h2,_⟩ => ?_
  simp [h1,h2] at h
theorem putP_inner (q:Pr) (bd:List Str):innerL (putP ns vs q bd) = innerL q:=by
  unfold innerL
  rw [putP_kind,putP_var,putP_chan]
  by_cases h6:q.kind = 6
  · rw [putC_same (by rw [h6];rfl)]
  · rw [if_neg h6,if_neg h6]
theorem putP_sz:∀ (q:Pr) (bd:List Str),(putP ns vs q bd).sz = q.sz:=Pr.ind' fun q ih bd => by
  rw [Pr.sz_eq,Pr.sz_eq q,putP_kids]
  congr 1
  have:∀ l:List Pr,(∀ u ∈ l,∀ bd,(putP ns vs u bd).sz = u.sz) → Pr.szs (l.map fun k => putP ns vs k (bd ++ innerL q)) = Pr.szs l:=by
    intro l;induction l with
    | nil => intro _;rfl
    | cons u l ihl => intro h;rw [List.map_cons,Pr.szs,Pr.szs,h u (List.mem_cons_self ..),ihl fun v hv => h v (List.mem_cons_of_mem _ hv)]
  exact this _ ih
theorem putP_dp:∀ (q:Pr) (bd:List Str),(putP ns vs q bd).dp = q.dp:=Pr.ind' fun q ih bd => by
  rw [Pr.dp_eq,Pr.dp_eq q,putP_kids]
  congr 1
  have:∀ l:List Pr,(∀ u ∈ l,∀ bd,(putP ns vs u bd).dp = u.dp) → Pr.dps (l.map fun k => putP ns vs k (bd ++ innerL q)) = Pr.dps l:=by
    intro l;induction l with
    | nil => intro _;rfl
    | cons u l ihl => intro h;rw [List.map_cons,Pr.dps,Pr.dps,h u (List.mem_cons_self ..),ihl fun v hv => h v (List.mem_cons_of_mem _ hv)]
  exact this _ ih
theorem idxI_mem {l:List Str} {s:Str} (h:s ∈ l):0 ≤ idxI l s ∧ (idxI l s).toNat < l.length:=by
  have h2:=idxI_lt l s
  have:0 ≤ idxI l s:=by
    unfold idxI
    cases h3:l.findIdx? (fun d => decide (d = s)) with
    | none =>
      rw [List.findIdx?_eq_none_iff] at h3
      have:=h3 s h
      simp at this
    | some i => simp only;omega
  omega
theorem idxI_not {l:List Str} {s:Str} (h:s ∉ l):idxI l s < 0:=by
  have:idxI l s = -1:=idxI_none (Nat.le_refl _) fun j hj _ he => h (he ▸ List.getElem_mem hj)
  omega
theorem put_good {p:Pg} {g:Bool} (hl:ns.length = vs.length) (hv:∀ x ∈ vs,okV x ∧ short (valueS x)):∀ (q:Pr) (u:Bool) (bd:List Str),goodP p g q u (ns ++ bd) → goodP p g (putP ns vs q bd) u bd:=Pr.ind' fun q ih u bd h => by
  obtain ⟨h1,h2⟩:=(goodP_iff q).1 h
  refine (goodP_iff _).2 ⟨⟨fun hk => ?_,fun x hx => ?_, ?_,fun hk => ?_,fun hk => ?_,fun hk => ?_, ?_⟩,fun k hk => ?_⟩
  · rw [putP_kind] at hk
    have hk2:=hk
    unfold preK at hk2
    simp only [Bool.and_eq_true,decide_eq_true_eq] at hk2
    rw [putP_chan]
    by_cases hb:q.chan ∈ bd
    · rw [putC_n3 hb];exact .inl hb
    by_cases hn:q.chan ∈ ns
    · obtain ⟨h3,h4⟩:=idxI_mem hn
      rw [putC_yes hk2.1 hk2.2 hb h3 (by omega)]
      exact .inr (hv _ (List.getElem_mem _)).2
    · rw [putC_n4 (idxI_not hn)]
      rcases h1.chan hk with h3 | h3
      · rcases List.mem_append.1 h3 with h3 | h3
        · exact absurd h3 hn
        · exact absurd h3 hb
      · exact .inr h3
  · rw [putP_args] at hx
    obtain ⟨y,hy,rfl⟩:=List.mem_map.1 hx
    obtain ⟨h3,h4⟩:=h1.args y hy
    by_cases hyk:y.kind = 1
    · by_cases hb:y.name ∈ bd
      · rw [putA_n3 hb];exact ⟨h3,.inl ⟨hyk,hb⟩⟩
      by_cases hn:y.name ∈ ns
      · obtain ⟨h5,h6⟩:=idxI_mem hn
        rw [putA_yes hyk h5 hb (by omega)]
        have h7:=hv _ (List.getElem_mem (l:=vs) (n:=(idxI ns y.name).toNat) (by omega))
        exact ⟨h7.1,.inr h7.2⟩
      · rw [putA_n2 (idxI_not hn)]
        refine ⟨h3, ?_⟩
        rcases h4 with ⟨_,h4⟩ | h4
        · rcases List.mem_append.1 h4 with h4 | h4
          · exact absurd h4 hn
          · exact absurd h4 hb
        · exact .inr h4
    · rw [putA_n1 hyk]
      refine ⟨h3, ?_⟩
      rcases h4 with ⟨h4,_⟩ | h4
      · exact absurd h4 hyk
      · exact .inr h4
  · rw [putP_labels,putP_args,putP_typ,List.length_map,raiseT_sz]
    exact ⟨h1.sm.1,h1.sm.2.1,h1.sm.2.2.1,raiseT_smL 0 _ h1.sm.2.2.2⟩
  · rw [putP_kind] at hk;rw [putP_labels];exact h1.sel hk
  · rw [putP_kind] at hk
    rw [putP_kids,putP_chan,putP_var,putC_same (by rw [hk];rfl),List.length_map]
    exact h1.new hk
  · rw [putP_kind] at hk
    rw [putP_chan,putC_same (by rw [hk];rfl),putP_args,List.length_map]
    exact h1.call hk
  · unfold ksB
    rw [putP_kind,putP_args,putP_kids,putP_labels,List.length_map,List.length_map]
    exact h1.ks
  · rw [putP_kids] at hk
    obtain ⟨k',hk',rfl⟩:=List.mem_map.1 hk
    rw [putP_kind,putP_inner]
    refine ih k' hk' _ _ ?_
    have h3:=h2 k' hk'
    rwa [List.append_assoc] at h3
end
theorem copy_put:∀ (q:Pr) (bd:List Str),copyP q = putP [] [] q bd:=Pr.ind' fun q ih bd => by
  rw [copyP_eq,putP_eq]
  have h1:putC [] [] bd q.kind q.chan = q.chan:=putC_n4 (idxI_not (by simp))
  have h2:q.args.map (putA [] [] bd) = q.args:=by
    conv => rhs;rw [← List.map_id q.args]
    exact List.map_congr_left fun x _ => putA_n2 (idxI_not (by simp))
  rw [h1,h2]
  congr 1
  exact List.map_congr_left fun k hk => ih k hk _
theorem wrap_twice (x:Int):IntKind.wrap .i64 (IntKind.wrap .i64 (x + 0) + 0) = IntKind.wrap .i64 (x + 0):=by
  have h:∀ y:Int,IntKind.wrap .i64 y = if 9223372036854775808 ≤ y % 18446744073709551616 then y % 18446744073709551616 - 18446744073709551616 else y % 18446744073709551616:=fun y => by
    unfold IntKind.wrap
    simp [IntKind.signed,IntKind.bits]
  rw [h,h]
  split <;> split <;> omega
theorem raise_twice:∀ t:Ty,raiseT 0 (raiseT 0 t) = raiseT 0 t:=Ty.ind' fun t ih => by
  rw [raiseT_eq 0 t,raiseT_eq]
  simp only [Ty.kind,Ty.name,Ty.shift,Ty.labels,Ty.kids,List.map_map]
  congr 1
  · unfold raisePrio
    by_cases h:4 ≤ t.kind ∧ t.kind ≤ 7
    · rw [if_pos h]
      simp only [Ty.kind,Ty.prio]
      exact (if_pos h).trans (wrap_twice _)
    · rw [if_neg h]
      simp only [Ty.kind,Ty.prio]
      exact if_neg h
  · exact List.map_congr_left fun k hk => ih k hk
theorem copy_twice:∀ q:Pr,copyP (copyP q) = copyP q:=Pr.ind' fun q ih => by
  rw [copyP_eq q,copyP_eq]
  simp only [Pr.kind,Pr.chan,Pr.var,Pr.labels,Pr.args,Pr.typ,Pr.kids,List.map_map,raise_twice]
  congr 1
  exact List.map_congr_left fun k hk => ih k hk
structure thrG (p:Pg) (x:Pr):Prop where
  pre:preK x.kind = true
  good:goodP p true x true []
  sz:x.sz ≤ 100
  cp:copyP x = x
theorem thrG.hasL {p:Pg} {x:Pr} (h:thrG p x):hasL x:=((goodP_iff x).1 h.good).1.sel
theorem thrG.short {p:Pg} {x:Pr} (h:thrG p x):short x.chan:=by
  rcases ((goodP_iff x).1 h.good).1.chan h.pre with h1 | h1
  · simp at h1
  · exact h1
def wgt (g:Bool) (n:Nat):Nat:=if g = true then 100 * n else n
theorem wgt_le (g:Bool) {a b:Nat} (h:a + 1 ≤ b):wgt g a + 1 ≤ wgt g b:=by
  unfold wgt;split <;> omega
theorem wgt_mono (g:Bool) {a b:Nat} (h:a ≤ b):wgt g a ≤ wgt g b:=by
  unfold wgt;split <;> omega
theorem wgt_add (g:Bool) (a b:Nat):wgt g (a + b) = wgt g a + wgt g b:=by
  unfold wgt;split <;> omega
theorem copyP_f (q:Pr):(copyP q).kind = q.kind ∧ (copyP q).chan = q.chan ∧ (copyP q).labels = q.labels:=by
  rw [copyP_eq];exact ⟨rfl,rfl,rfl⟩
def addG (p:Pg) (g:Bool) (n:Nat):Prop:=∀ (q:Pr) (c:Cf),goodP p g q true [] → q.dp + (if g = true then 101 else 0) ≤ n → q.sz ≤ 100 → c.th.length + wgt g q.sz ≤ 100000 → c.ch.length + wgt g q.sz ≤ 100000 →
  okF p n c q ∧ ∃ a b,addF p n c q = ⟨c.th ++ a,c.ch ++ b⟩ ∧ a.length ≤ wgt g q.sz ∧ b.length ≤ wgt g q.sz ∧ ∀ x ∈ a,thrG p x
theorem fold_good {p:Pg} {g:Bool} {n:Nat} (ih:addG p g n):∀ (l:List Pr) (c:Cf),(∀ k ∈ l,goodP p g k true [] ∧ k.dp + (if g = true then 101 else 0) ≤ n ∧ k.sz ≤ 100) → c.th.length + wgt g (Pr.szs l) ≤ 100000 → c.ch.length + wgt g (Pr.szs l) ≤ 100000 →
    (∀ (i:Nat) (h:i < l.length),okF p n ((l.take i).foldl (addF p n) c) l[i]) ∧ ∃ a b,l.foldl (addF p n) c = ⟨c.th ++ a,c.ch ++ b⟩ ∧ a.length ≤ wgt g (Pr.szs l) ∧ b.length ≤ wgt g (Pr.szs l) ∧ ∀ x ∈ a,thrG p x:=by
  intro l;induction l with
  | nil =>
    intro c _ _ _
    exact ⟨fun i h => by simp at h,[],[],by simp,by simp,by simp,by simp⟩
  | cons k l ihl =>
    intro c hk h1 h2
    rw [Pr.szs,wgt_add] at h1 h2
    obtain ⟨hg,hd,hs⟩:=hk k (List.mem_cons_self ..)
    obtain ⟨hok,a,b,he,ha,hb,hx⟩:=ih k c hg hd hs (by omega) (by omega)
    have hl1:(addF p n c k).th.length = c.th.length + a.length:=by rw [he];simp
    have hl2:(addF p n c k).ch.length = c.ch.length + b.length:=by rw [he];simp
    obtain ⟨h3,a',b',he',ha',hb',hx'⟩:=ihl (addF p n c k) (fun x hx => hk x (List.mem_cons_of_mem _ hx)) (by omega) (by omega)
    refine ⟨fun i h => ?_,a ++ a',b ++ b', ?_, ?_, ?_, ?_⟩
    · cases i with
      | zero => exact hok
      | succ i => exact h3 i (by simpa using h)
    · rw [List.foldl_cons,he',he];simp
    · rw [Pr.szs,wgt_add,List.length_append];omega
    · rw [Pr.szs,wgt_add,List.length_append];omega
    · intro x hx2
      rcases List.mem_append.1 hx2 with h | h
      · exact hx x h
      · exact hx' x h
structure defOK (p:Pg):Prop where
  defs:∀ d ∈ p.defs,d.body.sz ≤ 100 ∧ goodP p false d.body true (d.params.map Pm.name)
theorem add_good {p:Pg} (hd:defOK p):∀ (n:Nat) (g:Bool),addG p g n:=by
  intro n;induction n with
  | zero => intro g q c _ h;rw [Pr.dp_eq] at h;omega
  | succ n ih =>
    intro g q c hg hdp hsz h1 h2
    obtain ⟨hn,hk⟩:=(goodP_iff q).1 hg
    have hz:=Pr.sz_eq q
    have hdq:=Pr.dp_eq q
    have hw:1 ≤ wgt g q.sz:=by unfold wgt;split <;> omega
    have hb:(c.th.length ≤ 100000 ∧ c.ch.length ≤ 100000 ∧ q.sz ≤ 1000 ∧ smLP q):=⟨by omega,by omega,by omega,goodP_smLP q _ _ hg⟩
    by_cases hp:2 ≤ q.kind ∧ q.kind ≤ 5
    · refine ⟨⟨hb,fun h => by omega,fun h => by omega,fun h => by omega⟩,[copyP q],[], ?_,by simpa using hw,by simp, ?_⟩
      · rw [addF_pre hp.1 hp.2,List.append_nil]
      · intro x hx
        rw [List.mem_singleton.1 hx]
        obtain ⟨c1,c2,c3⟩:=copyP_f q
        refine ⟨by rw [c1];unfold preK;simp [hp.1,hp.2], ?_,by rw [copy_put q [],putP_sz];exact hsz,copy_twice q⟩
        rw [copy_put q []]
        exact put_good rfl (by simp) q true [] (goodP_lift q _ _ _ hg)
    by_cases h6:q.kind = 6
    · obtain ⟨h0,hne,hic,hiv⟩:=hn.new h6
      have hk0:=hk _ (List.getElem_mem h0)
      have hkz:=kidP0_sz h0
      have hkd:(q.kids[0]).dp < q.dp:=by have:=Pr.dps_mem (List.getElem_mem h0);omega
      have hin:innerL q = [q.chan,q.var]:=by unfold innerL;rw [if_neg (by omega),if_pos h6]
      rw [hin,h6,show (true && !preK 6) = true from rfl,List.nil_append] at hk0
      have hp2:=put_good (ns:=[q.chan,q.var]) (vs:=[epN c.ch.length true,epN c.ch.length false]) (p:=p) (g:=g) rfl (fun x hx => by
        simp only [List.mem_cons,List.not_mem_nil,or_false] at hx
        rcases hx with rfl | rfl <;> exact ⟨epN_ok (by omega) _,epN_short (by omega) _⟩) q.kids[0] true [] (by rw [List.append_nil];exact hk0)
      rw [← openL_eq h0] at hp2
      have hoz:(openL c.ch.length q).sz = (q.kids[0]).sz:=by rw [openL_eq h0,putP_sz]
      have hod:(openL c.ch.length q).dp = (q.kids[0]).dp:=by rw [openL_eq h0,putP_dp]
      have hwl:=wgt_le g (show (q.kids[0]).sz + 1 ≤ q.sz by omega)
      obtain ⟨hok,a,b,he,ha,hb',hx⟩:=ih g (openL c.ch.length q) ⟨c.th,c.ch ++ [raiseT 0 q.typ]⟩ hp2 (by omega) (by omega) (by rw [hoz];simp only [];omega) (by rw [hoz];simp only [List.length_append,List.length_cons,List.length_nil];omega)
      rw [hoz] at ha hb'
      refine ⟨⟨hb,fun _ => ⟨h0,hne,hic,hiv,hok⟩,fun h => by omega,fun h => by omega⟩,a,raiseT 0 q.typ :: b, ?_,by omega,by rw [List.length_cons];omega,hx⟩
      rw [addF_6 h6 h0,← openL_eq h0,he]
      simp
    by_cases h7:q.kind = 7
    · have hin:innerL q = []:=by unfold innerL;rw [if_neg (by omega),if_neg (by omega)]
      have hwm:=wgt_mono g (show Pr.szs q.kids ≤ q.sz by omega)
      obtain ⟨hok,a,b,he,ha,hb',hx⟩:=fold_good (ih g) q.kids c (fun k hk' => by
        have h3:=hk k hk'
        rw [hin,h7,show (true && !preK 7) = true from rfl,List.append_nil] at h3
        have h4:=Pr.dps_mem hk'
        have h5:=Pr.szs_mem hk'
        exact ⟨h3,by omega,by omega⟩) (by omega) (by omega)
      exact ⟨⟨hb,fun h => by omega,fun _ => hok,fun h => by omega⟩,a,b,by rw [addF_7 h7,he],by omega,by omega,hx⟩
    by_cases h8:q.kind = 8
    · obtain ⟨hgt,i,hi,hf,hpl⟩:=hn.call h8
      replace hgt:=hgt rfl
      subst hgt
      obtain ⟨hbz,hbg⟩:=hd.defs _ (List.getElem_mem hi)
      have hbd:=Pr.dp_le (p.defs[i]).body
      have hbs:=goodP_smLP _ _ _ hbg
      have hp2:=put_good (ns:=(p.defs[i]).params.map Pm.name) (vs:=q.args) (p:=p) (g:=false) (by rw [List.length_map];exact hpl) (fun x hx => by
        obtain ⟨h3,h4⟩:=hn.args x hx
        rcases h4 with ⟨_,h4⟩ | h4
        · simp at h4
        · exact ⟨h3,h4⟩) (p.defs[i]).body true [] (by rw [List.append_nil];exact hbg)
      have hwt:wgt true q.sz = 100 * q.sz:=rfl
      have hwf:∀ z,wgt false z = z:=fun z => rfl
      have hdp':q.dp + 101 ≤ n + 1:=by simpa using hdp
      obtain ⟨hok,a,b,he,ha,hb',hx⟩:=ih false _ c hp2 (by rw [putP_dp];simp only [Bool.false_eq_true,reduceIte];omega) (by rw [putP_sz];omega) (by rw [putP_sz,hwf];omega) (by rw [putP_sz,hwf];omega)
      rw [putP_sz,hwf] at ha hb'
      refine ⟨⟨hb,fun h => by omega,fun h => by omega,fun _ => ⟨i,hi,hf,hpl,fun x hx => (hn.args x hx).1,by omega,hbs,hok⟩⟩,a,b, ?_,by omega,by omega,hx⟩
      rw [addF_8 h8 hi hf,he]
    · refine ⟨⟨hb,fun h => by omega,fun h => by omega,fun h => by omega⟩,[],[], ?_,by simp,by simp,by simp⟩
      rw [addF_no (by omega),List.append_nil,List.append_nil]
theorem valueB_short {x:Vl} (h:valueB x = true) (ho:okV x) (hk:¬ x.kind = 1):short (valueS x):=by
  unfold valueB at h
  simp only [Bool.or_eq_true,Bool.and_eq_true,decide_eq_true_eq] at h
  rcases h with (⟨h,_⟩ | ⟨h,_⟩) | ⟨h,hn,_⟩
  · exact absurd h hk
  · unfold valueS;rw [if_pos h];exact itoa_short ho.2.2
  · unfold valueS
    rw [if_neg (by omega)]
    by_cases h1:x.n = 1
    · rw [if_pos ⟨h,h1⟩];unfold short;simp
    · rw [if_neg (fun hc => h1 hc.2),if_pos h];unfold short;simp
theorem nodeB_sm {q:Pr} (h:nodeB q = true) (hz:q.sz ≤ 1000) (ht:q.typ.sz ≤ 300):q.labels.length ≤ 1000000 ∧ (¬ q.kind = 8 → q.args.length ≤ 1) ∧ smL q.typ ∧ (q.kind = 4 → q.labels ≠ []) ∧ (q.kind = 6 → 0 < q.kids.length ∧ ¬ q.chan = q.var) ∧ (∀ x ∈ q.args,valueB x = true):=by
  have hzl:=Pr.szs_len q.kids
  have hzz:=Pr.sz_eq q
  unfold nodeB at h
  rw [Bool.and_eq_true] at h
  obtain ⟨ha,h⟩:=h
  have hva:∀ x ∈ q.args,valueB x = true:=fun x hx => List.all_eq_true.1 ha x hx
  by_cases h1:q.kind = 1
  · rw [if_pos h1] at h
    simp only [Bool.and_eq_true,decide_eq_true_eq] at h
    exact ⟨by omega,fun _ => by omega,plain_smL h.2.2.2.2.2,fun _ => by omega,fun _ => by omega,hva⟩
  rw [if_neg h1] at h
  by_cases h2:q.kind = 2
  · rw [if_pos h2] at h
    simp only [Bool.and_eq_true,decide_eq_true_eq] at h
    exact ⟨by omega,fun _ => by omega,plain_smL h.2.2.2.2.2,fun _ => by omega,fun _ => by omega,hva⟩
  rw [if_neg h2] at h
  by_cases h3:q.kind = 3
  · rw [if_pos h3] at h
    simp only [Bool.and_eq_true,decide_eq_true_eq] at h
    exact ⟨by omega,fun _ => by omega,plain_smL h.2.2.2.2.2,fun _ => by omega,fun _ => by omega,hva⟩
  rw [if_neg h3] at h
  by_cases h4:q.kind = 4
  · rw [if_pos h4] at h
    simp only [Bool.and_eq_true,decide_eq_true_eq] at h
    exact ⟨by omega,fun _ => by omega,plain_smL h.2.2.2.2.2.2,fun _ hc => by rw [hc] at h;simp at h,fun _ => by omega,hva⟩
  rw [if_neg h4] at h
  by_cases h5:q.kind = 5
  · rw [if_pos h5] at h
    simp only [Bool.and_eq_true,decide_eq_true_eq] at h
    exact ⟨by omega,fun _ => by omega,plain_smL h.2.2.2.2.2.2,fun _ => by omega,fun _ => by omega,hva⟩
  rw [if_neg h5] at h
  by_cases h6:q.kind = 6
  · rw [if_pos h6] at h
    simp only [Bool.and_eq_true,decide_eq_true_eq,ne_eq] at h
    have hr:=h.2.2.2.2.2.2.1
    unfold rightT at hr
    have hsm:smL q.typ:=by
      split at hr
      · cases hr
      · exact nodeT_smL _ _ _ _ (by omega) hr
    exact ⟨by omega,fun _ => by omega,hsm,fun _ => by omega,fun _ => ⟨by omega,h.2.2.1⟩,hva⟩
  rw [if_neg h6] at h
  by_cases h7:q.kind = 7
  · rw [if_pos h7] at h
    simp only [Bool.and_eq_true,decide_eq_true_eq] at h
    exact ⟨by omega,fun _ => by omega,plain_smL h.2.2.2.2.2.2,fun _ => by omega,fun _ => by omega,hva⟩
  rw [if_neg h7] at h
  by_cases h8:q.kind = 8
  · rw [if_pos h8] at h
    simp only [Bool.and_eq_true,decide_eq_true_eq] at h
    exact ⟨by omega,fun hn => absurd h8 hn,plain_smL h.2.2.2.2,fun _ => by omega,fun _ => by omega,hva⟩
  · rw [if_neg h8] at h;cases h
theorem nodeB_ks {q:Pr} (h:nodeB q = true):ksB q:=by
  unfold nodeB at h
  rw [Bool.and_eq_true] at h
  obtain ⟨ha,h⟩:=h
  refine ⟨fun hk => ?_,fun hk => ?_,fun hk => ?_,fun hk => ?_⟩ <;> (rw [hk] at h;simp at h;omega)
theorem callE_zero {w:Pg} {c:Str} {n:Nat} {g:Bool} (h:callE w c n g = 0):g = true ∧ ∃ i,∃ h:i < w.defs.length,findI w.defs c = i ∧ (w.defs[i]).params.length = n:=by
  by_cases hf:findI w.defs c < 0
  · rw [callE_neg hf] at h;cases h
  have hlt:=findI_lt w.defs c
  have hl:(findI w.defs c).toNat < w.defs.length:=by omega
  rw [callE_pos (by omega) hl] at h
  by_cases h1:(w.defs[(findI w.defs c).toNat]).params.length ≠ n
  · rw [if_pos h1] at h;cases h
  rw [if_neg h1] at h
  have h2:(w.defs[(findI w.defs c).toNat]).params.length = n:=Classical.not_not.1 h1
  refine ⟨?_,_,hl,by omega,h2⟩
  cases g with
  | true => rfl
  | false => rw [if_pos rfl] at h;cases h
theorem node_good {p:Pg} {g:Bool} (hpl:∀ d ∈ p.defs,d.params.length ≤ 20):∀ (q:Pr) (sc:List Str) (gd u:Bool),nodeC p q sc gd = 0 → nodesB q = true → okP q → tyS q → q.sz ≤ 1000 → (u = true → gd = g) → goodP p g q u sc:=Pr.ind' fun q ih sc gd u hc hb ho ht hz hu => by
  have hzl:=Pr.szs_len q.kids
  have hzz:=Pr.sz_eq q
  rw [nodeC_eq] at hc
  by_cases c1:preK q.kind = true ∧ q.chan ∉ sc
  · rw [if_pos c1] at hc;cases hc
  rw [if_neg c1] at hc
  by_cases c2:(q.args.any fun x => decide (x.kind = 1) && decide (x.name ∉ sc)) = true
  · rw [if_pos c2] at hc;cases hc
  rw [if_neg c2] at hc
  by_cases c3:((innerL q).any fun x => decide (x ∈ sc)) = true
  · rw [if_pos c3] at hc;cases hc
  rw [if_neg c3] at hc
  by_cases c4:q.kind = 8 ∧ callE p q.chan q.args.length gd ≠ 0
  · rw [if_pos c4] at hc;exact absurd hc c4.2
  rw [if_neg c4,nodeCs_eq,firstE_zero] at hc
  rw [nodesB_eq,Bool.and_eq_true,nodesBs_eq,List.all_eq_true] at hb
  obtain ⟨t1,t2⟩:=(tyS_iff q).1 ht
  obtain ⟨b1,b2,b3,b4,b5,b6⟩:=nodeB_sm hb.1 hz t1
  have h8:q.kind = 8 → gd = true ∧ ∃ i,∃ h:i < p.defs.length,findI p.defs q.chan = i ∧ (p.defs[i]).params.length = q.args.length:=fun hk =>
    callE_zero (Classical.byContradiction fun h => c4 ⟨hk,h⟩)
  refine (goodP_iff q).2 ⟨⟨fun hk => ?_,fun x hx => ?_,⟨b1, ?_,by omega,b3⟩,b4,fun hk => ⟨(b5 hk).1,(b5 hk).2,ho.chan,ho.var⟩,fun hk => ?_,nodeB_ks hb.1⟩,fun k hk => ?_⟩
  · exact .inl (Classical.byContradiction fun h => c1 ⟨hk,h⟩)
  · have hox:=ho.args.2 x hx
    refine ⟨hox, ?_⟩
    by_cases hk:x.kind = 1
    · refine .inl ⟨hk,Classical.byContradiction fun h => c2 (List.any_eq_true.2 ⟨x,hx, ?_⟩)⟩
      simp [hk,h]
    · exact .inr (valueB_short (b6 x hx) hox hk)
  · by_cases hk:q.kind = 8
    · obtain ⟨_,i,hi,_,h2⟩:=h8 hk
      have:=hpl _ (List.getElem_mem hi)
      omega
    · have:=b2 hk;omega
  · obtain ⟨h1,h2⟩:=h8 hk
    exact ⟨fun hut => by rw [← hu hut,h1],h2⟩
  · have h1:=hc _ (List.mem_map.2 ⟨k,hk,rfl⟩)
    have h2:=Pr.szs_mem hk
    refine ih k hk _ _ _ h1 (hb.2 k hk) (ho.kid hk) (t2 k hk) (by omega) fun hut => ?_
    simp only [Bool.and_eq_true,Bool.not_eq_true'] at hut
    rw [hut.2,Bool.or_false]
    exact hu hut.1
theorem findN {n:Nat} {f:Nat → Bool} (h:firstN n f = none):∀ i,i < n → f i = false:=fun i hi => by
  unfold firstN at h
  rw [List.find?_eq_none] at h
  have:=h i (List.mem_range.2 hi)
  simpa using this
theorem check_zero {p:Pg} (h:(checkL p).1 = 0):progE p = 0 ∧ (∀ i (hi:i < p.defs.length),nodeC p p.defs[i].body (p.defs[i].params.map Pm.name) false = 0) ∧ nodeC p p.main [] true = 0:=by
  unfold checkL at h
  by_cases h1:progE p ≠ 0
  · rw [if_pos h1] at h;exact absurd h h1
  rw [if_neg h1] at h
  cases h2:firstN p.defs.length (dupD p) with
  | some i => rw [h2] at h;cases h
  | none =>
    rw [h2] at h
    simp only at h
    cases h3:firstN p.defs.length (fun i => decide (bodyE p i ≠ 0)) with
    | some i =>
      rw [h3] at h
      simp only at h
      have:=(List.find?_eq_some_iff_append.1 h3).1
      simp [h] at this
    | none =>
      rw [h3] at h
      refine ⟨Classical.not_not.1 h1,fun i hi => ?_,h⟩
      have:=findN h3 i hi
      rw [← bodyE_eq hi]
      simpa using this
theorem rightP_nodes {q:Pr} (h:rightP q = 0):nodesB q = true:=by
  unfold rightP at h
  split at h
  · cases h
  split at h
  · assumption
  · cases h
theorem progE_zero {p:Pg} (h:progE p = 0):nodesB p.main = true ∧ ∀ d ∈ p.defs,nodesB d.body = true:=by
  unfold progE at h
  split at h
  · cases h
  split at h
  · rename_i h1;exact absurd h h1
  rename_i h1
  split at h
  · rename_i h2;exact absurd h h2
  rename_i h2
  have h3:=Classical.not_not.1 h1
  rw [firstE_zero] at h3
  exact ⟨rightP_nodes (Classical.not_not.1 h2),fun d hd => rightP_nodes (h3 _ (List.mem_map.2 ⟨d,hd,rfl⟩))⟩
theorem fewPr_100 {t:Pr} {n:Int} (hn:0 ≤ n ∧ n ≤ 100) (h:fewPr t n = true):t.sz ≤ 100 ∧ tyS t:=by
  have h2:=fewPr_sm (by omega) (by omega) h
  unfold fewPr at h
  simp only [Bool.and_eq_true,decide_eq_true_eq] at h
  have h3:=fewPr_sz (by omega) h.1
  exact ⟨by omega,h2.2⟩
theorem little_100 {p:Pg} {n:Int} (hn:0 ≤ n ∧ n ≤ 100) (h:littleB p n = true):p.defs.length ≤ 20 ∧ (p.main.sz ≤ 100 ∧ tyS p.main) ∧ ∀ d ∈ p.defs,(d.body.sz ≤ 100 ∧ tyS d.body) ∧ d.params.length ≤ 20:=by
  rw [littleB_eq] at h
  simp only [Bool.and_eq_true,decide_eq_true_eq,List.all_eq_true] at h
  obtain ⟨h2,h3,h4⟩:=h
  refine ⟨h2,fewPr_100 hn h3,fun d hd => ?_⟩
  have h5:=h4 d hd
  unfold littleD at h5
  simp only [Bool.and_eq_true,decide_eq_true_eq,List.all_eq_true] at h5
  exact ⟨fewPr_100 hn h5.1,h5.2.1⟩
def startN:Nat:=300
def startC (p:Pg):Cf:=addF p startN ⟨[],[]⟩ p.main
theorem prog_good {p:Pg} {n:Int} (hn:0 ≤ n ∧ n ≤ 100) (hp:okPg p) (h:rightPg p n = true):p.defs.length ≤ 20 ∧ defOK p ∧ goodP p true p.main true [] ∧ p.main.sz ≤ 100:=by
  unfold rightPg at h
  simp only [Bool.and_eq_true,decide_eq_true_eq] at h
  obtain ⟨hl,hc⟩:=h
  obtain ⟨l1,⟨l2,l3⟩,l4⟩:=little_100 hn hl
  obtain ⟨c1,c2,c3⟩:=check_zero hc
  obtain ⟨e1,e2⟩:=progE_zero c1
  have hpl:∀ d ∈ p.defs,d.params.length ≤ 20:=fun d hd => (l4 d hd).2
  have hd:defOK p:=⟨fun d hdm => by
    obtain ⟨i,hi,rfl⟩:=List.mem_iff_getElem.1 hdm
    obtain ⟨⟨h1,h2⟩,_⟩:=l4 _ hdm
    exact ⟨h1,node_good hpl _ _ false true (c2 i hi) (e2 _ hdm) (hp.defs _ hdm).2.1 h2 (by omega) fun _ => rfl⟩⟩
  exact ⟨l1,hd,node_good hpl _ _ true true c3 e1 hp.main l3 (by omega) fun _ => rfl,l2⟩
theorem start_good {p:Pg} (hd:defOK p) (hg:goodP p true p.main true []) (l2:p.main.sz ≤ 100):okF p startN ⟨[],[]⟩ p.main ∧ (startC p).th.length ≤ 10000 ∧ (startC p).ch.length ≤ 10000 ∧ ∀ x ∈ (startC p).th,thrG p x:=by
  have hdp:=Pr.dp_le p.main
  have hw:wgt true p.main.sz = 100 * p.main.sz:=rfl
  obtain ⟨hok,a,b,he,ha,hb,hx⟩:=add_good hd startN true p.main ⟨[],[]⟩ hg (by simp only [reduceIte,startN];omega) (by omega) (by simp only [List.length_nil];omega) (by simp only [List.length_nil];omega)
  have hs:(startC p).th = a:=by unfold startC;rw [he];rfl
  have hs2:(startC p).ch = b:=by unfold startC;rw [he];rfl
  rw [hs,hs2]
  exact ⟨hok,by omega,by omega,hx⟩
theorem start_all {p:Pg} (hp:okPg p) (h:rightPg p 100 = true):p.defs.length ≤ 1000000 ∧ okF p startN ⟨[],[]⟩ p.main ∧ (startC p).th.length ≤ 1000000 ∧ (∀ x ∈ (startC p).th,hasL x) ∧ ∀ x ∈ (startC p).th,x.chan.length ≤ 2147483647:=by
  obtain ⟨l1,hd,hg,l2⟩:=prog_good (by omega) hp h
  obtain ⟨h1,h2,_,h3⟩:=start_good hd hg l2
  refine ⟨by omega,h1,by omega,fun x hm => (h3 x hm).hasL,fun x hm => ?_⟩
  have:=(h3 x hm).short
  unfold short at this
  omega
end Go.Duo
