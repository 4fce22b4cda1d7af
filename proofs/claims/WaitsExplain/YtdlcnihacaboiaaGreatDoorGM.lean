/-
  A part of the proof.
-/
import Derived.Test.YtdlcnihacaboiaaGreatDoorGJ
import Derived.Test.YtdlcnihacaboiaaGreatDoorGI
import Derived.Test.YtdlcnihacaboiaaGreatDoorGG
import Derived.Lib.ParseIntBCases
import Derived.Lib.Join
import Derived.Test.YtdlcnihacaboiaaGreatDoorGH
import Derived.Test.YtdlcnihacaboiaaGreatDoorGD
import Derived.ControlIn
import Derived.Test.YtdlcnihacaboiaaGreatDoorGL
set_option linter.all false
namespace Go.Duo
open Go
def outA (l:List Vl):List Str:=(l.filter fun x => decide (x.kind = 1)).map Vl.name
def freeB (b:List Str) (l:List Str):List Str:=l.filter fun s => decide (s ∉ b)
theorem outA_yes {l:List Vl} {i:Nat} (h:i < l.length) (hk:l[i].kind = 1):outA (l.take (i + 1)) = outA (l.take i) ++ [l[i].name]:=by
  unfold outA;rw [take_at h,List.filter_append,List.map_append];simp [hk]
theorem outA_no {l:List Vl} {i:Nat} (h:i < l.length) (hk:¬ l[i].kind = 1):outA (l.take (i + 1)) = outA (l.take i):=by
  unfold outA;rw [take_at h,List.filter_append,List.map_append];simp [hk]
theorem freeB_yes {b l:List Str} {i:Nat} (h:i < l.length) (hk:l[i] ∉ b):freeB b (l.take (i + 1)) = freeB b (l.take i) ++ [l[i]]:=by
  unfold freeB;rw [take_at h,List.filter_append];simp [hk]
theorem freeB_no {b l:List Str} {i:Nat} (h:i < l.length) (hk:l[i] ∈ b):freeB b (l.take (i + 1)) = freeB b (l.take i):=by
  unfold freeB;rw [take_at h,List.filter_append];simp [hk]
theorem outA_len (l:List Vl):(outA l).length ≤ l.length:=by
  unfold outA;rw [List.length_map];exact List.length_filter_le _ _
theorem freeB_len (b l:List Str):(freeB b l).length ≤ l.length:=List.length_filter_le _ _
def outP (p:Pr):List Str:=(if preK p.kind = true then [p.chan] else []) ++ outA p.args
def bndP (p:Pr) (b:List Str):List Str:=b ++ (if p.kind = 3 then [p.var] else if p.kind = 6 then [p.chan,p.var] else [])
theorem usesP_eq (p:Pr) (b:List Str):usesP p b = freeB b (outP p) ++ usesPs p.kids (bndP p b):=by
  cases p;rw [usesP];rfl
theorem outP_len (p:Pr):(outP p).length ≤ p.args.length + 1:=by
  unfold outP;rw [List.length_append]
  have:=outA_len p.args
  split <;> simp <;> omega
theorem usesPs_take {ks:List Pr} {b:List Str} {i:Nat} (h:i < ks.length):usesPs (ks.take (i + 1)) b = usesPs (ks.take i) b ++ usesP ks[i] b:=by
  have key:∀ (l l2:List Pr),usesPs (l ++ l2) b = usesPs l b ++ usesPs l2 b:=fun l l2 => by
    induction l with
    | nil => rfl
    | cons q l ih => rw [List.cons_append,usesPs,usesPs,ih,List.append_assoc]
  rw [take_at h,key];simp [usesPs]
theorem uses_len (p:Pr):∀ b,smA p → (usesP p b).length ≤ p.sz * 2000001:=by
  induction p using Pr.ind with
  | _ k c v l a ty ks ih =>
    intro b h
    obtain ⟨h1,h2,h3,h4⟩:=(smA_iff _).1 h
    rw [usesP_eq,List.length_append,Pr.sz_eq]
    have e1:=freeB_len b (outP (.mk k c v l a ty ks))
    have e2:=outP_len (.mk k c v l a ty ks)
    have e3:∀ (b:List Str) (l:List Pr),(∀ q ∈ l,q ∈ ks) → (usesPs l b).length ≤ Pr.szs l * 2000001:=fun b l => by
      induction l with
      | nil => intro _;simp [usesPs]
      | cons q l ih2 =>
        intro hl
        rw [usesPs,List.length_append,Pr.szs]
        have:=ih q (hl q (by simp)) b (h4 q (hl q (by simp)))
        have:=ih2 fun x hx => hl x (List.mem_cons_of_mem _ hx)
        omega
    have:=e3 (bndP (.mk k c v l a ty ks) b) ks fun _ h => h
    simp only [Pr.args,Pr.kids] at e2 h2 this ⊢
    omega
theorem usesPs_len {ks:List Pr} {b:List Str} (h:∀ q ∈ ks,smA q):(usesPs ks b).length ≤ Pr.szs ks * 2000001:=by
  induction ks with
  | nil => simp [usesPs]
  | cons q l ih2 =>
    rw [usesPs,List.length_append,Pr.szs]
    have:=uses_len q b (h q (by simp))
    have:=ih2 fun x hx => h x (List.mem_cons_of_mem _ hx)
    omega
end Go.Duo

namespace Go.Duo
open Go
section
variable {p:Pg}
theorem dup_1 {i:Nat} (h:i < p.defs.length) (hf:findI p.defs p.defs[i].name < i):dupD p i = true:=by
  unfold dupD;rw [List.getElem?_eq_getElem h];simp only [decide_eq_true hf,Bool.true_or]
theorem dup_2 {i j k:Nat} (h:i < p.defs.length) (hk:k < p.defs[i].params.length) (hj:j < k) (he:(p.defs[i].params[j]'(by omega)).name = p.defs[i].params[k].name):dupD p i = true:=by
  unfold dupD;rw [List.getElem?_eq_getElem h]
  have:¬ (p.defs[i].params.map Pm.name).Nodup:=fun hn => by
    have h1:=List.getElem_inj (h₀:=(by simp;omega:j < (p.defs[i].params.map Pm.name).length)) (h₁:=(by simp;omega:k < (p.defs[i].params.map Pm.name).length)) hn
    simp only [List.getElem_map] at h1
    have:=h1.1 he;omega
  simp only [decide_eq_true this,Bool.or_true]
theorem dup_no {i:Nat} (h:i < p.defs.length) (hf:¬ findI p.defs p.defs[i].name < i) (hn:∀ (b:Nat) (hb:b < p.defs[i].params.length) (a:Nat) (ha:a < b),¬ (p.defs[i].params[a]'(by omega)).name = p.defs[i].params[b].name):dupD p i = false:=by
  unfold dupD;rw [List.getElem?_eq_getElem h]
  have:(p.defs[i].params.map Pm.name).Nodup:=by
    rw [List.nodup_iff_pairwise_ne,List.pairwise_iff_getElem]
    intro a b ha hb hab
    simp only [List.length_map] at ha hb
    simp only [List.getElem_map]
    exact hn b hb a hab
  simp only [decide_eq_false hf,Bool.false_or,decide_eq_false (fun h => h this:¬ ¬ (p.defs[i].params.map Pm.name).Nodup)]
theorem bodyE_eq {i:Nat} (h:i < p.defs.length):bodyE p i = nodeC p p.defs[i].body (p.defs[i].params.map Pm.name) false:=by
  unfold bodyE;rw [List.getElem?_eq_getElem h]
theorem bodyE_take {i k:Nat} (h:i < p.defs.length) (hk:p.defs[i].params.length ≤ k):bodyE p i = nodeC p p.defs[i].body ((p.defs[i].params.take k).map Pm.name) false:=by rw [bodyE_eq h,List.take_of_length_le hk]
theorem check_1 (h:¬ progE p = 0):checkL p = (progE p,0):=if_pos h
theorem check_2 (h:progE p = 0) {i:Nat} (hi:i < p.defs.length) (h1:∀ j,j < i → dupD p j = false) (h2:dupD p i = true):checkL p = (5,(i:Int)):=by
  unfold checkL;rw [if_neg (fun hc => hc h),firstN_some hi h1 h2]
theorem check_3 (h:progE p = 0) {i k:Nat} (hi:p.defs.length ≤ i) (h1:∀ j,j < i → dupD p j = false) (hk:k < p.defs.length) (h2:∀ j,j < k → bodyE p j = 0) (h3:¬ bodyE p k = 0):checkL p = (bodyE p k,(k:Int)):=by
  unfold checkL;rw [if_neg (fun hc => hc h),firstN_none hi h1]
  rw [firstN_some (f:=fun i => decide (bodyE p i ≠ 0)) hk (fun j hj => by simp [h2 j hj]) (by simp [h3])]
theorem check_4 (h:progE p = 0) {i k:Nat} (hi:p.defs.length ≤ i) (h1:∀ j,j < i → dupD p j = false) (hk:p.defs.length ≤ k) (h2:∀ j,j < k → bodyE p j = 0):checkL p = (nodeC p p.main [] true,(p.defs.length:Int)):=by
  unfold checkL;rw [if_neg (fun hc => hc h),firstN_none hi h1]
  rw [firstN_none (f:=fun i => decide (bodyE p i ≠ 0)) hk (fun j hj => by simp [h2 j hj])]
end
theorem fewPr_sm {t:Pr} {m:Int} (hm:0 ≤ m) (h1:m ≤ 1000) (h:fewPr t m = true):t.sz ≤ 1000 ∧ tyS t:=by
  unfold fewPr at h
  simp only [Bool.and_eq_true,decide_eq_true_eq] at h
  have h2:=fewPr_sz hm h.1
  exact ⟨by omega,leftPr_tyS t m hm h.1⟩
theorem little_sm {p:Pg} {m:Int} (hm:0 ≤ m) (h1:m ≤ 1000) (h:littleB p m = true):smPg p:=by
  rw [littleB_eq] at h
  simp only [Bool.and_eq_true,decide_eq_true_eq,List.all_eq_true] at h
  obtain ⟨h2,h3,h4⟩:=h
  refine ⟨fewPr_sm hm h1 h3,h2,fun d hd => ?_⟩
  have h5:=h4 d hd
  unfold littleD at h5
  simp only [Bool.and_eq_true,decide_eq_true_eq,List.all_eq_true] at h5
  refine ⟨fewPr_sm hm h1 h5.1,h5.2.1,fun x hx => ?_⟩
  have h6:=h5.2.2 x hx
  unfold fewTy at h6
  simp only [Bool.and_eq_true,decide_eq_true_eq] at h6
  have:=fewTy_sz (t:=x.t) (m:=300) (by omega) (by first | exact h6.1 | exact h6)
  omega
theorem idxI_nodup {l:List Str} (h:l.Nodup) {i:Nat} (hi:i < l.length):idxI l l[i] = (i:Int) :=
  idxI_some hi (fun j hj hji he => by
    have:=(List.getElem_inj (h₀:=hj) (h₁:=hi) h).1 he;omega) rfl
structure Cf where
  th:List Pr
  ch:List Ty
def epN (k:Nat) (b:Bool):Vl:=⟨1,nameL k b,0⟩
def Pr.zero:Pr:=.mk 0 [] [] [] [] Ty.zero []
def instL (p:Pg) (s:Str) (vs:List Vl):Option Pr:=match p.defs[(findI p.defs s).toNat]? with
  | some d => if 0 ≤ findI p.defs s then some (putP (d.params.map Pm.name) vs d.body []) else none
  | none => none
theorem hdD_at {l:List Pr} {z:Pr} (h0:0 < l.length):l.headD z = l[0]:=by
  cases l with
  | nil => simp at h0
  | cons a l => rfl
def openL (k:Nat) (q:Pr):Pr:=putP [q.chan,q.var] [epN k true,epN k false] (q.kids.headD Pr.zero) []
def addF (p:Pg):Nat → Cf → Pr → Cf
  | 0,c,_ => c
  | n + 1,c,q =>
    if 2 ≤ q.kind ∧ q.kind ≤ 5 then ⟨c.th ++ [copyP q],c.ch⟩
    else if q.kind = 6 then addF p n ⟨c.th,c.ch ++ [raiseT 0 q.typ]⟩ (openL c.ch.length q)
    else if q.kind = 7 then q.kids.foldl (addF p n) c
    else if q.kind = 8 then match instL p q.chan q.args with
      | some b => addF p n c b
      | none => c
    else c
def okF (p:Pg):Nat → Cf → Pr → Prop
  | 0,_,_ => False
  | n + 1,c,q => (c.th.length ≤ 100000 ∧ c.ch.length ≤ 100000 ∧ q.sz ≤ 1000 ∧ smLP q) ∧
    (q.kind = 6 → 0 < q.kids.length ∧ ¬ q.chan = q.var ∧ inS q.chan ∧ inS q.var ∧ okF p n ⟨c.th,c.ch ++ [raiseT 0 q.typ]⟩ (openL c.ch.length q)) ∧
    (q.kind = 7 → ∀ (i:Nat) (h:i < q.kids.length),okF p n ((q.kids.take i).foldl (addF p n) c) q.kids[i]) ∧
    (q.kind = 8 → ∃ (i:Nat) (h:i < p.defs.length),findI p.defs q.chan = i ∧ (p.defs[i]).params.length = q.args.length ∧ (∀ x ∈ q.args,okV x) ∧ (p.defs[i]).body.sz ≤ 1000 ∧ smLP (p.defs[i]).body ∧ okF p n c (putP ((p.defs[i]).params.map Pm.name) q.args (p.defs[i]).body []))
section
variable {p:Pg} {n:Nat} {c:Cf} {q:Pr}
theorem addF_pre (h:2 ≤ q.kind) (h2:q.kind ≤ 5):addF p (n + 1) c q = ⟨c.th ++ [copyP q],c.ch⟩:=by rw [addF,if_pos ⟨h,h2⟩]
theorem addF_6 (h:q.kind = 6) (h0:0 < q.kids.length):addF p (n + 1) c q = addF p n ⟨c.th,c.ch ++ [raiseT 0 q.typ]⟩ (putP [q.chan,q.var] [epN c.ch.length true,epN c.ch.length false] q.kids[0] []):=by
  rw [addF,if_neg (by omega),if_pos h,openL,hdD_at h0]
theorem openL_eq {k:Nat} (h0:0 < q.kids.length):openL k q = putP [q.chan,q.var] [epN k true,epN k false] q.kids[0] []:=by
  rw [openL,hdD_at h0]
theorem addF_7 (h:q.kind = 7):addF p (n + 1) c q = q.kids.foldl (addF p n) c:=by rw [addF,if_neg (by omega),if_neg (by omega),if_pos h]
theorem instL_at {s:Str} {vs:List Vl} {i:Nat} (hi:i < p.defs.length) (hf:findI p.defs s = i):instL p s vs = some (putP ((p.defs[i]).params.map Pm.name) vs (p.defs[i]).body []):=by
  unfold instL;rw [hf];simp [List.getElem?_eq_getElem hi]
theorem addF_8 (h:q.kind = 8) {i:Nat} (hi:i < p.defs.length) (hf:findI p.defs q.chan = i):addF p (n + 1) c q = addF p n c (putP ((p.defs[i]).params.map Pm.name) q.args (p.defs[i]).body []):=by
  rw [addF,if_neg (by omega),if_neg (by omega),if_neg (by omega),if_pos h,instL_at hi hf]
theorem addF_no (h:¬ (2 ≤ q.kind ∧ q.kind ≤ 8)):addF p (n + 1) c q = c:=by
  rw [addF,if_neg (by omega),if_neg (by omega),if_neg (by omega),if_neg (by omega)]
theorem foldl_at {α β:Type} (f:β → α → β) (b:β) {l:List α} {i:Nat} (h:i < l.length):(l.take (i + 1)).foldl f b = f ((l.take i).foldl f b) l[i]:=by
  rw [take_snoc h,List.foldl_append];rfl
theorem epN_ok {k:Nat} (h:k ≤ 1000000) (b:Bool):okV (epN k b):=by
  refine ⟨by unfold inI epN;simp only [];omega, ?_,by unfold inI epN;simp only [];omega⟩
  unfold inS epN nameL
  have:=Lib.itoa_length_le (k:Int) (by omega) (by omega)
  simp only [List.length_append,List.length_cons,List.length_nil]
  omega
end
theorem kidP0_sz {q:Pr} (h0:0 < q.kids.length):(q.kids[0]).sz < q.sz:=by
  have h1:=Pr.szs_mem (List.getElem_mem h0);have h2:=Pr.sz_eq q;omega
end Go.Duo

namespace Go.Duo
open Go
def addS (out:List Str) (s:Str):List Str:=if s ∈ out then out else out ++ [s]
def dedS (l:List Str):List Str:=l.foldl addS []
def freeS (p:Pr):List Str:=dedS (usesP p [])
theorem dedS_take {l:List Str} {i:Nat} (h:i < l.length):dedS (l.take (i + 1)) = addS (dedS (l.take i)) l[i]:=by
  unfold dedS;rw [take_at h,List.foldl_append];rfl
theorem dedS_yes {l:List Str} {i:Nat} (h:i < l.length) (hk:l[i] ∈ dedS (l.take i)):dedS (l.take (i + 1)) = dedS (l.take i):=by
  rw [dedS_take h,addS,if_pos hk]
theorem dedS_no {l:List Str} {i:Nat} (h:i < l.length) (hk:l[i] ∉ dedS (l.take i)):dedS (l.take (i + 1)) = dedS (l.take i) ++ [l[i]]:=by
  rw [dedS_take h,addS,if_neg hk]
theorem addS_len (l:List Str):∀ out:List Str,(l.foldl addS out).length ≤ out.length + l.length:=by
  induction l with
  | nil => intro out;simp
  | cons s l ih =>
    intro out
    have h:=ih (addS out s)
    have:(addS out s).length ≤ out.length + 1:=by unfold addS;split <;> simp
    simp only [List.foldl_cons,List.length_cons];omega
theorem dedS_len (l:List Str):(dedS l).length ≤ l.length:=by have:=addS_len l [];simpa [dedS] using this
theorem addS_mem {s:Str} (l:List Str):∀ out:List Str,s ∈ l.foldl addS out ↔ s ∈ out ∨ s ∈ l:=by
  induction l with
  | nil => intro out;simp
  | cons x l ih =>
    intro out
    rw [List.foldl_cons,ih (addS out x)]
    have:s ∈ addS out x ↔ s ∈ out ∨ s = x:=by
      unfold addS;split
      · rename_i hx
        exact ⟨.inl,fun h => h.elim id fun h => h ▸ hx⟩
      · simp
    rw [this,List.mem_cons,or_assoc]
theorem dedS_mem {s:Str} {l:List Str}:s ∈ dedS l ↔ s ∈ l:=by rw [dedS,addS_mem];simp
def nmTb (t:Tb):Prop:=∀ q ∈ t,q.2.kind = 1 ∧ inS q.2.name ∧ q.2.n = 0
theorem nmTb.ok {t:Tb} (h:nmTb t):okTb t:=fun q hq => by
  obtain ⟨h1,h2,h3⟩:=h q hq
  exact ⟨by rw [h1];unfold inI;omega,h2,by rw [h3];unfold inI;omega⟩
theorem nmTb.one {o n:Str} (h:inS n):nmTb [(o,⟨1,n,0⟩)]:=fun q hq => by
  rw [List.mem_singleton] at hq;subst hq;exact ⟨rfl,h,rfl⟩
end Go.Duo

namespace Go.Duo
open Go
def encN (k:Nat):V:=.int .i64 (k:Int)
theorem encN_mk (k:Nat):encN k = .int .i64 (k:Int):=rfl
def withC (c:Str) (p:Pr):Pr:=.mk p.kind c p.var p.labels p.args p.typ p.kids
def waitB (l:List Pr) (i k:Nat):Bool:=epO (l.getD i .z).chan && decide (dualN (l.getD i .z).chan ∈ freeS (if k = i then withC [] (l.getD k .z) else l.getD k .z))
def forK (l:List Pr) (i k:Nat):List Nat:=(List.range k).filter (waitB l i)
def forW (l:List Pr) (i:Nat):List Nat:=forK l i l.length
theorem forK_0 (l:List Pr) (i:Nat):forK l i 0 = []:=rfl
theorem forK_yes {l:List Pr} {i k:Nat} (h:waitB l i k = true):forK l i (k + 1) = forK l i k ++ [k]:=by
  unfold forK;rw [List.range_succ,List.filter_append];simp [h]
theorem forK_no {l:List Pr} {i k:Nat} (h:waitB l i k = false):forK l i (k + 1) = forK l i k:=by
  unfold forK;rw [List.range_succ,List.filter_append];simp [h]
theorem forK_len (l:List Pr) (i k:Nat):(forK l i k).length ≤ k:=by
  have:=List.length_filter_le (waitB l i) (List.range k);rw [List.length_range] at this;exact this
theorem forW_none {l:List Pr} {i:Nat} (hi:i < l.length) (h:epO l[i].chan = false):forW l i = []:=by
  unfold forW forK
  rw [List.filter_eq_nil_iff]
  intro k _
  unfold waitB
  rw [getD_ltI _ _ _ hi,h];simp
theorem forW_mem {l:List Pr} {i k:Nat}:k ∈ forW l i ↔ k < l.length ∧ waitB l i k = true:=by
  unfold forW forK;rw [List.mem_filter,List.mem_range]
theorem waitB_eq {l:List Pr} {i k:Nat} (hi:i < l.length) (hk:k < l.length):waitB l i k = (epO l[i].chan && decide (dualN l[i].chan ∈ freeS (if k = i then withC [] l[k] else l[k]))):=by
  unfold waitB;rw [getD_ltI _ _ _ hi,getD_ltI _ _ _ hk]
def nextW (l:List Pr) (i:Nat):Option Nat:=(forW l i).head?
theorem nextW_lt {l:List Pr} {i j:Nat} (h:nextW l i = some j):j < l.length:=by
  have:j ∈ forW l i:=List.mem_of_mem_head? h
  exact (forW_mem.1 this).1
theorem nextW_nil {l:List Pr} {i:Nat} (h:(forW l i).length = 0):nextW l i = none:=by
  unfold nextW;rw [List.eq_nil_of_length_eq_zero h];rfl
theorem nextW_at {l:List Pr} {i:Nat} (h:0 < (forW l i).length):nextW l i = some (forW l i)[0]:=by
  unfold nextW;rw [List.head?_eq_getElem?,List.getElem?_eq_getElem h]
def chainW (l:List Pr):Nat → List Nat → Nat → List Nat × Option Nat
  | 0,out,i => (out,some i)
  | n + 1,out,i => if i ∈ out then (out,some i) else match nextW l i with
    | none => (out ++ [i],none)
    | some j => chainW l n (out ++ [i]) j
def chW (l:List Pr) (i:Nat):List Nat × Option Nat:=chainW l (l.length + 1) [] i
theorem nodup_len:∀ (n:Nat) (l:List Nat),l.Nodup → (∀ x ∈ l,x < n) → l.length ≤ n:=by
  intro n
  induction n with
  | zero =>
    intro l _ h
    cases l with
    | nil => exact Nat.le_refl _
    | cons x l => exact absurd (h x (by simp)) (by omega)
  | succ n ih =>
    intro l hn h
    by_cases hm:n ∈ l
    · have h1:=ih (l.erase n) (hn.erase n) fun x hx => by
        rw [hn.mem_erase_iff] at hx
        have:=h x hx.2
        omega
      rw [List.length_erase_of_mem hm] at h1
      omega
    · have:=ih l hn fun x hx => by
        have h1:=h x hx
        have h2:x ≠ n:=fun e => hm (e ▸ hx)
        omega
      omega
structure ChI (l:List Pr) (i0:Nat) (out:List Nat) (i:Nat):Prop where
  eq:chW l i0 = chainW l (l.length + 1 - out.length) out i
  nd:out.Nodup
  lt:∀ x ∈ out,x < l.length
  ilt:i < l.length
  last:∀ h:out ≠ [],nextW l (out.getLast h) = some i
theorem ChI.start {l:List Pr} {i:Nat} (h:i < l.length):ChI l i [] i:=⟨rfl,by simp,by simp,h,fun h => absurd rfl h⟩
theorem ChI.len {l:List Pr} {i0:Nat} {out:List Nat} {i:Nat} (h:ChI l i0 out i):out.length ≤ l.length:=nodup_len _ _ h.nd h.lt
theorem ChI.fuel {l:List Pr} {i0:Nat} {out:List Nat} {i:Nat} (h:ChI l i0 out i):chW l i0 = if i ∈ out then (out,some i) else match nextW l i with
    | none => (out ++ [i],none)
    | some j => chainW l (l.length - out.length) (out ++ [i]) j:=by
  have h1:=h.len
  have h2:=h.eq
  rw [show l.length + 1 - out.length = (l.length - out.length) + 1 by omega] at h2
  rw [h2,chainW]
theorem ChI.step {l:List Pr} {i0:Nat} {out:List Nat} {i:Nat} (h:ChI l i0 out i) (hi:i ∉ out) {j:Nat} (hj:nextW l i = some j):ChI l i0 (out ++ [i]) j where
  eq:=by
    rw [h.fuel,if_neg hi,hj]
    simp only [List.length_append,List.length_cons,List.length_nil]
    rw [show l.length + 1 - (out.length + (0 + 1)) = l.length - out.length by omega]
  nd:=by
    rw [List.nodup_append]
    exact ⟨h.nd,by simp,fun a ha b hb => by simp at hb;subst hb;rintro rfl;exact hi ha⟩
  lt:=fun x hx => by
    rcases List.mem_append.1 hx with hx | hx
    · exact h.lt x hx
    · rw [List.mem_singleton] at hx;rw [hx];exact h.ilt
  ilt:=nextW_lt hj
  last:=fun _ => by simp only [List.getLast_concat];exact hj
theorem ChI.stop {l:List Pr} {i0:Nat} {out:List Nat} {i:Nat} (h:ChI l i0 out i) (hi:i ∈ out):chW l i0 = (out,some i):=by rw [h.fuel,if_pos hi]
theorem ChI.none {l:List Pr} {i0:Nat} {out:List Nat} {i:Nat} (h:ChI l i0 out i) (hi:i ∉ out) (hj:nextW l i = none):chW l i0 = (out ++ [i],none):=by rw [h.fuel,if_neg hi,hj]
theorem chW_end {l:List Pr} {i0:Nat} (h:i0 < l.length):∃ (hne:(chW l i0).1 ≠ []),nextW l ((chW l i0).1.getLast hne) = (chW l i0).2 ∧ (∀ j,(chW l i0).2 = some j → j ∈ (chW l i0).1) ∧ (∀ x ∈ (chW l i0).1,x < l.length) ∧ (chW l i0).1.length ≤ l.length:=by
  have key:∀ (n:Nat) (out:List Nat) (i:Nat),l.length - out.length < n → ChI l i0 out i → ∃ (hne:(chW l i0).1 ≠ []),nextW l ((chW l i0).1.getLast hne) = (chW l i0).2 ∧ (∀ j,(chW l i0).2 = some j → j ∈ (chW l i0).1) ∧ (∀ x ∈ (chW l i0).1,x < l.length) ∧ (chW l i0).1.length ≤ l.length:=by
    intro n
    induction n with
    | zero => intro out i hn;omega
    | succ n ih =>
      intro out i hn hI
      by_cases hi:i ∈ out
      · have e:=hI.stop hi
        have hne:out ≠ []:=fun e => by rw [e] at hi;cases hi
        refine ⟨by rw [e];exact hne, ?_⟩
        have e1:(chW l i0).1 = out:=by rw [e]
        have e2:(chW l i0).2 = some i:=by rw [e]
        simp only [e1,e2]
        exact ⟨hI.last hne,fun j hj => by cases hj;exact hi,hI.lt,hI.len⟩
      · cases hj:nextW l i with
        | none =>
          have e:=hI.none hi hj
          have e1:(chW l i0).1 = out ++ [i]:=by rw [e]
          have e2:(chW l i0).2 = none:=by rw [e]
          refine ⟨by rw [e1];simp, ?_⟩
          simp only [e1,e2]
          have hnd:(out ++ [i]).Nodup:=by
            rw [List.nodup_append]
            exact ⟨hI.nd,by simp,fun a ha b hb => by simp at hb;subst hb;rintro rfl;exact hi ha⟩
          have hlt:∀ x ∈ out ++ [i],x < l.length:=fun x hx => by
            rcases List.mem_append.1 hx with hx | hx
            · exact hI.lt x hx
            · rw [List.mem_singleton] at hx;rw [hx];exact hI.ilt
          refine ⟨by simp only [List.getLast_concat];exact hj,fun j hj => (by cases hj),hlt,nodup_len _ _ hnd hlt⟩
        | some j =>
          have hI2:=hI.step hi hj
          have:=hI2.len
          rw [List.length_append,List.length_singleton] at this
          exact ih _ _ (by rw [List.length_append,List.length_singleton];omega) hI2
  exact key _ _ _ (Nat.lt_succ_self _) (ChI.start h)
def backI:Option Nat → Int
  | some j => j
  | none => -1
def idxN (l:List Nat) (c:Nat):Int:=if c ∈ l then ((l.takeWhile fun x => !decide (x = c)).length:Nat) else -1
theorem idxN_step {l:List Nat} {c i:Nat} (h:c ∉ l.take i) (hlt:i < l.length) (hq:¬ l[i] = c):c ∉ l.take (i + 1):=by
  rw [List.take_add_one,List.getElem?_eq_getElem hlt]
  intro hm
  rcases List.mem_append.1 hm with hm | hm
  · exact h hm
  · simp at hm;exact hq hm.symm
theorem idxN_none {l:List Nat} {c:Nat} (h:c ∉ l):idxN l c = -1:=if_neg h
theorem idxN_at {l:List Nat} {c:Nat} {i:Nat} (h:c ∉ l.take i) (hlt:i < l.length) (hq:l[i] = c):idxN l c = i:=by
  unfold idxN
  rw [if_pos (hq ▸ List.getElem_mem hlt)]
  have e:l = l.take i ++ (l[i] :: l.drop (i + 1)):=by rw [← List.drop_eq_getElem_cons hlt,List.take_append_drop]
  have h1:(l.takeWhile fun x => !decide (x = c)) = l.take i:=by
    conv => lhs;rw [e]
    rw [List.takeWhile_append_of_pos (by intro x hx;simp;rintro rfl;exact h hx)]
    simp [hq]
  rw [h1,List.length_take]
  omega
theorem idxN_mem {l:List Nat} {c:Nat} (h:c ∈ l):0 ≤ idxN l c ∧ idxN l c < l.length:=by
  obtain ⟨i,hi,he⟩:=List.mem_iff_getElem.1 h
  unfold idxN
  rw [if_pos h]
  refine ⟨by omega, ?_⟩
  have h1:(l.takeWhile fun x => !decide (x = c)).length ≤ l.length:=(List.takeWhile_sublist _).length_le
  have h2:(l.takeWhile fun x => !decide (x = c)).length ≠ l.length:=fun e => by
    have h3:(l.takeWhile fun x => !decide (x = c)) = l:=(List.takeWhile_sublist _).eq_of_length e
    have h4:∀ m:List Nat,(∀ x ∈ m.takeWhile fun x => !decide (x = c),x ≠ c):=fun m => by
      induction m with
      | nil => intro x hx;cases hx
      | cons a m ih =>
        intro x hx
        rw [List.takeWhile_cons] at hx
        split at hx
        · rename_i ha
          rcases List.mem_cons.1 hx with hx | hx
          · rw [hx];simpa using ha
          · exact ih x hx
        · cases hx
    exact h4 l c (by rw [h3];exact h) rfl
  omega
theorem idxN_ge (l:List Nat) (c:Nat):(0 ≤ idxN l c) = (c ∈ l):=by
  refine propext ⟨fun h => ?_,fun h => (idxN_mem h).1⟩
  by_cases hc:c ∈ l
  · exact hc
  · rw [idxN_none hc] at h;omega
theorem allN (m:List Nat):((m.map encN).all fun e => e.cells.length == 1) = true:=by simp [encN,V.cells]
theorem takeN (m:List Nat):List.take m.length (m.map encN) = m.map encN:=List.take_of_length_le (by simp)
theorem drop_row (m:List Nat) (k:Nat):(m.map encN).drop k = (m.drop k).map encN:=by rw [List.map_drop]
theorem takeN_step {a b:List Nat} {i:Nat} (h:a.take i = b.take i) (h1:i < a.length) (h2:i < b.length) (he:a[i] = b[i]):a.take (i + 1) = b.take (i + 1):=by
  rw [List.take_add_one,List.take_add_one,List.getElem?_eq_getElem h1,List.getElem?_eq_getElem h2,h,he]
theorem takeN_end {a b:List Nat} {i:Nat} (h:a.take i = b.take i) (h1:a.length ≤ i) (h2:b.length ≤ i):a = b:=by
  rwa [List.take_of_length_le h1,List.take_of_length_le h2] at h
def cycAt (l:List Pr) (i:Nat):Option (List Nat):=match (chW l i).2 with
  | some j => some ((chW l i).1.drop (idxN (chW l i).1 j).toNat)
  | none => none
def cycW (l:List Pr):Option (List Nat):=(List.range l.length).findSome? (cycAt l)
theorem cyc_at {l:List Pr} {i:Nat} (hi:i < l.length) (h:∀ k < i,(chW l k).2 = none) {j:Nat} (hj:(chW l i).2 = some j):cycW l = some ((chW l i).1.drop (idxN (chW l i).1 j).toNat):=by
  have e:List.range l.length = List.range i ++ (i :: List.range' (i + 1) (l.length - (i + 1))):=by
    rw [List.range_eq_range',List.range_eq_range',show l.length = i + (1 + (l.length - (i + 1))) by omega,← List.range'_append_1,Nat.zero_add]
    congr 1
    rw [show i + (1 + (l.length - (i + 1))) - (i + 1) = l.length - (i + 1) by omega,Nat.add_comm 1,List.range'_succ]
  unfold cycW
  rw [e,List.findSome?_append,List.findSome?_eq_none_iff.2 fun k hk => ?_]
  · rw [Option.none_or,List.findSome?_cons]
    unfold cycAt
    rw [hj]
  · rw [List.mem_range] at hk
    unfold cycAt;rw [h k hk]
theorem cyc_none {l:List Pr} (h:∀ k < l.length,(chW l k).2 = none):cycW l = none:=by
  unfold cycW
  rw [List.findSome?_eq_none_iff]
  intro k hk
  rw [List.mem_range] at hk
  unfold cycAt;rw [h k hk]
theorem cyc_pos (l:List Pr):(cycW l).isSome = decide (0 < ((cycW l).getD []).length):=by
  cases hc:cycW l with
  | none => rfl
  | some c =>
    unfold cycW at hc
    obtain ⟨i,hi,he⟩:=List.exists_of_findSome?_eq_some hc
    rw [List.mem_range] at hi
    unfold cycAt at he
    split at he
    · rename_i j hj
      cases he
      obtain ⟨_,_,h3,_⟩:=chW_end hi
      have:=idxN_mem (h3 j hj)
      simp only [Option.isSome_some,Option.getD_some,List.length_drop]
      symm
      rw [decide_eq_true_eq]
      omega
    · cases he
theorem inner_same {p:Pr} {s:Str} (hs:2 ≤ s.length):decide (s ∈ freeS (withC [45] p)) = decide (s ∈ freeS (withC [] p)) ∨ p.kind = 6:=by
  by_cases h6:p.kind = 6
  · exact .inr h6
  left
  refine decide_eq_decide.2 ?_
  unfold freeS
  rw [dedS_mem,dedS_mem]
  obtain ⟨k,ch,v,ls,a,ty,ks⟩:=p
  have hb:∀ c,bndP (withC c (.mk k ch v ls a ty ks)) [] = bndP (.mk k ch v ls a ty ks) []:=fun c => by
    simp only [Pr.kind] at h6
    unfold bndP withC;simp only [Pr.kind,Pr.var,Pr.chan];simp [h6]
  rw [usesP_eq,usesP_eq,hb,hb,List.mem_append,List.mem_append]
  have h1:∀ c:Str,c ≠ s → (s ∈ freeB [] (outP (withC c (.mk k ch v ls a ty ks))) ↔ s ∈ outA a):=fun c hc => by
    unfold freeB outP withC
    simp only [Pr.kind,Pr.chan,Pr.args,List.mem_filter,List.mem_append]
    by_cases hp:preK k = true <;> simp [hp,hc.symm]
  rw [h1 [45] (fun e => by rw [← e] at hs;simp at hs),h1 [] (fun e => by rw [← e] at hs;simp at hs)]
  exact Iff.rfl
theorem dualN_len {s:Str} (h:epO s = true):2 ≤ (dualN s).length:=by
  unfold dualN;rw [if_pos h]
  have:=epK_lt s
  obtain ⟨k,hk⟩:=Int.eq_ofNat_of_zero_le this.1
  rw [hk]
  exact (nameL_len (k:=k) (by omega) _).1
end Go.Duo

namespace Go.Duo
open Go
def LETS:Str:=[65,66,67,68,69,70,71,72,73,74,75,76,77,78,79,80,81,82,83,84,85,86,87,88,89,90,97,98,99,100,101,102,103,104,105,106,107,108,109,110,111,112,113,114,115,116,117,118,119,120,121,122,95]
def DIGS:Str:=[48,49,50,51,52,53,54,55,56,57]
theorem let_in (c:UInt8):decide (c ∈ LETS) = letB c:=by
  have:=u8_all (fun c => decide (c ∈ LETS) == letB c) (by decide +kernel) c
  simpa using this
theorem dig_in (c:UInt8):decide (c ∈ DIGS) = dig c:=by
  have:=u8_all (fun c => decide (c ∈ DIGS) == dig c) (by decide +kernel) c
  simpa using this
section
variable {s:Str} {a i:Nat}
theorem word_cons (h:0 < s.length) (hl:letB s[0] = true):isWord s = (s.drop 1).all wordB:=by
  cases s with
  | nil => simp at h
  | cons c r => simp only [List.getElem_cons_zero] at hl;simp [isWord,hl]
theorem word_no (h:0 < s.length) (hl:letB s[0] = false):isWord s = false:=by
  cases s with
  | nil => simp at h
  | cons c r => simp only [List.getElem_cons_zero] at hl;simp [isWord,hl]
theorem all_at {p:UInt8 → Bool} (h:i < s.length):(s.drop i).all p = (p s[i] && (s.drop (i + 1)).all p):=by rw [drop_at h,List.all_cons]
theorem all_yes {p:UInt8 → Bool} {b:Bool} (hb:b = (s.drop i).all p) (h:i < s.length) (hp:p s[i] = true):b = (s.drop (i + 1)).all p:=by rw [hb,all_at h,hp,Bool.true_and]
theorem all_no {p:UInt8 → Bool} {b:Bool} (hb:b = (s.drop i).all p) (h:i < s.length) (hp:p s[i] = false):b = false:=by rw [hb,all_at h,hp,Bool.false_and]
theorem all_end' {p:UInt8 → Bool} {b:Bool} (hb:b = (s.drop i).all p) (h:s.length ≤ i):b = true:=by rw [hb,List.drop_eq_nil_of_le h];rfl
theorem num_zero (h:s = [48]):isNum s = true:=by subst h;decide
theorem num_minus (h:0 < s.length) (hm:s[0] = 45) (h1:s.length ≤ 1):isNum s = false:=by
  cases s with
  | nil => simp at h
  | cons c r =>
    simp only [List.getElem_cons_zero] at hm;subst hm
    cases r with
    | nil => rfl
    | cons d r => simp at h1
theorem num_minus0 (h:1 < s.length) (hm:s[0] = 45) (h1:s[1] = 48):isNum s = false:=by
  cases s with
  | nil => simp at h
  | cons c r =>
    simp only [List.getElem_cons_zero] at hm;subst hm
    cases r with
    | nil => simp at h
    | cons d r => simp only [List.getElem_cons_succ,List.getElem_cons_zero] at h1;subst h1;rw [isNum_minus];simp
theorem num_minus1 (h:1 < s.length) (hm:s[0] = 45) (h1:¬ s[1] = 48):isNum s = (s.drop 1).all dig:=by
  cases s with
  | nil => simp at h
  | cons c r =>
    simp only [List.getElem_cons_zero] at hm;subst hm
    cases r with
    | nil => simp at h
    | cons d r => simp only [List.getElem_cons_succ,List.getElem_cons_zero] at h1;rw [isNum_minus];simp [h1]
theorem num_nil (h:s.length = 0):isNum s = false:=by
  obtain rfl:=List.eq_nil_of_length_eq_zero h;rfl
theorem num_0 (h:0 < s.length) (h0:s[0] = 48) (hs:¬ s = [48]):isNum s = false:=by
  cases s with
  | nil => simp at h
  | cons c r =>
    simp only [List.getElem_cons_zero] at h0;subst h0
    rw [isNum_zero];cases r with
    | nil => exact absurd rfl hs
    | cons d r => simp
theorem num_plain (h:0 < s.length) (hm:¬ s[0] = 45) (h0:¬ s[0] = 48):isNum s = s.all dig:=by
  cases s with
  | nil => simp at h
  | cons c r =>
    simp only [List.getElem_cons_zero] at hm h0
    by_cases hd:dig c = true
    · rw [isNum_dig hd h0,List.all_cons,hd,Bool.true_and]
    · have hd:dig c = false:=by simpa using hd
      rw [isNum_other hd hm,List.all_cons,hd,Bool.false_and]
end
def valL (s:Str):Option Int:=match Lib.parseIntB 64 s with | .ok n => some n | _ => none
def fd (s:Str) (a i:Nat):Nat:=foldD 0 ((s.take i).drop a)
theorem foldD_app (n:Nat) (l m:Str):foldD n (l ++ m) = foldD (foldD n l) m:=by unfold foldD;rw [List.foldl_append]
section
variable {s:Str} {a i:Nat}
theorem fd_self (s:Str) (a:Nat):fd s a a = 0:=by unfold fd;rw [List.drop_eq_nil_of_le (by rw [List.length_take];omega)];rfl
theorem fd_step (ha:a ≤ i) (h:i < s.length):fd s a (i + 1) = 10 * fd s a i + (s[i].toNat - 48):=by
  unfold fd
  rw [take_at h,List.drop_append_of_le_length (by rw [List.length_take];omega),foldD_app,foldD_cons];rfl
theorem fd_end (h:s.length ≤ i):fd s a i = foldD 0 (s.drop a):=by unfold fd;rw [List.take_of_length_le h]
theorem fd_le (ha:a ≤ i):fd s a i ≤ foldD 0 (s.drop a):=by
  unfold fd
  by_cases h:i ≤ s.length
  · have e:s.drop a = (s.take i).drop a ++ s.drop i:=by
      conv => lhs;rw [← List.take_append_drop i s]
      rw [List.drop_append_of_le_length (by rw [List.length_take];omega)]
    rw [e,foldD_app];exact foldD_ge _ _
  · rw [List.take_of_length_le (by omega)];exact Nat.le_refl _
end
theorem parseM_dig (l:Str):∀ (acc:Nat),(∀ c ∈ l,dig c = true) → acc ≤ 18446744073709551615 → Lib.parseUintM 18446744073709551615 acc l = if foldD acc l ≤ 18446744073709551615 then .ok (foldD acc l) else .range:=by
  induction l with
  | nil => intro acc _ h;rw [show foldD acc [] = acc from rfl,if_pos h];rfl
  | cons c l ih =>
    intro acc hd h
    have hc:=hd c (List.mem_cons_self ..)
    simp only [dig,Bool.and_eq_true,decide_eq_true_eq] at hc
    have h1:=foldD_ge l (10 * acc + (c.toNat - 48))
    rw [foldD_cons]
    by_cases h2:1844674407370955162 ≤ acc
    · rw [if_neg (by omega)]
      simp [Lib.parseUintM,hc,h2]
    · by_cases h3:18446744073709551615 < acc * 10 + (c.toNat - 48)
      · rw [if_neg (by omega)]
        simp [Lib.parseUintM,hc,h2,h3]
      · rw [parseUintM_step hc h2 h3,Nat.mul_comm acc 10]
        exact ih _ (fun c hc => hd c (List.mem_cons_of_mem _ hc)) (by omega)
theorem parseB_dig (l:Str) (hl:¬ l = []) (hd:l.all dig = true):Lib.parseUintB 64 l = if foldD 0 l ≤ 18446744073709551615 then .ok (foldD 0 l) else .range:=by
  unfold Lib.parseUintB
  rw [if_neg hl]
  exact parseM_dig l 0 (by simpa using hd) (by omega)
theorem val_neg {s:Str} (hn:isNum s = true) (h:0 < s.length) (hm:s[0] = 45):valL s = if foldD 0 (s.drop 1) ≤ 9223372036854775808 then some (-((foldD 0 (s.drop 1):Nat):Int)) else none:=by
  cases s with
  | nil => simp at h
  | cons c r =>
    simp only [List.getElem_cons_zero] at hm;subst hm
    rw [isNum_minus] at hn
    cases r with
    | nil => cases hn
    | cons d r =>
      simp only [Bool.and_eq_true] at hn
      unfold valL
      rw [Lib.parseIntB_minus,parseB_dig _ (by simp) (by rw [List.all_cons];simpa using hn.2)]
      rw [List.drop_succ_cons,List.drop_zero]
      by_cases h1:foldD 0 (d :: r) ≤ 18446744073709551615
      · rw [if_pos h1]
        by_cases h2:foldD 0 (d :: r) ≤ 9223372036854775808
        · rw [if_pos h2];simp only [Lib.signedC];rw [if_neg (by simp;omega)]
        · rw [if_neg h2];simp only [Lib.signedC];rw [if_pos (by simp;omega)]
      · rw [if_neg h1,if_neg (by omega)];rfl
theorem val_pos {s:Str} (hn:isNum s = true) (h:0 < s.length) (hm:¬ s[0] = 45):valL s = if foldD 0 s ≤ 9223372036854775807 then some ((foldD 0 s:Nat):Int) else none:=by
  have hd:s.all dig = true:=by
    by_cases h0:s[0] = 48
    · by_cases hs:s = [48]
      · subst hs;decide
      · rw [num_0 h h0 hs] at hn;cases hn
    · rw [num_plain h hm h0] at hn;exact hn
  cases s with
  | nil => simp at h
  | cons c r =>
    simp only [List.getElem_cons_zero] at hm
    have hc:dig c = true:=by rw [List.all_cons] at hd;simp only [Bool.and_eq_true] at hd;exact hd.1
    simp only [dig,Bool.and_eq_true,decide_eq_true_eq] at hc
    unfold valL
    rw [Lib.parseIntB_plain 64 c r (by omega) (by omega),parseB_dig _ (by simp) hd]
    by_cases h1:foldD 0 (c :: r) ≤ 18446744073709551615
    · rw [if_pos h1]
      by_cases h2:foldD 0 (c :: r) ≤ 9223372036854775807
      · rw [if_pos h2];simp only [Lib.signlessC];rw [if_neg (by simp;omega)]
      · rw [if_neg h2];simp only [Lib.signlessC];rw [if_pos (by simp;omega)]
    · rw [if_neg h1,if_neg (by omega)];rfl
theorem num_dig {s:Str} {i:Nat} (hn:isNum s = true) (hi:i < s.length) (h:1 ≤ i ∨ ¬ s[0]'(by omega) = 45):48 ≤ s[i].toNat ∧ s[i].toNat ≤ 57:=by
  have hd:dig s[i] = true:=by
    by_cases hm:s[0]'(by omega) = 45
    · have hi1:1 ≤ i:=by rcases h with h | h;exact h;exact absurd hm h
      by_cases h1:s[1]'(by omega) = 48
      · rw [num_minus0 (by omega) hm h1] at hn;cases hn
      · rw [num_minus1 (by omega) hm h1] at hn
        refine List.all_eq_true.1 hn _ ?_
        rw [List.mem_iff_getElem]
        exact ⟨i - 1,by rw [List.length_drop];omega,by rw [List.getElem_drop];congr 1;omega⟩
    · by_cases h0:s[0]'(by omega) = 48
      · by_cases hs:s = [48]
        · subst hs;simp at hi;subst hi;rfl
        · rw [num_0 (by omega) h0 hs] at hn;cases hn
      · rw [num_plain (by omega) hm h0] at hn
        exact List.all_eq_true.1 hn _ (List.getElem_mem _)
  simpa only [dig,Bool.and_eq_true,decide_eq_true_eq] using hd
theorem tdiv_m10 {x:Int} (h:x ≤ 0):Int.tdiv x 10 = -((-x) / 10):=by
  obtain ⟨y,rfl⟩:∃ y:Int,x = -y:=⟨-x,by omega⟩
  rw [Int.neg_tdiv,Int.tdiv_eq_ediv_of_nonneg (by omega),Int.neg_neg]
theorem tok_minus {t:Str} (h:t.head? = some 45):tokN t ≠ 1:=by
  cases t with
  | nil => cases h
  | cons c r =>
    simp only [List.head?_cons,Option.some.injEq] at h;subst h
    cases r with
    | nil => decide
    | cons d r =>
      simp only [tokN,show letB 45 = false from by decide,Bool.false_eq_true,if_false,numN,if_true,show signB 45 = false from by decide]
      split
      · split <;> omega
      · split <;> omega
def endL (t:Str) (k:Nat):Nat:=if preOK t k = true then k else 0
theorem pre_iff {t:Str} {k:Nat}:preOK t k = true ↔ 1 ≤ k ∧ k ≤ tokN t ∧ ¬ (k = 1 ∧ t.head? = some 45):=by
  unfold preOK
  simp only [Bool.and_eq_true,decide_eq_true_eq,Bool.not_eq_true',Bool.and_eq_false_imp,decide_eq_false_iff_not]
  constructor
  · rintro ⟨⟨h1,h2⟩,h3⟩;exact ⟨h1,h2,fun h => h3 h.1 h.2⟩
  · rintro ⟨h1,h2,h3⟩;exact ⟨⟨h1,h2⟩,fun h h' => h3 ⟨h,h'⟩⟩
theorem endL_yes {t:Str} {k:Nat} (h:preOK t k = true):endL t k = k:=if_pos h
theorem endL_0 (t:Str):endL t 0 = 0:=by unfold endL;split <;> rfl
theorem endL_1 {t:Str} (h:preOK t 1 = false):endL t 1 = 0:=by unfold endL;rw [h];rfl
theorem endL_out {t:Str} {k:Nat} (hk:1 ≤ k) (h:k ≤ 1 ∨ preOK t k = true) (hn:preOK t (k + 1) = false):endL t k = tokN t:=by
  have hn':¬ preOK t (k + 1) = true:=by rw [hn];simp
  rw [pre_iff] at hn'
  have h2:tokN t ≤ k:=by
    rcases Nat.lt_or_ge k (tokN t) with h | h
    · exact absurd ⟨by omega,by omega,fun h => by omega⟩ hn'
    · exact h
  unfold endL
  by_cases hp:preOK t k = true
  · rw [if_pos hp];have:=(pre_iff.1 hp).2.1;omega
  · rw [if_neg hp]
    have hk1:k = 1:=by rcases h with h | h;omega;exact absurd h hp
    subst hk1
    rcases Nat.lt_or_ge (tokN t) 1 with h3 | h3
    · omega
    · have h4:tokN t = 1:=by omega
      exact absurd (pre_iff.2 ⟨by omega,by omega,fun h => tok_minus h.2 h4⟩) hp
theorem endL_end {t:Str} (hk:1 ≤ t.length) (h:t.length ≤ 1 ∨ preOK t t.length = true):endL t t.length = tokN t:=by
  refine endL_out hk h ?_
  have:=tokN_le t
  cases hp:preOK t (t.length + 1) with
  | false => rfl
  | true => have:=(pre_iff.1 hp).2.1;omega
def inB (c:UInt8) (s:Str):Bool:=decide (c ∈ s)
theorem inB_let (c:UInt8):inB c LETS = letB c:=let_in c
theorem inB_dig (c:UInt8):inB c DIGS = dig c:=dig_in c
theorem inB_sign (c:UInt8):inB c [33,63,46,40,41,123,125,60,62,44,58,59,124,38,43,61] = signB c:=rfl
theorem inB_blank (c:UInt8):inB c [32,9,10,13] = blankB c:=blank_in c
theorem inB_yes {c:UInt8} {s:Str} {i:Nat} (h:i < s.length) (hc:s[i] = c):inB c s = true:=by
  subst hc;unfold inB;rw [decide_eq_true_eq];exact List.getElem_mem _
theorem inB_no {c:UInt8} {s:Str} (h:c ∉ s):inB c s = false:=by unfold inB;rw [decide_eq_false_iff_not];exact h
theorem notin_at {α:Type} {l:List α} {c:α} {i:Nat} (h:c ∉ l.take i) (hlt:i < l.length) (hq:¬ l[i] = c):c ∉ l.take (i + 1):=by
  rw [take_at hlt,List.mem_append,List.mem_singleton]
  rintro (h' | h')
  · exact h h'
  · exact hq h'.symm
theorem word_nil {s:Str} (h:s.length = 0):isWord s = false:=by
  obtain rfl:=List.eq_nil_of_length_eq_zero h;rfl
theorem len_drop1 (s:Str):(s.drop 1).length = s.length - 1:=List.length_drop
theorem kindL_word {s:Str} (h:isWord s = true):kindL s = 1:=by unfold kindL;rw [if_pos h]
theorem kindL_num {s:Str} (h:isWord s = false) (h2:isNum s = true):kindL s = 2:=by unfold kindL;rw [if_neg (by rw [h];simp),if_pos h2]
theorem kindL_one {s:Str} (h:isWord s = false) (h2:isNum s = false) (h3:s.length = 1):kindL s = if signB (s[0]'(by omega)) = true then 3 else 0:=by
  unfold kindL;rw [if_neg (by rw [h];simp),if_neg (by rw [h2];simp)]
  match s,h3 with
  | [c],_ => rfl
theorem kindL_none {s:Str} (h:isWord s = false) (h2:isNum s = false) (h3:¬ s.length = 1):kindL s = 0:=by
  unfold kindL;rw [if_neg (by rw [h];simp),if_neg (by rw [h2];simp)]
  match s,h3 with
  | [],_ => rfl
  | [c],h => simp at h
  | c :: d :: r,_ => rfl
theorem slice_take {s:Str} {a e:Nat} (h:a ≤ e):(s.take e).drop a = (s.drop a).take (e - a):=by rw [List.drop_take]
theorem kind_at {s:Str} {a i:Nat} (h:a < i) (hi:i ≤ s.length):(0 < kindL ((s.take i).drop a)) = (preOK (s.drop a) (i - a) = true):=by
  rw [slice_take (by omega),kind_take (by omega) (by rw [List.length_drop];omega)]
section
variable {s:Str} {a k:Nat}
theorem endL_kind (h:0 < kindL ((s.take (a + (k + 1))).drop a)) (hk:a + k < s.length):preOK (s.drop a) (k + 1) = true:=by
  rw [kind_at (by omega) (by omega),show a + (k + 1) - a = k + 1 from by omega] at h;exact h
theorem endL_kno (h:kindL ((s.take (a + (k + 1))).drop a) ≤ 0) (hk:a + k < s.length):preOK (s.drop a) (k + 1) = false:=by
  cases hp:preOK (s.drop a) (k + 1) with
  | false => rfl
  | true =>
    have h2:0 < kindL ((s.take (a + (k + 1))).drop a):=by rw [kind_at (by omega) (by omega),show a + (k + 1) - a = k + 1 from by omega];exact hp
    omega
theorem endL_skip (h:kindL ((s.take (a + (k + 1))).drop a) ≤ 0) (hk:a + k < s.length) (h0:k = 0):endL (s.drop a) (k + 1) = endL (s.drop a) k:=by
  subst h0
  rw [endL_1 (endL_kno h hk),endL_0]
theorem endL_fin (ha:a < s.length) (hk:a + k ≤ s.length) (h:s.length ≤ a + k) (hp:k ≤ 1 ∨ preOK (s.drop a) k = true):endL (s.drop a) k = tokN (s.drop a):=by
  have e:k = (s.drop a).length:=by rw [List.length_drop];omega
  subst e
  exact endL_end (by rw [List.length_drop];omega) hp
end
def valN (s:Str):Int:=(valL s).getD 0
def valB (s:Str):Bool:=(valL s).isSome
def txA (s:Str) (a:Nat):Str:=(s.take (a + tokN (s.drop a))).drop a
def rT (s:Str) (a:Nat) (v:Int):Tok:=⟨kindL ((s.take (a + tokN (s.drop a))).drop a),(s.take (a + tokN (s.drop a))).drop a,v,a⟩
def encT3 (x:List Tok × Int × Int):V:=.tuple [.sl (x.1.map encK) none,.int .i64 x.2.1,.int .i64 x.2.2]
theorem nil_tupL (st:List O) (l:List V):V.le st (.tuple (.nil :: l)) (.tuple (.sl [] none :: l)):=by
  refine V.le_tuple rfl fun i c d hc hd => ?_
  cases i with
  | zero => simp at hc hd;subst hc hd;exact V.le_nil _
  | succ i => simp at hc hd;rw [hc] at hd;cases hd;exact V.le_refl _ _
section
variable {s:Str} {a p:Nat}
theorem tokN_at (h:a < s.length):a + tokN (s.drop a) ≤ s.length:=by
  have:=tokN_le (s.drop a)
  rw [List.length_drop] at this;omega
theorem txA_eq (s:Str) (a:Nat):(s.take (a + tokN (s.drop a))).drop a = (s.drop a).take (tokN (s.drop a)):=by
  rw [List.drop_take];congr 1;omega
theorem note_end1 (hp:lexA s true p = lexA s false a) (h:s.length ≤ p):lexA s false p = lexA s false a:=by rw [← hp,lexA_end h,lexA_end h]
theorem note_end2 {h:p < s.length} (hp:lexA s true p = lexA s false a) (hc:s[p] = 10):lexA s false p = lexA s false a:=by rw [← hp,lexA_line h hc]
theorem kind2_num {u:Str} (h:kindL u = 2):isNum u = true:=by
  unfold kindL at h
  split at h
  · cases h
  · split at h
    · assumption
    · split at h
      · split at h <;> cases h
      · cases h
theorem num_pos {u:Str} (h:isNum u = true):0 < u.length:=by
  rcases Nat.eq_zero_or_pos u.length with h0 | h0
  · rw [num_nil h0] at h;cases h
  · exact h0
theorem rT_word (h:a < s.length) (hb:blankB s[a] = false) (hh:¬ s[a] = 35) (h0:¬ tokN (s.drop a) = 0) (hk:¬ kindL ((s.take (a + tokN (s.drop a))).drop a) = 2):lexA s false a = (lexA s false (a + tokN (s.drop a))).map (rT s a 0 :: ·):=by
  rw [txA_eq,kind_tok h0] at hk
  rw [lexA_tok (v:=0) h hb hh h0 (by unfold tokV;rw [if_neg hk])]
  unfold rT;rw [txA_eq,kind_tok h0]
theorem rT_num (h:a < s.length) (hb:blankB s[a] = false) (hh:¬ s[a] = 35) (h0:¬ tokN (s.drop a) = 0) (hk:kindL ((s.take (a + tokN (s.drop a))).drop a) = 2) (hv:valB ((s.take (a + tokN (s.drop a))).drop a) = true):lexA s false a = (lexA s false (a + tokN (s.drop a))).map (rT s a (valN ((s.take (a + tokN (s.drop a))).drop a)) :: ·):=by
  rw [txA_eq,kind_tok h0] at hk
  rw [txA_eq] at hv
  rw [lexA_tok (v:=valN ((s.drop a).take (tokN (s.drop a)))) h hb hh h0 (by
    unfold tokV valN;rw [if_pos hk]
    unfold valB valL at hv;unfold valL
    cases hh:Lib.parseIntB 64 ((s.drop a).take (tokN (s.drop a))) <;> rw [hh] at hv <;> first | rfl | cases hv)]
  unfold rT;rw [txA_eq,kind_tok h0]
theorem rT_big (h:a < s.length) (hb:blankB s[a] = false) (hh:¬ s[a] = 35) (h0:¬ tokN (s.drop a) = 0) (hk:kindL ((s.take (a + tokN (s.drop a))).drop a) = 2) (hv:valB ((s.take (a + tokN (s.drop a))).drop a) = false):lexA s false a = .error (2,(a:Int)):=by
  rw [txA_eq,kind_tok h0] at hk
  rw [txA_eq] at hv
  refine lexA_big h hb hh h0 ?_
  unfold tokV;rw [if_pos hk]
  unfold valB valL at hv
  cases hh:Lib.parseIntB 64 ((s.drop a).take (tokN (s.drop a))) <;> rw [hh] at hv <;> first | rfl | cases hv
theorem map_snoc {l:List Tok} {t:Tok} {x y z:LexR} (h:z = x.map (l ++ ·)) (h2:x = y.map (t :: ·)):z = y.map ((l ++ [t]) ++ ·):=by
  subst h2;subst h
  cases y <;> simp [Except.map]
theorem map_same {l:List Tok} {x y z:LexR} (h:z = x.map (l ++ ·)) (h2:y = x):z = y.map (l ++ ·):=by rw [h2];exact h
theorem map_nil (x:LexR):x = x.map (([]:List Tok) ++ ·):=by cases x <;> simp [Except.map]
theorem lexT_err {l:List Tok} {x:LexR} {e q:Int} (h:s.length ≤ 65536) (hp:lexA s false 0 = x.map (l ++ ·)) (hx:x = .error (e,q)):lexT s = ([],e,q):=by
  unfold lexT;rw [if_neg (by omega),hp,hx];rfl
theorem lexT_fin {l:List Tok} (h:s.length ≤ 65536) (hp:lexA s false 0 = (lexA s false a).map (l ++ ·)) (ha:s.length ≤ a):lexT s = (l,0,0):=by
  rw [lexA_end ha] at hp
  unfold lexT;rw [if_neg (by omega),hp];simp [Except.map]
end
end Go.Duo
namespace Go.Duo
open Go
end Go.Duo

namespace Go.Duo
open Go
theorem getDu (s:Str) (i:Nat) (u:UInt8) (h:i < s.length):s.getD i u = s[i]:=getD_ltI s i u h
theorem kwT:(KW.map V.str).take 10 = KW.map V.str:=rfl
theorem kwL:KW.length = 10:=rfl
theorem kwO:(KW.map V.str).all V.one = true:=rfl
attribute [go_sem] kwT kwL kwO u8_45 u8_48 u8_35 u8_10 u8_43 u8_eq getDu
end Go.Duo

namespace Go
section
variable {F:Fence} {n:Nat} {P:Program} {Q:Exit → Act → World → Prop} {a:Act} {w:World} {b:Frame} {k:List Item} {cs:List Frame}
theorem stepR_scope {c:Code}:step P (lone (b.atR a (.code (.scope c) :: k)) cs w) = .next (lone (b.atR a (.code c :: .inScope c :: k)) cs w) :=
  step_lone_go (by simp [stepG,stepG.exec,Frame.atR])
theorem stepR_inScope {c:Code}:step P (lone (b.atR a (.inScope c :: k)) cs w) = .next (lone (b.atR a k) cs w) :=
  step_lone_go (by simp [stepG,stepG.exec,Frame.atR])
def Exit.unGoto (Q:Exit → Act → World → Prop):Exit → Act → World → Prop
  | .goto _,_,_ => False
  | e,a,w => Q e a w
theorem wpIn_scope {c:Code} (h:c.wpIn F n P (Exit.unGoto Q) a w):(Code.scope c).wpIn F n P Q a w:=by
  intro b k cs hro hb hr
  have h0:(lone (b.atR a (.code (.scope c) :: k)) cs w).fenced P F:=fenced_calm hb hr rfl
  obtain ⟨e,a₁,w₁,hq,harr⟩:=h b (.inScope c :: k) cs hro hb hr
  cases e with
  | normal => exact ⟨.normal,a₁,w₁,hq,.head h0 stepR_scope (StepsIn.trans harr (.one (fenced_calm hb hr rfl) stepR_inScope))⟩
  | exit id =>
    have hx:exitTo id (.inScope c :: k) = exitTo id k:=by simp [exitTo]
    exact ⟨_,a₁,w₁,hq,fun k' hk => .head h0 stepR_scope (harr.1 k' (by rw [hx];exact hk)),
      fun hr' hk => let ⟨k₁,h1,h2⟩:=harr.2 hr' (by rw [hx];exact hk);⟨k₁,h1,.head h0 stepR_scope h2⟩⟩
  | goto l => exact hq.elim
  | ret => exact ⟨_,a₁,w₁,hq,.of_steps (.one h0 stepR_scope) harr⟩
  | panic ch => exact ⟨_,a₁,w₁,hq,.of_steps (.one h0 stepR_scope) harr⟩
  | outgrown => exact ⟨_,a₁,w₁,hq,.of_steps (.one h0 stepR_scope) harr⟩
end
end Go
namespace Go.Duo
open Go
section
variable {P:Program} {gl:Nat → V} {r:Option Nat} {e:Env} {st:List O} {Q:Exit → Env → List O → Prop}
def scopeQ (Q:Exit → Env → List O → Prop):Exit → Env → List O → Prop
  | .goto _,_,_ => False
  | x,e,st => Q x e st
theorem AW.scope {c:Code} (h:AW P gl r c (scopeQ Q) e st):AW P gl r (.scope c) Q e st:=fun n0 w s a hn hst hs ha => by
  refine wpIn_scope (wpIn_mono (h n0 w s a hn hst hs ha) fun z a' w' ⟨e',s',h1,h2,h3,h4⟩ => ?_)
  cases z with
  | goto l => exact h4.elim
  | _ => exact ⟨e',s',h1,h2,h3,h4⟩
end
end Go.Duo

namespace Go.Duo
open Go
section
variable {P:Program} {gl:Nat → V} {r:Option Nat} {e:Env} {st:List O} {Q:Exit → Env → List O → Prop}
theorem AO_of_stepA {o:Oper} {v0:V} (h:stepA P gl (e.ev gl) st o.op (fun v u => v = v0 ∧ u = none)):AO P gl r o e st (fun v st' => v = v0 ∧ st' = st):=by
  obtain ⟨v,u,⟨rfl,rfl⟩,hA⟩:=stepA_sound (r:=r) h
  exact fun n0 w s a next Q hn hst hs ha hk => hA n0 w s a next Q hn hst hs ha fun x w' s' hs' hE hst' hr _ => hk v x w' s' hs' hE hr ⟨rfl,hst'⟩
theorem AW.regionApp0 {id d5 d6 d7 d2:Nat} {x:Operand} {t t5 t6 t7 t8 et sz by_:TypeId} {p5 p6 p7 p8:String} {a5 a6 a7 a8:Array Edge} (he:elt P t = some (et,sz,by_))
    (hx:(e.put (some d5) .nil).ev gl x = .nil) (h5:d5 < e.n) (h6:d6 < e.n) (h7:d7 < e.n) (h2:d2 < e.n) (h56:d6 ≠ d5)
    (h:Q .normal ((((e.put (some d5) .nil).put (some d6) .nil).put (some d7) .nil).put (some d2) .nil) st) :
    AW P gl r (.region id #[⟨some d5,.buildSlice t 0 #[],t5,p5,a5,none⟩,⟨some d6,.move x,t6,p6,a6,none⟩,⟨some d7,.call ⟨.builtin .append,#[.tmp d5,.tmp d6],#[t,t]⟩,t7,p7,a7,none⟩,⟨some d2,.assign (.tmp d7),t8,p8,a8,none⟩] false) Q e st:=fun n0 w s a hn hst hs ha => by
  refine wpIn_region ?_
  show wpOpsIn (Fr r) 0 P _ _ [0,1,2,3] a w
  have o1:AO P gl r ⟨some d5,.buildSlice t 0 #[],t5,p5,a5,none⟩ e st (fun v st' => v = .nil ∧ st' = st):=AO_of_stepA (by
    refine ⟨fun _ => rfl, ?_⟩
    unfold buildSliceA
    rw [he]
    exact ⟨rfl,rfl⟩)
  have o2:AO P gl r ⟨some d6,.move x,t6,p6,a6,none⟩ (e.put (some d5) .nil) st (fun v st' => v = .nil ∧ st' = st):=fun n0 w s a next Q hn hst hs ha hk =>
    step1_sound (o:=⟨some d6,.move x,t6,p6,a6,none⟩) (K:=fun v st' => v = .nil ∧ st' = st) (show step1 P gl _ st (.move x) _ from ⟨hx,rfl⟩) n0 w s a next Q hn hst hs ha hk
  have g5:((e.put (some d5) .nil).put (some d6) .nil).ev gl (.tmp d5) = .nil:=by
    show ((e.put (some d5) .nil).put (some d6) .nil).get d5 = .nil
    simp [Env.put,Env.get,getM,h56]
  have g6:((e.put (some d5) .nil).put (some d6) .nil).ev gl (.tmp d6) = .nil:=by
    show ((e.put (some d5) .nil).put (some d6) .nil).get d6 = .nil
    simp [Env.put,Env.get,getM]
  have o3:AO P gl r ⟨some d7,.call ⟨.builtin .append,#[.tmp d5,.tmp d6],#[t,t]⟩,t7,p7,a7,none⟩ ((e.put (some d5) .nil).put (some d6) .nil) st (fun v st' => v = .nil ∧ st' = st):=AO_of_stepA (by
    show t = t ∧ appendA P t (((e.put (some d5) .nil).put (some d6) .nil).ev gl (.tmp d5)) (((e.put (some d5) .nil).put (some d6) .nil).ev gl (.tmp d6)) _
    rw [g5,g6]
    refine ⟨rfl, ?_⟩
    unfold appendA
    rw [he]
    simp only [rowOf]
    exact ⟨fun el h => (by cases h),by simp,by simp,.inr ⟨fun _ => (by simp),fun h => absurd rfl h⟩⟩)
  have g7:(((e.put (some d5) .nil).put (some d6) .nil).put (some d7) .nil).ev gl (.tmp d7) = .nil:=by
    show (((e.put (some d5) .nil).put (some d6) .nil).put (some d7) .nil).get d7 = .nil
    simp [Env.put,Env.get,getM]
  have o4:AO P gl r ⟨some d2,.assign (.tmp d7),t8,p8,a8,none⟩ (((e.put (some d5) .nil).put (some d6) .nil).put (some d7) .nil) st (fun v st' => v = .nil ∧ st' = st):=fun n0 w s a next Q hn hst hs ha hk =>
    step1_sound (o:=⟨some d2,.assign (.tmp d7),t8,p8,a8,none⟩) (K:=fun v st' => v = .nil ∧ st' = st) (show step1 P gl _ st (.assign (.tmp d7)) _ from ⟨g7,rfl⟩) n0 w s a next Q hn hst hs ha hk
  rw [wpOpsIn_cons]
  unfold wpOpIn
  simp only [List.getElem?_toArray,List.getElem?_cons_zero,Region.wanted,if_true]
  refine o1 n0 w s _ _ _ hn hst hs ha fun v1 y1 w1 s1 hs1 hE1 hr1 hK1 => ?_
  obtain ⟨rfl,hst1⟩:=hK1
  have ha1:=(ha.evolve hE1 hs.wf).put (d:=some d5) h5 hr1
  rw [wpOpsIn_cons]
  unfold wpOpIn
  simp only [List.getElem?_toArray,List.getElem?_cons_succ,List.getElem?_cons_zero,Region.wanted,if_true]
  refine o2 n0 w1 s1 _ _ _ (Nat.le_trans hn hE1.size) hst1 hs1 ha1 fun v2 y2 w2 s2 hs2 hE2 hr2 hK2 => ?_
  obtain ⟨rfl,hst2⟩:=hK2
  have ha2:=(ha1.evolve hE2 hs1.wf).put (d:=some d6) h6 hr2
  have hE12:=hE1.trans hs.len hs1.len hE2
  rw [wpOpsIn_cons]
  unfold wpOpIn
  simp only [List.getElem?_toArray,List.getElem?_cons_succ,List.getElem?_cons_zero,Region.wanted,if_true]
  refine o3 n0 w2 s2 _ _ _ (Nat.le_trans hn hE12.size) hst2 hs2 ha2 fun v3 y3 w3 s3 hs3 hE3 hr3 hK3 => ?_
  obtain ⟨rfl,hst3⟩:=hK3
  have ha3:=(ha2.evolve hE3 hs2.wf).put (d:=some d7) h7 hr3
  have hE13:=hE12.trans hs.len hs2.len hE3
  rw [wpOpsIn_cons]
  unfold wpOpIn
  simp only [List.getElem?_toArray,List.getElem?_cons_succ,List.getElem?_cons_zero,Region.wanted,if_true]
  refine o4 n0 w3 s3 _ _ _ (Nat.le_trans hn hE13.size) hst3 hs3 ha3 fun v4 y4 w4 s4 hs4 hE4 hr4 hK4 => ?_
  obtain ⟨rfl,hst4⟩:=hK4
  refine ⟨_,s4,hs4,hE13.trans hs.len hs3.len hE4,(ha3.evolve hE4 hs3.wf).put (d:=some d2) h2 hr4, ?_⟩
  rw [hst4]
  exact h
end
end Go.Duo

namespace Go.Duo
open Go
section
variable {P:Program} {gl:Nat → V} {r:Option Nat} {e:Env} {st:List O} {w w':World} {s s':S} {ops:Array Oper} {m:Nat}
theorem anyQ4 {S:Bool → List O} {q:Nat} {res:List (V × Option ((Nat → V) × O))} {n0:Nat} {w0:World} {s0:Duo.S} (hok:anyOK ops m = true) (hqm:q < m) (as:List Nat) (has:∀ i ∈ as,dep ops i q = true ∨ ∃ j ∈ as,dep ops i j = true) (hrl:res.length = m)
    (hat:∀ (i:Nat) (o:Oper),(ops.toList.take m)[i]? = some o → ∃ v u,res[i]? = some (v,u) ∧ (envOf ((ops.toList.take m).take i) (res.take i) e).fits o.dst ∧ (u.isSome = true → o.dst.isSome = true) ∧
      ∀ b,(b = true → i ≠ q ∧ dep ops q i = false) → (b = false → i ∉ as) → OpB2 P gl r ops o (envOf ((ops.toList.take m).take i) (res.take i) e) (S b) (S (b || decide (i = q))) v u)
    (hn0:n0 ≤ w0.heap.size) (hlen0:s0.st.length ≤ (S true).length) (hwf0:s0.g.length = s0.st.length) {Q:Exit → Act → World → Prop}
    (hfin:∀ a w s,Sim P gl w s → Evolve w0 s0 w s → ActOK w s n0 (applyUps (upsOf (ops.toList.take m) res) (envOf (ops.toList.take m) res e) (S true)).1 a → s.st = (applyUps (upsOf (ops.toList.take m) res) (envOf (ops.toList.take m) res e) (S true)).2 → wpOpsIn (Fr r) 0 P ops Q (List.range' m (ops.size - m)) a w) :
    ∀ (fuel:Nat) (L:Array Bool) (a:Act) (w:World) (s:Duo.S) (B:Nat → Nat),InvQ S q P gl ops m res e n0 w0 s0 L a w s B → L.count false ≤ fuel → wpAnyIn (Fr r) 0 P .any ops Q fuel L a w:=by
  obtain ⟨hm,hdown,hlook,hdst,hrest⟩:=anyOK_spec hok
  have hl:(ops.toList.take m).length = m:=by simp;omega
  have hget:∀ i,i < m → (ops.toList.take m)[i]? = ops[i]?:=fun i hi => by rw [List.getElem?_take_of_lt hi];simp
  have henv:∀ (i:Nat) (t:Tmp),i ≤ m → ((∀ j,j < m → dstAt ops j ≠ some t) → (envOf ((ops.toList.take m).take i) (res.take i) e).get t = e.get t) ∧
      ∀ j v u,j < i → dstAt ops j = some t → res[j]? = some (v,u) → (envOf ((ops.toList.take m).take i) (res.take i) e).get t = v:=fun i t hi => by
    have hg:∀ k o,((ops.toList.take m).take i)[k]? = some o → k < i ∧ dstAt ops k = o.dst:=fun k o hk => by
      have hki:k < i:=by
        have:=(List.getElem?_eq_some_iff.1 hk).1
        simp at this
        omega
      rw [List.getElem?_take_of_lt hki,hget k (by omega)] at hk
      exact ⟨hki,by simp [dstAt,hk]⟩
    refine ⟨fun h => envOf_other _ _ _ _ fun k o hk he => ?_,fun j v u hj hd hr => ?_⟩
    · obtain ⟨h1,h2⟩:=hg k o hk
      exact h k (by omega) (h2.trans he)
    · have hjs:j < ops.size:=by omega
      refine envOf_at _ _ _ _ j ops[j] v u (by rw [List.getElem?_take_of_lt hj,hget j (by omega)];exact Array.getElem?_eq_getElem hjs) (by rw [List.getElem?_take_of_lt hj];exact hr) (by simpa [dstAt,hjs] using hd) fun k o hk ho he => ?_
      obtain ⟨h1,h2⟩:=hg k o ho
      have:=hdst j k t (by omega) (by omega) hd (h2.trans he)
      omega
  have hdone:∀ (fuel:Nat) (L:Array Bool) (a:Act) (w:World) (s:Duo.S) (B:Nat → Nat),InvQ S q P gl ops m res e n0 w0 s0 L a w s B → L.count false ≤ fuel → (∀ j,j < m → L.getD j false = true) → wpAnyIn (Fr r) 0 P .any ops Q fuel L a w:=fun fuel L a w s B hI hf hall => by
    have hA:ActOK w s n0 (envOf (ops.toList.take m) res e) a:=by
      refine ⟨by rw [envOf_n];exact hI.n,fun t => ?_,hI.marks⟩
      obtain ⟨g1,g2⟩:=henv m t (Nat.le_refl _)
      have t1:(ops.toList.take m).take m = ops.toList.take m:=List.take_of_length_le (by omega)
      have t2:res.take m = res:=List.take_of_length_le (by omega)
      rw [t1,t2] at g1 g2
      by_cases hex:∃ j,j < m ∧ dstAt ops j = some t
      · obtain ⟨j,hj,hd⟩:=hex
        obtain ⟨v,u,hr,_⟩:=hat j (ops[j]'(by omega)) (by rw [hget j hj];exact Array.getElem?_eq_getElem _)
        rw [g2 j v u hj hd hr]
        exact (hI.new j t v u (hall j hj) hd hr).1
      · rw [g1 fun j hj hd => hex ⟨j,hj,hd⟩]
        exact hI.old t fun j hj hd => hex ⟨j,hj,hd⟩
    obtain ⟨bs,q1,q2,_,q4⟩:=ups_blocks (P:=P) (w:=w) (s:=s) (w0:=w0) (a:=a) (B:=B) (ops.toList.take m) res 0 (fun j o v f ob d ho hr hd => by
      have hj:j < m:=by have:=(List.getElem?_eq_some_iff.1 ho).1;omega
      rw [hget j hj] at ho
      have:=(hI.new j d v (some (f,ob)) (hall j hj) (by simp [dstAt,ho,hd]) hr).2 f ob rfl
      simpa using this) (fun j j' v v' fo fo' hr hr' he => by
      have hj:j < m:=by have:=(List.getElem?_eq_some_iff.1 hr).1;omega
      have hj':j' < m:=by have:=(List.getElem?_eq_some_iff.1 hr').1;omega
      exact hI.inj j j' v v' fo fo' (hall j hj) (hall j' hj') hr hr' (by simpa using he))
    have hstE:s.st = S true:=by rw [hI.st,hall q hqm]
    have hlen1:s0.st.length ≤ s.st.length:=by rw [hstE];exact hlen0
    obtain ⟨s',k1,k2,k3,k4⟩:=register (upsOf (ops.toList.take m) res) bs s _ hI.sim hI.ev hlen1 hA q1 q2 q4
    rw [hstE] at k3 k4
    refine chain (m:=m) (fun i hi hmi => (hrest (by omega)).2 i hi hmi) hdown (ops.size - m) m (by omega) (Nat.le_refl _) fuel L a w hI.closed.1 (fun i hi => ⟨fun h => hI.pre i h,fun h => hall i h⟩) hf (hfin a w s' k1 k2 k3 k4)
  intro fuel
  induction fuel with
  | zero =>
    intro L a w s B hI hf
    refine hdone 0 L a w s B hI hf fun j hj => ?_
    cases hx:L.getD j false with
    | true => rfl
    | false =>
      have:=count_set (L:=L) (i:=j) (by rw [hI.closed.1];omega) hx
      omega
  | succ fuel ih =>
    intro L a w s B hI hf
    by_cases hall:∀ j,j < m → L.getD j false = true
    · exact hdone _ L a w s B hI hf hall
    · -- some operation of the first phase is ready
      have hsize:=hI.closed.1
      have hmin:∃ j,j < m ∧ j ∈ Region.ready .any ops L:=by
        have hex:∃ j,j < m ∧ L.getD j false = false:=by
          apply Classical.byContradiction
          intro hno
          refine hall fun j hj => ?_
          cases hx:L.getD j false with
          | true => rfl
          | false => exact absurd ⟨j,hj,hx⟩ hno
        obtain ⟨j,hj⟩:=hex
        induction j using Nat.strongRecOn with
        | _ j ihj =>
          by_cases hd:∃ i,i < j ∧ L.getD i false = false
          · obtain ⟨i,hi,hx⟩:=hd
            exact ihj i hi ⟨by omega,hx⟩
          · refine ⟨j,hj.1,(ready_spec hsize).2 ⟨by omega,hj.2,fun i hdep => ?_⟩⟩
            cases hx:L.getD i false with
            | true => rfl
            | false => exact absurd ⟨i,hdown j i hdep,hx⟩ hd
      obtain ⟨j0,_,hj0⟩:=hmin
      refine ⟨fun h0 => by rw [h0] at hj0;simp at hj0,fun i hi => ?_⟩
      obtain ⟨hilt,hifalse,hideps⟩:=(ready_spec hsize).1 hi
      have him:i < m:=by
        apply Classical.byContradiction
        intro hge
        by_cases heq:i = m
        · subst heq
          refine hall fun j hj => ?_
          obtain ⟨hsucc,_⟩:=hrest hilt
          have key:∀ d j,j < i → i - j = d → L.getD j false = true:=by
            intro d
            induction d using Nat.strongRecOn with
            | _ d ihd =>
              intro j hj hd
              obtain ⟨j',h1,h2,h3⟩:=hsucc j hj
              by_cases hj':j' = i
              · subst hj';exact hideps j h3
              · exact hI.closed.2 j' j (ihd (i - j') (by omega) j' (by omega) rfl) h3
          exact key _ j hj rfl
        · have:=hideps _ ((hrest (by omega)).2 i hilt (by omega))
          have:=hI.pre _ this
          omega
      have hoi:ops[i]? = some ops[i]:=Array.getElem?_eq_getElem hilt
      obtain ⟨v,u,hres,hfit,hud,hB⟩:=hat i ops[i] (by rw [hget i him];exact hoi)
      have hA:ActOK w s n0 ⟨e.n,((ops[i]).looksAt ops).map fun t => (t,(envOf ((ops.toList.take m).take i) (res.take i) e).get t)⟩ a:=by
        refine ⟨hI.n,fun t => ?_,hI.marks⟩
        show Rep w s (getM _ t) _
        rw [getM_map (fun t => (envOf ((ops.toList.take m).take i) (res.take i) e).get t)]
        split
        · rename_i hlk
          obtain ⟨g1,g2⟩:=henv i t (by omega)
          by_cases hex:∃ j,j < m ∧ dstAt ops j = some t
          · obtain ⟨j,hj,hd⟩:=hex
            have hdep:=hlook i j _ t him hj hoi hlk hd
            obtain ⟨vj,uj,hrj,_⟩:=hat j (ops[j]'(by omega)) (by rw [hget j hj];exact Array.getElem?_eq_getElem _)
            rw [g2 j vj uj (hdown i j hdep) hd hrj]
            exact (hI.new j t vj uj (hideps j hdep) hd hrj).1
          · rw [g1 fun j hj hd => hex ⟨j,hj,hd⟩]
            exact hI.old t fun j hj hd => hex ⟨j,hj,hd⟩
        · exact .undef _
      have hbq:L.getD q false = true → i ≠ q ∧ dep ops q i = false:=fun hb => by
        refine ⟨fun he => absurd hb (by subst he;rw [hifalse];simp), ?_⟩
        cases hd:dep ops q i with
        | false => rfl
        | true => have:=hI.closed.2 q i hb hd;rw [hifalse] at this;cases this
      have hbq2:L.getD q false = false → i ∉ as:=fun hb hia => by
        have key:∀ j,j ∈ as → L.getD j false = true → L.getD q false = true:=by
          intro j
          induction j using Nat.strongRecOn with
          | _ j ihj =>
            intro hja hjL
            rcases has j hja with h | ⟨k,hk,h⟩
            · exact hI.closed.2 j q hjL h
            · exact ihj k (hdown j k h) hk (hI.closed.2 j k hjL h)
        rcases has i hia with h | ⟨k,hk,h⟩
        · rw [hideps q h] at hb;cases hb
        · rw [key k hk (hideps k h)] at hb;cases hb
      have hstep:=hB (L.getD q false) hbq hbq2 ⟨e.n,((ops[i]).looksAt ops).map fun t => (t,(envOf ((ops.toList.take m).take i) (res.take i) e).get t)⟩ (fun t ht => by show getM _ t = _;rw [getM_map (fun t => (envOf ((ops.toList.take m).take i) (res.take i) e).get t),if_pos ht]) n0 w s a
        (wpAnyIn (Fr r) 0 P .any ops Q fuel (L.setIfInBounds i true)) Q (Nat.le_trans hn0 hI.ev.size) hI.st hI.sim hA (fun x w' s' k1 k2 k3 k4 k5 => ?_)
      · unfold wpOpIn
        rw [hoi]
        exact hstep
      · have hcs:=count_set (L:=L) (i:=i) (by omega) hifalse
        have hwf:=hI.sim.wf
        obtain ⟨bn,hbn⟩:∃ bn,∀ f o,u = some (f,o) → w.heap.size ≤ bn ∧ Pend P w' s' f o x bn:=by
          cases u with
          | none => exact ⟨0,by simp⟩
          | some fo =>
            obtain ⟨f,o⟩:=fo
            obtain ⟨bn,h1,h2⟩:=k5 f o rfl
            exact ⟨bn,fun f' o' he => by simp only [Option.some.injEq,Prod.mk.injEq] at he;obtain ⟨rfl,rfl⟩:=he;exact ⟨h1,h2⟩⟩
        have hdi:∀ j t,j < m → j ≠ i → dstAt ops j = some t → (ops[i]).dst ≠ some t:=fun j t hj hne hd he => hne (hdst j i t hj him hd (by simp [dstAt,hilt,he]))
        refine ih _ (a.put (ops[i]).dst x) w' s' (fun j => if j = i then bn else B j) ⟨hI.closed.set hi,fun j hj => ?_,k3.trans (by rw [getD_set (by omega)];by_cases hiq:i = q <;> simp [hiq]),k1,hI.ev.trans hwf0 hI.sim.len k2,by rw [put_size];exact hI.n,by rw [put_defers];exact hI.marks.evolve k2 hwf,fun t ht => ?_,fun j t vj uj hL hd hrj => ?_,fun j j' v1 v2 fo fo' hL hL' hr hr' hBe => ?_⟩ (by omega)
        · rw [getD_set (by omega)] at hj
          split at hj
          · rename_i he;subst he;exact him
          · exact hI.pre j hj
        · rw [put_other (fun he => ht i him (by simp [dstAt,hilt,he]))]
          exact (hI.old t ht).evolve k2 hwf
        · rw [getD_set (by omega)] at hL
          by_cases hji:j = i
          · subst hji
            rw [hres] at hrj
            simp only [Option.some.injEq,Prod.mk.injEq] at hrj
            obtain ⟨rfl,rfl⟩:=hrj
            have hd':(ops[j]).dst = some t:=by simpa [dstAt,hilt] using hd
            have hlt:t < a.tmps.size:=by
              rw [hd'] at hfit
              have h1:t < (envOf ((ops.toList.take m).take j) (res.take j) e).n:=hfit
              rw [envOf_n] at h1
              exact Nat.lt_of_lt_of_le h1 hI.n
            rw [hd',put_same hlt]
            refine ⟨k4,fun f o hu => ?_⟩
            rw [if_pos rfl]
            obtain ⟨h1,h2⟩:=hbn f o hu
            exact ⟨Nat.le_trans hI.ev.size h1,h2⟩
          · rw [if_neg (fun he => hji he.symm)] at hL
            have hjm:=hI.pre j hL
            rw [put_other (hdi j t hjm hji hd)]
            obtain ⟨h1,h2⟩:=hI.new j t vj uj hL hd hrj
            refine ⟨h1.evolve k2 hwf,fun f o hu => ?_⟩
            rw [if_neg hji]
            obtain ⟨h3,h4⟩:=h2 f o hu
            exact ⟨h3,h4.evolve hI.sim k2⟩
        · rw [getD_set (by omega)] at hL hL'
          have hlt:∀ j v fo,j ≠ i → L.getD j false = true → res[j]? = some (v,some fo) → B j < w.heap.size:=fun j v fo hji hL hr => by
            have hjm:=hI.pre j hL
            obtain ⟨v',u',hr',_,hud',_⟩:=hat j (ops[j]'(by omega)) (by rw [hget j hjm];exact Array.getElem?_eq_getElem _)
            rw [hr] at hr'
            simp only [Option.some.injEq,Prod.mk.injEq] at hr'
            obtain ⟨rfl,rfl⟩:=hr'
            obtain ⟨d,hd⟩:=Option.isSome_iff_exists.1 (hud' rfl)
            obtain ⟨_,h2⟩:=hI.new j d v (some fo) hL (by simp [dstAt,show j < ops.size by omega,hd]) hr
            obtain ⟨_,_,_,h3,_⟩:=(h2 fo.1 fo.2 rfl).2
            exact h3
          have hnew:∀ v fo,res[i]? = some (v,some fo) → w.heap.size ≤ bn:=fun v' fo hr => by
            rw [hres] at hr
            simp only [Option.some.injEq,Prod.mk.injEq] at hr
            exact (hbn fo.1 fo.2 hr.2).1
          by_cases h1:j = i
          · by_cases h2:j' = i
            · omega
            · subst h1
              rw [if_pos rfl,if_neg h2] at hBe
              rw [if_neg (fun he => h2 he.symm)] at hL'
              have:=hlt j' v2 fo' h2 hL' hr'
              have:=hnew v1 fo hr
              omega
          · rw [if_neg (fun he => h1 he.symm)] at hL
            by_cases h2:j' = i
            · subst h2
              rw [if_neg h1,if_pos rfl] at hBe
              have:=hlt j v1 fo h1 hL hr
              have:=hnew v2 fo' hr'
              omega
            · rw [if_neg h1,if_neg h2] at hBe
              rw [if_neg (fun he => h2 he.symm)] at hL'
              exact hI.inj j j' v1 v2 fo fo' hL hL' hr hr' hBe
theorem envOf_app:∀ (l l2:List Oper) (res res2:List (V × Option ((Nat → V) × O))) (e:Env),l.length = res.length → envOf (l ++ l2) (res ++ res2) e = envOf l2 res2 (envOf l res e) ∧ upsOf (l ++ l2) (res ++ res2) = upsOf l res ++ upsOf l2 res2:=by
  intro l
  induction l with
  | nil => intro l2 res res2 e h;cases res with
    | nil => exact ⟨rfl,rfl⟩
    | cons => simp at h
  | cons o l ih =>
    intro l2 res res2 e h
    cases res with
    | nil => simp at h
    | cons p res =>
      obtain ⟨v,u⟩:=p
      simp only [List.cons_append,envOf,upsOf]
      obtain ⟨h1,h2⟩:=ih l2 res res2 (e.put o.dst v) (by simpa using h)
      exact ⟨h1,by rw [h2,List.append_assoc]⟩
def callOK (ops:Array Oper) (m q:Nat) (ls as:List Nat):Bool :=
  (List.range q).all (fun i => dep ops q i || ls.contains i) && (List.range m).all (fun i => decide (i ≤ q) || as.contains i) && as.all (fun i => dep ops i q || as.any fun j => dep ops i j)
theorem AW.anyC {id:Nat} {Q:Exit → Env → List O → Prop} (hfol:P.follows .mixedOrders = true) (m q:Nat) (ls as:List Nat) (oq:Oper) (hok:anyOK ops m = true) (hqm:q < m) (hoq0:ops.toList[q]? = some oq) (hg:oq.guard = none) (hls:callOK ops m q ls as = true)
    (h:awA P gl ops (ops.toList.take q) e st [] fun e1 s1 => s1 = st ∧ e1.fits oq.dst ∧ ∃ vq st',step1 P gl (e1.ev gl) st oq.op (fun v s2 => v = vq ∧ s2 = st') ∧ st.length ≤ st'.length ∧ awS P gl ops e1 st' ls ∧
      awA P gl ops ((ops.toList.take m).drop (q + 1)) (e1.put oq.dst vq) st' [] fun e2 s2 => awL P gl ops (ops.toList.drop m) e2 s2 (Q .normal)):AW P gl r (.region id ops true) Q e st:=fun n0 w s a hn hst hs ha => by
  have hoq:ops[q]? = some oq:=by simpa using hoq0
  refine wpIn_region_any hfol ?_
  have hE0:=Evolve.drawn (w:=w) hs.wf (w.drawn + 1)
  have hS0:=hs.drawn (w.drawn + 1)
  have hA0:=ha.evolve hE0 hs.wf
  simp only [callOK,Bool.and_eq_true,List.all_eq_true,List.mem_range,Bool.or_eq_true,decide_eq_true_eq,List.contains_iff_mem,List.any_eq_true] at hls
  obtain ⟨⟨hl1,hl2⟩,hl3⟩:=hls
  obtain ⟨res1,hrun1,hK⟩:=awA_run (r:=r) _ _ _ h
  rw [List.nil_append] at hK
  obtain ⟨hm,hdown,hlook,hdstu,hrest0⟩:=anyOK_spec hok
  obtain ⟨hs1,hfq,vq,st',hst',hlen',hS,hA2⟩:=hK
  have hups1:upsOf (ops.toList.take q) res1 = []:=by
    have:=congrArg List.length hs1
    rw [applyUps_len] at this
    exact List.length_eq_zero_iff.1 (by omega)
  rw [hups1] at hst' hS hA2 hfq
  simp only [applyUps] at hst' hS hA2 hfq
  obtain ⟨res2,hrun2,hrest⟩:=awA_run (r:=r) _ _ _ hA2
  rw [List.nil_append] at hrest
  obtain ⟨hlen1,hat1⟩:=runA_at _ _ _ hrun1
  obtain ⟨hlen2,hat2⟩:=runA_at _ _ _ hrun2
  have hqs:q < ops.size:=by omega
  have hlq:(ops.toList.take q).length = q:=by simp;omega
  have hl:ops.toList.take m = ops.toList.take q ++ (oq :: (ops.toList.take m).drop (q + 1)):=by
    have h1:(ops.toList.take m)[q]'(by simp;omega) = oq:=by
      have:=(List.getElem?_eq_some_iff.1 hoq0).2
      rw [List.getElem_take]
      exact this
    have h2:=(List.take_append_drop q (ops.toList.take m)).symm
    rw [List.take_take,Nat.min_eq_left (by omega),List.drop_eq_getElem_cons (by simp;omega),h1] at h2
    exact h2
  have hrl:(res1 ++ ((vq,none) :: res2)).length = m:=by
    have:=congrArg List.length hl
    simp only [List.length_append,List.length_cons,List.length_take,Array.length_toList] at this hlen1 hlen2 ⊢
    omega
  have hres1:∀ i,i < q → (res1 ++ ((vq,none) :: res2))[i]? = res1[i]?:=fun i hi => List.getElem?_append_left (by omega)
  have hresq:(res1 ++ ((vq,none) :: res2))[q]? = some (vq,none):=by
    rw [List.getElem?_append_right (by omega),show q - res1.length = 0 by omega];rfl
  have hres2:∀ k,(res1 ++ ((vq,none) :: res2))[q + 1 + k]? = res2[k]?:=fun k => by
    rw [List.getElem?_append_right (by omega),show q + 1 + k - res1.length = k + 1 by omega];rfl
  have htk1:∀ i,i ≤ q → (ops.toList.take m).take i = (ops.toList.take q).take i ∧ (res1 ++ ((vq,none) :: res2)).take i = res1.take i:=fun i hi => by
    refine ⟨by rw [List.take_take,List.take_take,Nat.min_eq_left (by omega),Nat.min_eq_left hi],List.take_append_of_le_length (by omega)⟩
  have hag:∀ {i:Nat} {o:Oper} {t:Tmp},i < m → ops[i]? = some o → t ∈ o.looksAt ops → (envOf (ops.toList.take m) (res1 ++ ((vq,none) :: res2)) e).get t = (envOf ((ops.toList.take m).take i) ((res1 ++ ((vq,none) :: res2)).take i) e).get t:=fun hi ho ht => env_agree (e:=e) hok hrl hi ho ht
  have hend:=envOf_app (ops.toList.take q) (oq :: (ops.toList.take m).drop (q + 1)) res1 ((vq,none) :: res2) e (by omega)
  rw [← hl] at hend
  have hL0:(Array.replicate ops.size false).getD q false = false:=by
    simp only [Array.getD_eq_getD_getElem?,Array.getElem?_replicate]
    split <;> rfl
  refine anyQ4 (S:=fun b => if b then st' else st) (q:=q) (res:=res1 ++ ((vq,none) :: res2)) (Q:=fun x a' w' => ∃ e' s',Sim P gl w' s' ∧ Evolve w s w' s' ∧ ActOK w' s' n0 e' a' ∧ Q x e' s'.st) hok hqm as (fun i hi => (hl3 i hi).imp (fun h => h) fun ⟨j,h1,h2⟩ => ⟨j,h1,h2⟩) hrl (fun i o hio => ?_) (w0:={ w with drawn:=w.drawn + 1 }) (s0:=s) hn (by rw [hst];exact hlen') hs.len (fun a' w' s' k1 k2 k3 k4 => ?_) ops.size _ a _ s (fun _ => 0)
    ⟨⟨by simp,fun i j hi => ?_⟩,fun i hi => ?_,(by rw [hL0];exact hst),hS0,Evolve.refl hS0.wf,hA0.n,hA0.marks,fun t _ => hA0.get t,fun j t v u hL => ?_,fun j j' v v' fo fo' hL => ?_⟩ (by simp [Array.count_replicate])
  · -- each operation
    have him:i < m:=by have:=(List.getElem?_eq_some_iff.1 hio).1;simp at this;omega
    have hoi:ops[i]? = some o:=by rw [List.getElem?_take_of_lt him] at hio;simpa using hio
    rcases Nat.lt_trichotomy i q with hiq | hiq | hiq
    · obtain ⟨v,u,hr0,hfit,hus,hB⟩:=hat1 i o (by rw [List.getElem?_take_of_lt hiq];simpa using hoi)
      obtain ⟨t1,t2⟩:=htk1 i (by omega)
      refine ⟨v,u,(hres1 i hiq).trans hr0,by rw [t1,t2];exact hfit,hus,fun b hb hb2 => ?_⟩
      rw [t1,t2]
      cases b with
      | false =>
        simp only [Bool.false_or,decide_eq_false (Nat.ne_of_lt hiq),Bool.false_eq_true,if_false]
        exact hB
      | true =>
        have hin:i ∈ ls:=by
          rcases hl1 i hiq with h | h
          · rw [(hb rfl).2] at h;cases h
          · exact h
        obtain ⟨o',d,ho',hg',hd',hA⟩:=awS_mem hS i hin
        rw [hoi] at ho'
        simp only [Option.some.injEq] at ho'
        subst ho'
        have hu:u = none:=upsOf_nil _ _ hups1 i o v u (by rw [List.getElem?_take_of_lt hiq];simpa using hoi) hr0 (by rw [hd'];rfl)
        subst hu
        obtain ⟨v1,u1,⟨hv1,hu1⟩,hB'⟩:=stepA_full (r:=r) hA
        subst hu1
        have hv:v1 = v:=by
          rw [hv1]
          have hno:∀ (k:Nat) (o':Oper),i < k → (ops.toList.take q)[k]? = some o' → o'.dst ≠ some d:=fun k o' hk ho'' he => by
            have hkq:k < q:=by have:=(List.getElem?_eq_some_iff.1 ho'').1;omega
            rw [List.getElem?_take_of_lt hkq] at ho''
            have:=hdstu i k d him (by omega) (by simp [dstAt,hoi,hd']) (by simp [dstAt,(show ops[k]? = some o' by simpa using ho''),he])
            omega
          exact envOf_at _ _ _ _ i o v none (by rw [List.getElem?_take_of_lt hiq];simpa using hoi) hr0 hd' hno
        subst hv
        simp only [Bool.true_or,if_true]
        intro e' he n0' w1 s1 a1 next Q1 hn1 hst1 hs1' ha1 hk1
        rw [if_pos (by simp [Region.wanted,hg'])]
        refine hB' e' (fun x hx => ?_) n0' w1 s1 a1 next Q1 hn1 hst1 hs1' ha1 hk1
        cases x with
        | tmp t =>
          have ht:t ∈ o.looksAt ops:=List.mem_append_left _ (List.mem_filterMap.2 ⟨.tmp t,by simpa using hx,rfl⟩)
          have e1:=he t ht
          show (envOf (ops.toList.take q) res1 e).get t = e'.get t
          rw [e1]
          have hno:∀ (j:Nat) (o':Oper),(ops.toList.take q)[j]? = some o' → o'.dst = some t → j < i:=fun j o' hj hd => by
            have hjq:j < q:=by have:=(List.getElem?_eq_some_iff.1 hj).1;omega
            rw [List.getElem?_take_of_lt hjq] at hj
            exact hdown i j (hlook i j o t him (by omega) hoi ht (by simp [dstAt,(show ops[j]? = some o' by simpa using hj),hd]))
          by_cases hex:∃ j,j < i ∧ dstAt ops j = some t
          · obtain ⟨j,hj,hd⟩:=hex
            obtain ⟨vj,uj,hrj⟩:∃ vj uj,res1[j]? = some (vj,uj):=⟨(res1[j]'(by omega)).1,(res1[j]'(by omega)).2,List.getElem?_eq_getElem _⟩
            have hoj:ops[j]? = some (ops[j]'(by omega)):=Array.getElem?_eq_getElem _
            have hdj:(ops[j]'(by omega)).dst = some t:=by simpa [dstAt,hoj] using hd
            have hnu:∀ (k:Nat) (o':Oper),j < k → (ops.toList.take q)[k]? = some o' → o'.dst ≠ some t:=fun k o' hk ho'' he => by
              have hkq:k < q:=by have:=(List.getElem?_eq_some_iff.1 ho'').1;omega
              rw [List.getElem?_take_of_lt hkq] at ho''
              have:=hdstu j k t (by omega) (by omega) hd (by simp [dstAt,(show ops[k]? = some o' by simpa using ho''),he])
              omega
            rw [envOf_at _ _ _ _ j _ vj uj (by rw [List.getElem?_take_of_lt (by omega)];simpa using hoj) hrj hdj hnu,
              envOf_at _ _ _ _ j _ vj uj (by rw [List.getElem?_take_of_lt hj,List.getElem?_take_of_lt (by omega)];simpa using hoj) (by rw [List.getElem?_take_of_lt hj];exact hrj) hdj fun k o' hk ho' => by
                have hki:k < i:=by have:=(List.getElem?_eq_some_iff.1 ho').1;simp at this;omega
                rw [List.getElem?_take_of_lt hki] at ho'
                exact hnu k o' hk ho']
          · rw [envOf_other _ _ _ _ (fun k o' ho' hd => by
              have hki:=hno k o' ho' hd
              have hkq:k < q:=by have:=(List.getElem?_eq_some_iff.1 ho').1;omega
              rw [List.getElem?_take_of_lt hkq] at ho'
              exact hex ⟨k,hki,by simp [dstAt,(show ops[k]? = some o' by simpa using ho'),hd]⟩),
              envOf_other _ _ _ _ (fun k o' ho' hd => by
              have hki:k < i:=by have:=(List.getElem?_eq_some_iff.1 ho').1;simp at this;omega
              rw [List.getElem?_take_of_lt hki,List.getElem?_take_of_lt (by omega)] at ho'
              exact hex ⟨k,hki,by simp [dstAt,(show ops[k]? = some o' by simpa using ho'),hd]⟩)]
        | _ => rfl
    · subst hiq
      have ho:o = oq:=by rw [hoq] at hoi;cases hoi;rfl
      subst ho
      obtain ⟨t1,t2⟩:=htk1 i (Nat.le_refl _)
      replace t1:(ops.toList.take m).take i = ops.toList.take i:=t1.trans (by rw [List.take_take,Nat.min_self])
      have t3:res1.take i = res1:=List.take_of_length_le (by omega)
      rw [t3] at t2
      rw [t1,t2]
      refine ⟨vq,none,hresq,hfq,by simp,fun b hb hb2 => ?_⟩
      cases b with
      | true => exact absurd rfl (hb rfl).1
      | false =>
        simp only [Bool.false_or,decide_true,if_true,Bool.false_eq_true,if_false]
        intro e' he n0' w1 s1 a1 next Q1 hn1 hst1 hs1' ha1 hk1
        rw [if_pos (by simp [Region.wanted,hg])]
        have hstep:step1 P gl (e'.ev gl) st o.op (fun v s2 => v = vq ∧ s2 = st'):=step1_congr (fun x hx => by
          cases x with
          | tmp t =>
            have ht:t ∈ o.looksAt ops:=List.mem_append_left _ (List.mem_filterMap.2 ⟨.tmp t,by simpa using hx,rfl⟩)
            exact (he t ht).symm
          | _ => rfl) hst'
        refine step1_sound hstep n0' w1 s1 a1 next Q1 hn1 hst1 hs1' ha1 fun v x w2 s2 j1 j2 j3 ⟨j4,j5⟩ => ?_
        subst j4
        exact hk1 x w2 s2 j1 j2 j5 j3 (by simp)
    · obtain ⟨k,rfl⟩:∃ k,i = q + 1 + k:=⟨i - (q + 1),by omega⟩
      obtain ⟨v,u,hr0,hfit,hus,hB⟩:=hat2 k o (by rw [List.getElem?_drop,List.getElem?_take_of_lt him];simpa using hoi)
      have t1:(ops.toList.take m).take (q + 1 + k) = ops.toList.take q ++ (oq :: ((ops.toList.take m).drop (q + 1)).take k):=by
        conv => lhs;rw [hl]
        rw [List.take_append,hlq,show q + 1 + k - q = k + 1 by omega,List.take_succ_cons,List.take_of_length_le (by omega)]
      have t2:(res1 ++ ((vq,none) :: res2)).take (q + 1 + k) = res1 ++ ((vq,none) :: res2.take k):=by
        rw [List.take_append,show q + 1 + k - res1.length = k + 1 by omega,List.take_succ_cons,List.take_of_length_le (by omega)]
      have t3:=(envOf_app (ops.toList.take q) (oq :: ((ops.toList.take m).drop (q + 1)).take k) res1 ((vq,none) :: res2.take k) e (by omega)).1
      rw [t1,t2,t3]
      refine ⟨v,u,(hres2 k).trans hr0,hfit,hus,fun b hb hb2 => ?_⟩
      cases b with
      | false =>
        rcases hl2 _ him with h | h
        · omega
        · exact absurd h (hb2 rfl)
      | true =>
        simp only [Bool.true_or,if_true]
        exact hB
  · -- the end
    have hE:=hE0.trans hs.len hs.len k2
    rw [hend.1,hend.2,hups1,List.nil_append] at k3 k4
    simp only [if_true,upsOf,upOf,envOf,List.nil_append] at k3 k4
    have hlen:(ops.toList.drop m).length = ops.size - m:=by simp
    rw [← hlen]
    refine awL_sound (r:=r) (ops.toList.drop m) m _ _ rfl hrest n0 w' s' a' _ (Nat.le_trans hn hE.size) k4 k1 k3 fun e'' s'' a'' w'' j1 j2 j3 j4 => ⟨e'',s'',j1,hE.trans hs.len k1.len j2,j3,j4⟩
  all_goals (exfalso;simp only [Array.getD_eq_getD_getElem?,Array.getElem?_replicate] at *)
  · split at hi <;> simp at hi
  · split at hi <;> simp at hi
  · split at hL <;> simp at hL
  · split at hL <;> simp at hL
end
end Go.Duo
