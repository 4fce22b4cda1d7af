/-
  A part of the proof.
-/
import Derived.Test.YtdlcnihacaboiaaGreatDoorGM
import Derived.Test.YtdlcnihacaboiaaGreatDoorGN
set_option linter.all false
namespace Go.Duo
open Go
end Go.Duo

namespace Go.Duo
open Go
def lonK (l:List Pr) (k:Nat):List Nat:=(List.range k).filter fun i => decide ((forW l i).length = 0)
def lonL (l:List Pr):List Nat:=lonK l l.length
section
variable {l:List Pr} {k:Nat}
theorem lonK_0:lonK l 0 = []:=rfl
theorem lonK_yes (h:(forW l k).length = 0):lonK l (k + 1) = lonK l k ++ [k]:=by
  unfold lonK;rw [List.range_succ,List.filter_append,List.filter_cons,if_pos (by rw [decide_eq_true_eq];exact h)];rfl
theorem lonK_no (h:¬ (forW l k).length = 0):lonK l (k + 1) = lonK l k:=by
  unfold lonK;rw [List.range_succ,List.filter_append,List.filter_cons,if_neg (by rw [decide_eq_true_eq];exact h),List.filter_nil,List.append_nil]
theorem lonK_len:(lonK l k).length ≤ k:=by
  have:=List.length_filter_le (fun i => decide ((forW l i).length = 0)) (List.range k);rw [List.length_range] at this;exact this
end
def linkW (l:List Pr) (out:List Nat):Prop:=∀ k (h:k + 1 < out.length),nextW l (out[k]'(by omega)) = some out[k + 1]
theorem chainW_link {l:List Pr}:∀ (n:Nat) (out:List Nat) (i:Nat),out.Nodup → linkW l out → (∀ h:out ≠ [],nextW l (out.getLast h) = some i) → (chainW l n out i).1.Nodup ∧ linkW l (chainW l n out i).1:=by
  intro n;induction n with
  | zero => intro out i h1 h2 _;exact ⟨h1,h2⟩
  | succ n ih =>
    intro out i h1 h2 h3
    rw [chainW]
    by_cases hi:i ∈ out
    · rw [if_pos hi];exact ⟨h1,h2⟩
    rw [if_neg hi]
    have hnd:(out ++ [i]).Nodup:=by
      rw [List.nodup_append]
      exact ⟨h1,by simp,fun a ha b hb => by simp at hb;subst hb;rintro rfl;exact hi ha⟩
    have hlk:linkW l (out ++ [i]):=fun k hk => by
      simp only [List.length_append,List.length_cons,List.length_nil] at hk
      rw [List.getElem_append_left (show k < out.length by omega)]
      rcases Nat.lt_or_ge (k + 1) out.length with hk1 | hk1
      · rw [List.getElem_append_left hk1];exact h2 k hk1
      · have hk2:k + 1 = out.length:=by omega
        have hne:out ≠ []:=fun e => by rw [e] at hk2;simp at hk2
        have h4:=h3 hne
        rw [List.getLast_eq_getElem] at h4
        have e1:(out ++ [i])[k + 1]'(by simp only [List.length_append,List.length_cons,List.length_nil];omega) = i:=by
          rw [List.getElem_append_right (by omega)];simp
        rw [e1,← h4]
        congr 2;omega
    cases hj:nextW l i with
    | none => exact ⟨hnd,hlk⟩
    | some j => exact ih _ _ hnd hlk fun _ => by simp only [List.getLast_concat];exact hj
theorem chW_link (l:List Pr) (i:Nat):(chW l i).1.Nodup ∧ linkW l (chW l i).1:=chainW_link _ _ _ (by simp) (fun k h => by simp at h) fun h => absurd rfl h
theorem idxN_first {c:Nat}:∀ (l:List Nat),c ∈ l → ∃ i,∃ h:i < l.length,c ∉ l.take i ∧ l[i] = c:=by
  intro l;induction l with
  | nil => intro h;cases h
  | cons a l ih =>
    intro h
    by_cases ha:a = c
    · exact ⟨0,by simp,by simp,by simpa using ha⟩
    · rcases List.mem_cons.1 h with h | h
      · exact absurd h.symm ha
      · obtain ⟨i,hi,h1,h2⟩:=ih h
        refine ⟨i + 1,by rw [List.length_cons];omega, ?_,by simpa using h2⟩
        rw [List.take_succ_cons,List.mem_cons]
        rintro (h3 | h3)
        · exact ha h3.symm
        · exact h1 h3
theorem idxN_nodup {l:List Nat} (h:l.Nodup) {i:Nat} (hi:i < l.length):idxN l l[i] = i:=idxN_at (fun hm => by
  obtain ⟨j,hj,he⟩:=List.mem_iff_getElem.1 hm
  rw [List.length_take] at hj
  rw [List.getElem_take] at he
  have:=(List.getElem_inj (h₀:=(by omega:j < l.length)) (h₁:=hi) h).1 he
  omega) hi rfl
structure cycG (l:List Pr) (c:List Nat):Prop where
  nd:c.Nodup
  lt:∀ x ∈ c,x < l.length
  pos:0 < c.length
  nxt:∀ i (h:i < c.length),waitB l c[i] (c[(i + 1) % c.length]'(Nat.mod_lt _ (by omega))) = true
theorem nextW_wait {l:List Pr} {i j:Nat} (h:nextW l i = some j):waitB l i j = true:=(forW_mem.1 (List.mem_of_mem_head? h)).2
theorem cyc_good {l:List Pr} {c:List Nat} (h:cycW l = some c):cycG l c:=by
  unfold cycW at h
  obtain ⟨i,hi,he⟩:=List.exists_of_findSome?_eq_some h
  rw [List.mem_range] at hi
  unfold cycAt at he
  split at he
  · rename_i j hj
    obtain ⟨hne,h1,h2,h3,h4⟩:=chW_end hi
    obtain ⟨hnd,hlk⟩:=chW_link l i
    obtain ⟨m,hm,hm1,hm2⟩:=idxN_first _ (h2 j hj)
    have hx:=idxN_at hm1 hm hm2
    rw [hx] at he
    have hc:c = (chW l i).1.drop m:=by cases he;rfl
    rw [hj] at h1
    generalize (chW l i).1 = out at *
    subst hc
    have hlen:(out.drop m).length = out.length - m:=List.length_drop
    refine ⟨hnd.sublist (List.drop_sublist _ _),fun x hx => h3 x (List.mem_of_mem_drop hx),by omega,fun n hn => ?_⟩
    refine nextW_wait ?_
    rw [List.getElem_drop]
    rcases Nat.lt_or_ge (n + 1) (out.length - m) with hn1 | hn1
    · have e:(n + 1) % (out.drop m).length = n + 1:=Nat.mod_eq_of_lt (by omega)
      have e2:(out.drop m)[(n + 1) % (out.drop m).length]'(Nat.mod_lt _ (by omega)) = out[m + n + 1]'(by omega):=by
        rw [List.getElem_drop];congr 1;omega
      rw [e2]
      exact hlk (m + n) (by omega)
    · have e:(n + 1) % (out.drop m).length = 0:=by rw [show n + 1 = (out.drop m).length by omega,Nat.mod_self]
      have e2:(out.drop m)[(n + 1) % (out.drop m).length]'(Nat.mod_lt _ (by omega)) = j:=by
        rw [List.getElem_drop,← hm2];congr 1;omega
      rw [e2,← h1,List.getLast_eq_getElem]
      congr 2;omega
  · cases he
theorem cyc_lonely {l:List Pr} (h:cycW l = none) (h0:0 < l.length):0 < (lonL l).length:=by
  unfold cycW at h
  rw [List.findSome?_eq_none_iff] at h
  have h1:=h 0 (List.mem_range.2 h0)
  unfold cycAt at h1
  split at h1
  · cases h1
  · rename_i hn
    obtain ⟨hne,h2,_,h3,_⟩:=chW_end h0
    rw [hn] at h2
    have hm:(chW l 0).1.getLast hne ∈ lonL l:=by
      unfold lonL lonK
      rw [List.mem_filter,List.mem_range,decide_eq_true_eq]
      refine ⟨h3 _ (List.getLast_mem hne), ?_⟩
      unfold nextW at h2
      rw [List.head?_eq_none_iff] at h2
      rw [h2];rfl
    exact List.length_pos_of_mem hm
end Go.Duo

namespace Go.Duo
open Go
def keepL (l:List Pr) (r:Rx) (k:Nat):List Pr:=(List.range k).filterMap fun (j:Nat) => if (j:Int) = r.o ∨ (j:Int) = r.i then none else l[j]?
section
variable {l:List Pr} {r:Rx} {k:Nat}
theorem keepL_0:keepL l r 0 = []:=rfl
theorem keepL_yes (hk:k < l.length) (h1:¬ (k:Int) = r.o) (h2:¬ (k:Int) = r.i):keepL l r (k + 1) = keepL l r k ++ [l[k]]:=by
  unfold keepL
  rw [List.range_succ,List.filterMap_append]
  congr 1
  simp [h1,h2,List.getElem?_eq_getElem hk]
theorem keepL_no (h:(k:Int) = r.o ∨ (k:Int) = r.i):keepL l r (k + 1) = keepL l r k:=by
  unfold keepL
  rw [List.range_succ,List.filterMap_append]
  simp [h]
theorem keepL_len:(keepL l r k).length ≤ k:=by
  have:=List.length_filterMap_le (fun (j:Nat) => if (j:Int) = r.o ∨ (j:Int) = r.i then none else l[j]?) (List.range k)
  rw [List.length_range] at this;exact this
theorem keepL_mem {x:Pr} (h:x ∈ keepL l r k):x ∈ l:=by
  unfold keepL at h
  obtain ⟨j,_,hj⟩:=List.mem_filterMap.1 h
  split at hj
  · cases hj
  · exact List.mem_of_getElem? hj
end
def lastK (q:Pr) (e:Str):Nat → Pr
  | 0 => Pr.zero
  | k + 1 => if q.labels.getD k [] = e then q.kids.getD k Pr.zero else lastK q e k
theorem lastK_yes {q:Pr} {e:Str} {k:Nat} (hk:k < q.labels.length) (hk2:k < q.kids.length) (h:q.labels[k] = e):lastK q e (k + 1) = q.kids[k]:=by
  rw [lastK,getD_ltI _ _ _ hk,if_pos h,getD_ltI _ _ _ hk2]
theorem lastK_no {q:Pr} {e:Str} {k:Nat} (hk:k < q.labels.length) (h:¬ q.labels[k] = e):lastK q e (k + 1) = lastK q e k:=by
  rw [lastK,getD_ltI _ _ _ hk,if_neg h]
theorem lastK_mem {q:Pr} {e:Str}:∀ (k:Nat),k ≤ q.kids.length → (∃ j,j < k ∧ q.labels.getD j [] = e) → lastK q e k ∈ q.kids:=by
  intro k;induction k with
  | zero => rintro _ ⟨j,hj,_⟩;omega
  | succ k ih =>
    rintro hk ⟨j,hj,he⟩
    rw [lastK]
    by_cases h:q.labels.getD k [] = e
    · rw [if_pos h,getD_ltI _ _ _ (by omega)];exact List.getElem_mem _
    · rw [if_neg h]
      refine ih (by omega) ⟨j, ?_,he⟩
      rcases Nat.lt_or_eq_of_le (Nat.le_of_lt_succ hj) with h1 | h1
      · exact h1
      · rw [h1] at he;exact absurd he h
structure Ev where
  ch:Int
  plus:Bool
  label:Str
  val:Vl
def restP (o i:Pr):Pr:=if o.kind = 2 then putP [i.var] [o.args.headD Vl.zero] (i.kids.headD Pr.zero) [] else lastK i (o.labels.headD []) i.labels.length
def evP (o:Pr) (r:Rx):Ev:=⟨r.c,r.p,if o.kind = 2 then [] else o.labels.headD [],if o.kind = 2 then o.args.headD Vl.zero else Vl.zero⟩
def doC1 (p:Pg) (c:Cf) (r:Rx):Cf:=addF p startN ⟨keepL c.th r c.th.length,c.ch⟩ ((c.th.getD r.o.toNat .z).kids.headD Pr.zero)
def doC (p:Pg) (c:Cf) (r:Rx):Cf:=addF p startN (doC1 p c r) (restP (c.th.getD r.o.toNat .z) (c.th.getD r.i.toNat .z))
def evC (c:Cf) (r:Rx):Ev:=evP (c.th.getD r.o.toNat .z) r
def stepC (p:Pg) (s:Cf × List Ev) (n:Int):Cf × List Ev :=
  if (listL s.1.th).length = 0 then s else (doC p s.1 (pickR (listL s.1.th) n),s.2 ++ [evC s.1 (pickR (listL s.1.th) n)])
def runE (p:Pg) (s:List Int):Cf × List Ev:=s.foldl (stepC p) (startC p,[])
theorem runE_at (p:Pg) {s:List Int} {i:Nat} (h:i < s.length):runE p (s.take (i + 1)) = stepC p (runE p (s.take i)) s[i]:=foldl_at _ _ h
theorem stepC_no {p:Pg} {s:Cf × List Ev} (h:(listL s.1.th).length = 0) (n:Int):stepC p s n = s:=if_pos h
theorem stepC_yes {p:Pg} {s:Cf × List Ev} (h:¬ (listL s.1.th).length = 0) (n:Int):stepC p s n = (doC p s.1 (pickR (listL s.1.th) n),s.2 ++ [evC s.1 (pickR (listL s.1.th) n)]):=if_neg h
theorem runE_stuck {p:Pg} {s:List Int} {i:Nat} (h:(listL (runE p (s.take i)).1.th).length = 0):runE p s = runE p (s.take i):=by
  have key:∀ (m:List Int) (c:Cf × List Ev),(listL c.1.th).length = 0 → m.foldl (stepC p) c = c:=by
    intro m;induction m with
    | nil => intro c _;rfl
    | cons n m ih => intro c hc;rw [List.foldl_cons,stepC_no hc,ih c hc]
  conv => lhs;rw [runE,← List.take_append_drop i s,List.foldl_append]
  exact key _ _ h
theorem runE_len (p:Pg) (s:List Int):(runE p s).2.length ≤ s.length:=by
  have key:∀ (m:List Int) (c:Cf × List Ev),(m.foldl (stepC p) c).2.length ≤ c.2.length + m.length:=by
    intro m;induction m with
    | nil => intro c;simp
    | cons n m ih =>
      intro c
      rw [List.foldl_cons]
      have h1:=ih (stepC p c n)
      have h2:(stepC p c n).2.length ≤ c.2.length + 1:=by
        unfold stepC;split
        · omega
        · simp
      rw [List.length_cons];omega
  have:=key s (startC p,[])
  rw [List.length_nil,Nat.zero_add] at this
  exact this
structure cfOK (p:Pg) (c:Cf):Prop where
  thr:∀ x ∈ c.th,thrG p x
  tl:c.th.length ≤ 30000
  cl:c.ch.length ≤ 30000
def fewC (c:Cf):Prop:=c.th.length ≤ 40 ∧ c.ch.length ≤ 40
theorem hdP_at {l:List Pr} {z:Pr} (h0:0 < l.length):l.headD z = l[0]:=hdD_at h0
theorem hdV_at {l:List Vl} {z:Vl} (h0:0 < l.length):l.headD z = l[0]:=by
  cases l with
  | nil => simp at h0
  | cons a l => rfl
theorem hdS_at {l:List Str} {z:Str} (h0:0 < l.length):l.headD z = l[0]:=by
  cases l with
  | nil => simp at h0
  | cons a l => rfl
structure rxG (l:List Pr) (r:Rx) (a b:Nat):Prop where
  eo:r.o = a
  ei:r.i = b
  ol:a < l.length
  il:b < l.length
  fit:fitL l[a] l[b] = true
theorem rx_good {l:List Pr} {r:Rx} (h:r ∈ listL l):∃ a b,rxG l r a b:=by
  obtain ⟨i,k,hi,hk,he⟩:=mem_pairsL.1 h
  unfold rxAt at he
  split at he
  · rename_i hh
    cases he
    have:=hh.2.2
    rw [getD_ltI _ _ _ hi,getD_ltI _ _ _ hk] at this
    exact ⟨i,k,rfl,rfl,hi,hk,this⟩
  · cases he
theorem kidP_lt {q k:Pr} (h:k ∈ q.kids):k.sz < q.sz:=by
  have h1:=Pr.szs_mem h;have h2:=Pr.sz_eq q;omega
theorem kid_good {p:Pg} {x k:Pr} (h:thrG p x) (hk:k ∈ x.kids):goodP p true k true (innerL x):=by
  have:=((goodP_iff x).1 h.good).2 k hk
  exact goodP_lift k _ _ _ this
theorem thr_ks {p:Pg} {x:Pr} (h:thrG p x):ksB x:=((goodP_iff x).1 h.good).1.ks
theorem thr_args {p:Pg} {x:Pr} (h:thrG p x):∀ v ∈ x.args,okV v ∧ short (valueS v):=fun v hv => by
  obtain ⟨h1,h2⟩:=((goodP_iff x).1 h.good).1.args v hv
  rcases h2 with ⟨_,h2⟩ | h2
  · simp at h2
  · exact ⟨h1,h2⟩
theorem fit_cases {a b:Pr} (h:fitL a b = true):(a.kind = 2 ∧ b.kind = 3) ∨ (a.kind = 4 ∧ b.kind = 5 ∧ a.labels.headD [] ∈ b.labels):=by
  unfold fitL at h
  simp only [Bool.or_eq_true,Bool.and_eq_true,decide_eq_true_eq] at h
  rcases h with h | h
  · exact .inl h
  · exact .inr ⟨h.1.1,h.1.2,h.2⟩
structure doG (p:Pg) (c:Cf) (r:Rx) (a b:Nat):Prop where
  rx:rxG c.th r a b
  kd:0 < (c.th[a]'(rx.ol)).kids.length
  a2:(c.th[a]'(rx.ol)).kind = 2 → 0 < (c.th[a]'(rx.ol)).args.length ∧ 0 < (c.th[b]'(rx.il)).kids.length
  a4:¬ (c.th[a]'(rx.ol)).kind = 2 → 0 < (c.th[a]'(rx.ol)).labels.length ∧ (c.th[b]'(rx.il)).labels.length ≤ (c.th[b]'(rx.il)).kids.length
  f1:okF p startN ⟨keepL c.th r c.th.length,c.ch⟩ ((c.th[a]'(rx.ol)).kids[0]'kd)
  f2:okF p startN (doC1 p c r) (restP (c.th[a]'(rx.ol)) (c.th[b]'(rx.il)))
  ok:cfOK p (doC p c r)
theorem getD_o {l:List Pr} {o:Int} {a:Nat} (e:o = a) (h:a < l.length):l.getD o.toNat .z = l[a]:=by
  rw [e,Int.toNat_natCast,getD_ltI _ _ _ h]
theorem do_good {p:Pg} {c:Cf} {r:Rx} (hd:defOK p) (hc:cfOK p c) (hf:fewC c) (hr:r ∈ listL c.th):∃ a b,doG p c r a b:=by
  obtain ⟨a,b,rx⟩:=rx_good hr
  refine ⟨a,b, ?_⟩
  have ho:=hc.thr _ (List.getElem_mem rx.ol)
  have hi:=hc.thr _ (List.getElem_mem rx.il)
  have e1:c.th.getD r.o.toNat .z = c.th[a]'rx.ol:=getD_o rx.eo rx.ol
  have e2:c.th.getD r.i.toNat .z = c.th[b]'rx.il:=getD_o rx.ei rx.il
  have hfit:=fit_cases rx.fit
  generalize hO:c.th[a]'rx.ol = o at *
  generalize hI:c.th[b]'rx.il = i at *
  have hok:=thr_ks ho
  have hik:=thr_ks hi
  have kd:0 < o.kids.length:=by
    rcases hfit with h | h
    · exact (hok.1 h.1).2
    · exact hok.2.2.1 h.1
  have hin:innerL o = []:=by
    unfold innerL
    rw [if_neg (by omega),if_neg (by omega)]
  have hk0:goodP p true o.kids[0] true []:=by have:=kid_good ho (List.getElem_mem kd);rwa [hin] at this
  have hz0:=kidP_lt (List.getElem_mem kd)
  have hoz:=ho.sz
  have hiz:=hi.sz
  have hd0:=Pr.dp_le o.kids[0]
  have hkl:=keepL_len (l:=c.th) (r:=r) (k:=c.th.length)
  have hw:∀ z,wgt true z = 100 * z:=fun z => rfl
  obtain ⟨hf1,hf2⟩:=hf
  obtain ⟨ok1,a1,b1,he1,ha1,hb1,hx1⟩:=add_good hd startN true o.kids[0] ⟨keepL c.th r c.th.length,c.ch⟩ hk0 (by simp only [reduceIte,startN];omega) (by omega) (by rw [hw];simp only [];omega) (by rw [hw];simp only [];omega)
  rw [hw] at ha1 hb1
  have ec1:doC1 p c r = ⟨keepL c.th r c.th.length ++ a1,c.ch ++ b1⟩:=by
    unfold doC1;rw [e1,hdP_at kd,he1]
  have hrest:goodP p true (restP o i) true [] ∧ (restP o i).sz ≤ 100:=by
    rcases hfit with ⟨h2,h3⟩ | ⟨h4,h5,hm⟩
    · have hal:=(hok.1 h2).1
      have hkl2:=hik.2.1 h3
      have hg:=kid_good hi (List.getElem_mem hkl2)
      have hin2:innerL i = [i.var]:=by unfold innerL;rw [if_pos h3]
      rw [hin2] at hg
      have hv:=thr_args ho _ (List.getElem_mem hal)
      have:=put_good (ns:=[i.var]) (vs:=[o.args[0]]) (p:=p) (g:=true) rfl (fun x hx => by
        rw [List.mem_singleton] at hx;rw [hx];exact hv) i.kids[0] true [] (by rw [List.append_nil];exact hg)
      have hz:=kidP_lt (List.getElem_mem hkl2)
      unfold restP
      rw [if_pos h2,hdV_at hal,hdP_at hkl2]
      exact ⟨this,by rw [putP_sz];omega⟩
    · have hll:=hik.2.2.2 h5
      have hmk:lastK i (o.labels.headD []) i.labels.length ∈ i.kids:=lastK_mem _ hll (by
        obtain ⟨j,hj,he⟩:=List.mem_iff_getElem.1 hm
        exact ⟨j,hj,by rw [getD_ltI _ _ _ hj,he]⟩)
      have hg:=kid_good hi hmk
      have hin2:innerL i = []:=by unfold innerL;rw [if_neg (by omega),if_neg (by omega)]
      rw [hin2] at hg
      have hz:=kidP_lt hmk
      unfold restP
      rw [if_neg (by omega)]
      exact ⟨hg,by omega⟩
  have hdr:=Pr.dp_le (restP o i)
  obtain ⟨ok2,a2,b2,he2,ha2,hb2,hx2⟩:=add_good hd startN true (restP o i) (doC1 p c r) hrest.1 (by simp only [reduceIte,startN];omega) (by omega) (by rw [hw,ec1];simp only [List.length_append];omega) (by rw [hw,ec1];simp only [List.length_append];omega)
  rw [hw] at ha2 hb2
  have ec2:doC p c r = ⟨keepL c.th r c.th.length ++ a1 ++ a2,c.ch ++ b1 ++ b2⟩:=by
    unfold doC;rw [e1,e2,he2,ec1]
  have hcf:cfOK p (doC p c r):=by
    rw [ec2]
    refine ⟨fun x hx => ?_, ?_, ?_⟩
    · simp only [List.mem_append] at hx
      rcases hx with (hx | hx) | hx
      · exact hc.thr x (keepL_mem hx)
      · exact hx1 x hx
      · exact hx2 x hx
    · simp only [List.length_append];omega
    · simp only [List.length_append];omega
  subst hO hI
  refine ⟨rx,kd,fun h2 => ?_,fun h2 => ?_,ok1,ok2,hcf⟩
  · rcases hfit with h | h
    · exact ⟨(hok.1 h2).1,hik.2.1 h.2⟩
    · omega
  · rcases hfit with h | h
    · exact absurd h.1 h2
    · exact ⟨List.length_pos_iff.2 (ho.hasL h.1),hik.2.2.2 h.2.1⟩
theorem pick_mem {l:List Rx} (h:¬ l.length = 0) (n:Int):pickR l n ∈ l:=by
  unfold pickR
  have h1:=Int.emod_nonneg n (show (l.length:Int) ≠ 0 by omega)
  have h2:=Int.emod_lt_of_pos n (show (0:Int) < l.length by omega)
  rw [getD_ltI _ _ _ (by omega)]
  exact List.getElem_mem _
structure pgG (p:Pg):Prop where
  dl:p.defs.length ≤ 20
  hd:defOK p
  hg:goodP p true p.main true []
  hz:p.main.sz ≤ 100
theorem right_pgG {p:Pg} {n:Int} (hn:0 ≤ n ∧ n ≤ 100) (hp:okPg p) (h:rightPg p n = true):pgG p:=by
  obtain ⟨h1,h2,h3,h4⟩:=prog_good hn hp h
  exact ⟨h1,h2,h3,h4⟩
theorem start_cf {p:Pg} (h:pgG p):okF p startN ⟨[],[]⟩ p.main ∧ cfOK p (startC p):=by
  obtain ⟨h1,h2,h3,h4⟩:=start_good h.hd h.hg h.hz
  exact ⟨h1,h4,by omega,by omega⟩
theorem step_cf {p:Pg} (h:pgG p) {s:Cf × List Ev} (hc:cfOK p s.1) (hf:fewC s.1) (n:Int):cfOK p (stepC p s n).1:=by
  by_cases h0:(listL s.1.th).length = 0
  · rw [stepC_no h0];exact hc
  · rw [stepC_yes h0]
    obtain ⟨_,_,hg⟩:=do_good h.hd hc hf (pick_mem h0 n)
    exact hg.ok
theorem run_cf {p:Pg} (h:pgG p) (s:List Int):∀ (i:Nat),i ≤ s.length → (∀ m,m < i → fewC (runE p (s.take m)).1) → cfOK p (runE p (s.take i)).1:=by
  intro i;induction i with
  | zero => intro _ _;exact (start_cf h).2
  | succ i ih =>
    intro hi hm
    rw [runE_at p (by omega)]
    exact step_cf h (ih (by omega) fun m hm2 => hm m (by omega)) (hm i (by omega)) _
def fewK (p:Pg) (s:List Int) (n:Nat):Prop:=∀ m,m < n → fewC (runE p (s.take m)).1
instance (c:Cf):Decidable (fewC c):=inferInstanceAs (Decidable (_ ∧ _))
def fewS (p:Pg) (s:List Int):Bool:=rightPg p 60 && (decide (s.length ≤ 20) && (List.range (s.length + 1)).all fun m => decide (fewC (runE p (s.take m)).1))
theorem fewK_step {p:Pg} {s:List Int} {n:Nat} (h:fewK p s n) (h2:fewC (runE p (s.take n)).1):fewK p s (n + 1):=fun m hm => by
  rcases Nat.lt_or_eq_of_le (Nat.le_of_lt_succ hm) with h1 | h1
  · exact h m h1
  · rw [h1];exact h2
theorem fewK_take {p:Pg} {s:List Int} {n:Nat} (h:fewK p s n):fewK p (s.take n) (s.take n).length:=fun m hm => by
  rw [List.length_take] at hm
  rw [List.take_take,Nat.min_eq_left (by omega)]
  exact h m (by omega)
theorem pick_neg (n:Nat) (k:Int):(pickI n k < 0) = (n = 0):=by
  unfold pickI
  by_cases h0:n = 0
  · rw [if_pos h0];simp [h0]
  · rw [if_neg h0]
    have h1:=Int.emod_nonneg k (show (n:Int) ≠ 0 by omega)
    refine propext ⟨fun h => by omega,fun h => absurd h h0⟩
theorem pick_at {l:List Rx} (h:0 < l.length) (n:Int):∃ m,∃ hm:m < l.length,pickI l.length n = (m:Int) ∧ pickR l n = l[m]:=by
  have h1:=Int.emod_nonneg n (show (l.length:Int) ≠ 0 by omega)
  have h2:=Int.emod_lt_of_pos n (show (0:Int) < l.length by omega)
  refine ⟨(n % (l.length:Int)).toNat,by omega, ?_, ?_⟩
  · unfold pickI;rw [if_neg (by omega)];omega
  · unfold pickR;rw [getD_ltI _ _ _ (by omega)]
theorem fewS_iff {p:Pg} {s:List Int}:fewS p s = true ↔ rightPg p 60 = true ∧ s.length ≤ 20 ∧ fewK p s (s.length + 1):=by
  unfold fewS fewK
  simp only [Bool.and_eq_true,decide_eq_true_eq,List.all_eq_true,List.mem_range]
theorem fewS_1 {p:Pg} {s:List Int} (h:rightPg p 60 = false):fewS p s = false:=by unfold fewS;rw [h];rfl
theorem fewS_2 {p:Pg} {s:List Int} (h:¬ s.length ≤ 20):fewS p s = false:=by
  cases hf:fewS p s with
  | false => rfl
  | true => exact absurd (fewS_iff.1 hf).2.1 h
theorem fewS_3 {p:Pg} {s:List Int} {n:Nat} (hn:n ≤ s.length) (h:¬ fewC (runE p (s.take n)).1):fewS p s = false:=by
  cases hf:fewS p s with
  | false => rfl
  | true => exact absurd ((fewS_iff.1 hf).2.2 n (by omega)) h
theorem few_cf {p:Pg} {s:List Int} (hp:okPg p) (h:fewS p s = true):cfOK p (runE p s).1 ∧ fewC (runE p s).1:=by
  obtain ⟨h1,h2,h3⟩:=fewS_iff.1 h
  have:=run_cf (right_pgG (by omega) hp h1) s s.length (Nat.le_refl _) fun m hm => h3 m (by omega)
  have h4:=h3 s.length (by omega)
  rw [List.take_length] at this h4
  exact ⟨this,h4⟩
end Go.Duo
