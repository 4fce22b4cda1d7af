/-
  A part of the proof.
-/
import Derived.Test.YtdlcnihacaboiaaGreatDoorGC
import Derived.Test.YtdlcnihacaboiaaGreatDoorGG
import Derived.Test.YtdlcnihacaboiaaGreatDoorGI
set_option linter.all false
namespace Go.Duo
open Go
abbrev Tb:=List (Str × Vl)
def tget:Tb → Str → Option Vl
  | [],_ => none
  | (k,v) :: t,s => if s = k then some v else tget t s
def tdel:Tb → Str → Tb
  | [],_ => []
  | (k,v) :: t,s => if s = k then t else (k,v) :: tdel t s
def tput:Tb → Str → Vl → Tb
  | [],s,x => [(s,x)]
  | (k,v) :: t,s,x => if s = k then (k,x) :: t else (k,v) :: tput t s x
def keysT (t:Tb):List V:=t.map fun p => .str p.1
def valsT (t:Tb):List V:=t.map fun p => encV p.2
theorem keysT_cons (k:Str) (v:Vl) (t:Tb):keysT ((k,v) :: t) = .str k :: keysT t:=rfl
theorem valsT_cons (k:Str) (v:Vl) (t:Tb):valsT ((k,v) :: t) = encV v :: valsT t:=rfl
theorem keyEq_str (a b:Str):keyEq (.str a) (.str b) = decide (a = b):=rfl
theorem keysT_all (t:Tb):(keysT t).all (keyD .string) = true:=by simp [keysT,keyD]
theorem getT (t:Tb) (s:Str) (z:V):getK (.str s) (keysT t) (valsT t) z = match tget t s with | some v => encV v | none => z:=by
  induction t with
  | nil => rfl
  | cons p t ih =>
    obtain ⟨k,v⟩:=p
    simp only [keysT_cons,valsT_cons,getK,idxK,keyEq_str,tget,decide_eq_true_eq] at ih ⊢
    by_cases h:s = k
    · simp [h]
    · rw [if_neg h,if_neg h,← ih]
      cases idxK (.str s) (keysT t) <;> simp
theorem hasT (t:Tb) (s:Str):hasK (.str s) (keysT t) = (tget t s).isSome:=by
  induction t with
  | nil => rfl
  | cons p t ih =>
    obtain ⟨k,v⟩:=p
    simp only [keysT_cons,hasK,idxK,keyEq_str,tget,decide_eq_true_eq] at ih ⊢
    by_cases h:s = k
    · simp [h]
    · rw [if_neg h,if_neg h,← ih]
      cases idxK (.str s) (keysT t) <;> simp
theorem delT (t:Tb) (s:Str):delK (.str s) (keysT t) (valsT t) = .map (keysT (tdel t s)) (valsT (tdel t s)):=by
  induction t with
  | nil => rfl
  | cons p t ih =>
    obtain ⟨k,v⟩:=p
    simp only [keysT_cons,valsT_cons,delK,idxK,keyEq_str,tdel,decide_eq_true_eq] at ih ⊢
    by_cases h:s = k
    · simp [h]
    · rw [if_neg h,if_neg h,keysT_cons,valsT_cons]
      cases hi:idxK (.str s) (keysT t) with
      | none => rw [hi] at ih;simp only [Option.map_none,O.map.injEq] at ih ⊢;rw [← ih.1,← ih.2];exact ⟨rfl,rfl⟩
      | some i => rw [hi] at ih;simp only [Option.map_some,O.map.injEq,List.eraseIdx_cons_succ] at ih ⊢;rw [ih.1,ih.2];exact ⟨rfl,rfl⟩
theorem setT (t:Tb) (s:Str) (x:Vl):setK (.str s) (encV x) (keysT t) (valsT t) = .map (keysT (tput t s x)) (valsT (tput t s x)):=by
  induction t with
  | nil => rfl
  | cons p t ih =>
    obtain ⟨k,v⟩:=p
    simp only [keysT_cons,valsT_cons,setK,idxK,keyEq_str,tput,decide_eq_true_eq] at ih ⊢
    by_cases h:s = k
    · simp [h,keysT_cons,valsT_cons]
    · rw [if_neg h,if_neg h,keysT_cons,valsT_cons]
      cases hi:idxK (.str s) (keysT t) with
      | none => rw [hi] at ih;simp only [Option.map_none,O.map.injEq,List.cons_append] at ih ⊢;rw [ih.1,ih.2];exact ⟨rfl,rfl⟩
      | some i => rw [hi] at ih;simp only [Option.map_some,O.map.injEq,List.set_cons_succ] at ih ⊢;rw [← ih.1,← ih.2];exact ⟨rfl,rfl⟩
def chanS (t:Tb) (c:Str):Str:=match tget t c with
  | some v => valueS v
  | none => c
def valS (t:Tb) (v:Vl):Vl:=match tget t v.name with
  | some b => if v.kind = 1 then b else v
  | none => v
def innerS (t:Tb) (k:Int) (c v:Str):Tb:=if preK k = true then (if k = 3 then tdel t v else t) else if k = 6 then tdel (tdel t c) v else t
mutual
def subP (t:Tb):Pr → Pr
  | .mk k c v l a ty ks => .mk k (if preK k = true then chanS t c else c) v l (a.map (valS t)) ty (subPs (innerS t k c v) ks)
def subPs (t:Tb):List Pr → List Pr
  | [] => []
  | p :: ps => subP t p :: subPs t ps
end
theorem subPs_eq (t:Tb) (l:List Pr):subPs t l = l.map (subP t):=by induction l with | nil => rfl | cons p l ih => rw [subPs,ih];rfl
theorem map_id' {α:Type} {f:α → α} {l:List α} (h:∀ x ∈ l,f x = x):l.map f = l:=(List.map_congr_left h).trans (List.map_id _)
theorem sub_nil (p:Pr):subP [] p = p:=by
  induction p using Pr.ind with
  | _ k c v l a ty ks ih =>
    rw [subP,subPs_eq]
    have h1:innerS [] k c v = []:=by simp [innerS,tdel]
    have h2:a.map (valS []) = a:=map_id' fun x _ => rfl
    rw [h1,h2,map_id' ih]
    simp [chanS,tget]
inductive okN:Pr → Prop
  | mk (k:Int) (c v:Str) (l:List Str) (a:List Vl) (ty:Ty) (ks:List Pr) (ha:∀ x ∈ a,x.kind = 1 → x.n = 0) (hk:∀ q ∈ ks,okN q):okN (.mk k c v l a ty ks)
theorem sub_self {old:Str} {p:Pr} (h:okN p):subP [(old,⟨1,old,0⟩)] p = p:=by
  induction h with
  | mk k c v l a ty ks ha hk ih =>
    rw [subP,subPs_eq]
    have hin:innerS [(old,⟨1,old,0⟩)] k c v = [(old,⟨1,old,0⟩)] ∨ innerS [(old,⟨1,old,0⟩)] k c v = []:=by
      unfold innerS
      by_cases hp:preK k = true
      · by_cases h3:k = 3
        · by_cases hvo:v = old <;> simp [hp,h3,tdel,hvo]
        · simp [hp,h3]
      · by_cases h6:k = 6
        · by_cases hco:c = old
          · simp [hp,h6,tdel,hco]
          · by_cases hvo:v = old
            · simp [hp,h6,tdel,hco,hvo]
            · simp [hp,h6,tdel,hco,hvo]
        · simp [hp,h6]
    have h2:a.map (valS [(old,⟨1,old,0⟩)]) = a:=map_id' fun x hx => by
      unfold valS
      simp only [tget]
      by_cases hn:x.name = old
      · simp only [hn,if_true]
        by_cases hk1:x.kind = 1
        · rw [if_pos hk1]
          have:=ha x hx hk1
          cases x;simp_all
        · rw [if_neg hk1]
      · rw [if_neg hn]
    have h3:ks.map (subP (innerS [(old,⟨1,old,0⟩)] k c v)) = ks:=by
      rcases hin with e | e
      · rw [e];exact map_id' ih
      · rw [e];exact map_id' fun q _ => sub_nil q
    rw [h2,h3]
    congr 1
    split
    · unfold chanS
      simp only [tget]
      by_cases hn:c = old
      · subst hn;simp [valueS]
      · simp [hn]
    · rfl
mutual
def usesP:Pr → List Str → List Str
  | .mk k c v _ a _ ks,b => ((if preK k = true then [c] else []) ++ (a.filter fun x => decide (x.kind = 1)).map Vl.name).filter (fun s => decide (s ∉ b)) ++ usesPs ks (b ++ (if k = 3 then [v] else if k = 6 then [c,v] else []))
def usesPs:List Pr → List Str → List Str
  | [],_ => []
  | p :: ps,b => usesP p b ++ usesPs ps b
end
mutual
def smU:Ty → Prop
  | .mk _ _ _ _ l ks => l.length ≤ 2000000 ∧ smUs ks
def smUs:List Ty → Prop
  | [] => True
  | t :: ts => smU t ∧ smUs ts
end
theorem smUs_iff (l:List Ty):smUs l ↔ ∀ t ∈ l,smU t:=by induction l with | nil => simp [smUs] | cons t l ih => simp [smUs,ih]
theorem smU_iff (t:Ty):smU t ↔ t.labels.length ≤ 2000000 ∧ ∀ u ∈ t.kids,smU u:=by cases t;rw [smU,smUs_iff];rfl
mutual
def smA:Pr → Prop
  | .mk _ _ _ l a ty ks => l.length ≤ 2000000 ∧ a.length ≤ 2000000 ∧ smU ty ∧ smAs ks
def smAs:List Pr → Prop
  | [] => True
  | t :: ts => smA t ∧ smAs ts
end
theorem smAs_iff (l:List Pr):smAs l ↔ ∀ t ∈ l,smA t:=by induction l with | nil => simp [smAs] | cons t l ih => simp [smAs,ih]
theorem smA_iff (p:Pr):smA p ↔ p.labels.length ≤ 2000000 ∧ p.args.length ≤ 2000000 ∧ smU p.typ ∧ ∀ u ∈ p.kids,smA u:=by cases p;rw [smA,smAs_iff];rfl
def okTb (t:Tb):Prop:=∀ p ∈ t,okV p.2
theorem okTb.get {t:Tb} (h:okTb t) {s:Str} {v:Vl} (hv:tget t s = some v):okV v:=by
  induction t with
  | nil => cases hv
  | cons p t ih =>
    obtain ⟨k,x⟩:=p
    simp only [tget] at hv
    split at hv
    · cases hv;exact h (k,v) (List.mem_cons_self ..)
    · exact ih (fun q hq => h q (List.mem_cons_of_mem _ hq)) hv
end Go.Duo
