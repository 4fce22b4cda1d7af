/-
  A part of the proof.
-/
import Derived.Test.YtdlcnihacaboiaaGreatDoorGD
set_option linter.all false
namespace Go.Duo
open Go
section
variable {P:Program} {gl:Nat → V} {K:V → Prop} {st:List O} {x y:V}
theorem loadP_det {t:TypeId} (h:loadP P t st x K):∃ v,(∀ K':V → Prop,K' v → loadP P t st x K') ∧ K v:=by
  unfold loadP at h ⊢
  cases hl:lay P t with
  | none => simp [hl] at h
  | some ng =>
    obtain ⟨n,g⟩:=ng
    rw [hl] at h
    cases x <;> try exact h.elim
    · rename_i id off
      simp only at h ⊢
      cases ho:st[id]? with
      | none => simp [ho] at h
      | some o =>
        rw [ho] at h
        cases o <;> try exact h.elim
        exact ⟨_,fun _ hk => ⟨h.1,hk⟩,h.2⟩
    · exact ⟨_,fun _ hk => ⟨h.1,hk⟩,h.2⟩
    · rename_i id ver off
      simp only at h ⊢
      cases ho:st[id]? with
      | none => simp [ho] at h
      | some o =>
        rw [ho] at h
        cases o <;> try exact h.elim
        exact ⟨_,fun _ hk => ⟨h.1,h.2.1,hk⟩,h.2.2⟩
theorem intP_det {op:BinOp} {k k':IntKind} {a b:Int} (h:intP op k a k' b K):∃ v,(∀ K':V → Prop,K' v → intP op k a k' b K') ∧ K v:=by
  unfold intP at h ⊢
  cases op <;> first | exact h.elim | exact ⟨_,fun _ hk => ⟨h.1,hk⟩,h.2⟩ | exact ⟨_,fun _ hk => ⟨h.1,h.2.1,hk⟩,h.2.2⟩
theorem strP_det {op:BinOp} {a b:List UInt8} (h:strP op a b K):∃ v,(∀ K':V → Prop,K' v → strP op a b K') ∧ K v:=by
  unfold strP at h ⊢
  cases op <;> first | exact h.elim | exact ⟨_,fun _ hk => hk,h⟩ | exact ⟨_,fun _ hk => ⟨h.1,hk⟩,h.2⟩
theorem eqP_det {t:TypeId} {op:BinOp} {a b:List V} (h:eqP P t op a b K):∃ v,(∀ K':V → Prop,K' v → eqP P t op a b K') ∧ K v:=by
  unfold eqP at h ⊢
  cases hs:sEq P t with
  | none => simp [hs] at h
  | some ks =>
    rw [hs] at h
    simp only at h ⊢
    cases hc:cmpL ks a b with
    | none => simp [hc] at h
    | some r =>
      rw [hc] at h
      cases op <;> first | exact h.elim | exact ⟨_,fun _ hk => hk,h⟩
theorem binP_det {t:TypeId} {op:BinOp} (h:binP P t op x y K):∃ v,(∀ K':V → Prop,K' v → binP P t op x y K') ∧ K v:=by
  unfold binP at h ⊢
  cases x <;> cases y <;> first
    | exact h.elim
    | exact intP_det h
    | exact strP_det h
    | exact eqP_det h
    | (cases op <;> first | exact h.elim | exact ⟨_,fun _ hk => ⟨h.1,hk⟩,h.2⟩)
theorem unP_det {op:UnOp} (h:unP op x K):∃ v,(∀ K':V → Prop,K' v → unP op x K') ∧ K v:=by
  unfold unP at h ⊢
  cases op <;> cases x <;> first | exact h.elim | exact ⟨_,fun _ hk => hk,h⟩
theorem faP_det {t:TypeId} {f:Nat} (h:faP P t st f x K):∃ v,(∀ K':V → Prop,K' v → faP P t st f x K') ∧ K v:=by
  unfold faP at h ⊢
  cases hl:fld P t f with
  | none => simp [hl] at h
  | some ng =>
    obtain ⟨off,n,g⟩:=ng
    rw [hl] at h
    cases x <;> try exact h.2.elim
    · exact ⟨_,fun _ hk => ⟨h.1,hk⟩,h.2⟩
    · exact ⟨_,fun _ hk => ⟨h.1,hk⟩,h.2⟩
    · rename_i id ver o
      simp only at h ⊢
      cases ho:st[id]? with
      | none => simp [ho] at h
      | some o =>
        rw [ho] at h
        cases o <;> try exact h.2.elim
        exact ⟨_,fun _ hk => ⟨h.1,h.2.1,hk⟩,h.2.2⟩
theorem fieldP_det {t:TypeId} {f:Nat} (h:fieldP P t f x K):∃ v,(∀ K':V → Prop,K' v → fieldP P t f x K') ∧ K v:=by
  unfold fieldP at h ⊢
  cases hl:fld P t f with
  | none => simp [hl] at h
  | some ng =>
    obtain ⟨off,n,g⟩:=ng
    rw [hl] at h
    cases x <;> try exact h.elim
    exact ⟨_,fun _ hk => ⟨h.1,hk⟩,h.2⟩
theorem iaP_det {t:TypeId} (h:iaP P t st x y K):∃ v,(∀ K':V → Prop,K' v → iaP P t st x y K') ∧ K v:=by
  unfold iaP at h ⊢
  cases y <;> try exact h.elim
  simp only at h ⊢
  cases he:elt P t with
  | some z =>
    obtain ⟨e,sz,by_⟩:=z
    rw [he] at h
    cases x <;> try exact h.elim
    · exact ⟨_,fun _ hk => ⟨h.1,h.2.1,h.2.2.1,hk⟩,h.2.2.2⟩
    · rename_i id ver
      simp only at h ⊢
      cases ho:st[id]? with
      | none => simp [ho] at h
      | some o =>
        rw [ho] at h
        cases o <;> try exact h.elim
        exact ⟨_,fun _ hk => ⟨h.1,h.2.1,h.2.2.1,h.2.2.2.1,hk⟩,h.2.2.2.2⟩
  | none =>
    rw [he] at h
    simp only at h ⊢
    cases ha:arr P t with
    | none => simp [ha] at h
    | some z =>
      obtain ⟨len,sz,g⟩:=z
      rw [ha] at h
      cases x <;> try exact h.2.2.elim
      · exact ⟨_,fun _ hk => ⟨h.1,h.2.1,hk⟩,h.2.2⟩
      · exact ⟨_,fun _ hk => ⟨h.1,h.2.1,hk⟩,h.2.2⟩
theorem ixP_det {t:TypeId} (h:ixP P t x y K):∃ v,(∀ K':V → Prop,K' v → ixP P t x y K') ∧ K v:=by
  unfold ixP at h ⊢
  cases y <;> try exact h.elim
  cases x <;> try exact h.elim
  · exact ⟨_,fun _ hk => ⟨h.1,h.2.1,h.2.2.1,hk⟩,h.2.2.2⟩
  · simp only at h ⊢
    cases ha:arr P t with
    | none => simp [ha] at h
    | some z =>
      obtain ⟨len,sz,g⟩:=z
      rw [ha] at h
      exact ⟨_,fun _ hk => ⟨h.1,h.2.1,h.2.2.1,hk⟩,h.2.2.2⟩
theorem sliceP_det {t:TypeId} {lo hi mx:Option V} (h:sliceP P t x lo hi mx K):∃ v,(∀ K':V → Prop,K' v → sliceP P t x lo hi mx K') ∧ K v:=by
  unfold sliceP at h ⊢
  cases x <;> try exact h.elim
  · simp only at h ⊢
    obtain ⟨hu,h⟩:=h
    split at h
    · exact ⟨_,fun _ hk => ⟨hu,h.1,h.2.1,h.2.2.1,hk⟩,h.2.2.2⟩
    · exact h.elim
  · simp only at h ⊢
    cases he:elt P t with
    | none => simp [he] at h
    | some z =>
      obtain ⟨e,sz,by_⟩:=z
      rw [he] at h
      simp only at h ⊢
      split at h
      · exact ⟨_,fun _ hk => ⟨h.1,h.2.1,h.2.2.1,h.2.2.2.1,hk⟩,h.2.2.2.2⟩
      · exact ⟨_,fun _ hk => ⟨h.1,h.2.1,h.2.2.1,h.2.2.2.1,hk⟩,h.2.2.2.2⟩
      · exact h.elim
  · simp only at h ⊢
    cases he:elt P t with
    | none => simp [he] at h
    | some z =>
      rw [he] at h
      simp only at h ⊢
      split at h
      · exact ⟨_,fun _ hk => ⟨h.1,h.2.1,hk⟩,h.2.2⟩
      · exact ⟨_,fun _ hk => ⟨h.1,h.2.1,h.2.2.1,h.2.2.2.1,hk⟩,h.2.2.2.2⟩
      · exact h.elim
  · simp only at h ⊢
    split at h
    · exact ⟨_,fun _ hk => ⟨h.1,h.2.1,h.2.2.1,hk⟩,h.2.2.2⟩
    · exact h.elim
theorem buildP_det {t:TypeId} {ps:List (Nat × V)} (h:buildP P t ps K):∃ v,(∀ K':V → Prop,K' v → buildP P t ps K') ∧ K v:=by
  unfold buildP at h ⊢
  split at h
  · split at h
    · exact ⟨_,fun _ hk => hk,h⟩
    · exact h.elim
  · exact h.elim
theorem lenP_det {t:TypeId} (h:lenP st P t x K):∃ v,(∀ K':V → Prop,K' v → lenP st P t x K') ∧ K v:=by
  unfold lenP at h ⊢
  cases x <;> try exact h.elim
  · exact ⟨_,fun _ hk => ⟨h.1,hk⟩,h.2⟩
  · exact ⟨_,fun _ hk => ⟨h.1,hk⟩,h.2⟩
  · exact ⟨_,fun _ hk => ⟨h.1,hk⟩,h.2⟩
  · rename_i id ver
    simp only at h ⊢
    cases ho:st[id]? with
    | none => simp [ho] at h
    | some o =>
      rw [ho] at h
      cases o <;> try exact h.2.elim
      exact ⟨_,fun _ hk => ⟨h.1,h.2.1,hk⟩,h.2.2⟩
theorem lookP_det {t:TypeId} {k:V} {ok:Bool} (h:lookP P st t x k ok K):∃ v,(∀ K':V → Prop,K' v → lookP P st t x k ok K') ∧ K v:=by
  unfold lookP at h ⊢
  split at h
  · exact ⟨_,fun _ hk => hk,h⟩
  · exact h.elim
def calm:Op → Bool
  | .move _ | .assign _ | .pick .. | .binOp .. | .unOp .. | .convert .. | .extract .. | .makeFunc .. | .nilCheck _ | .load .. | .fieldAddr .. | .field .. | .indexAddr .. | .index .. | .slice .. | .build .. | .lookup .. => true
  | .call c => match c.callee with
    | .builtin .len | .builtin .max | .builtin .min => true
    | _ => false
  | _ => false
theorem step1_det {ρ:Operand → V} {op:Op} {K:V → List O → Prop} (hc:calm op = true) (h:step1 P gl ρ st op K):∃ v,(∀ K':V → List O → Prop,K' v st → step1 P gl ρ st op K') ∧ K v st:=by
  cases op <;> simp only [calm,Bool.false_eq_true] at hc <;> simp only [step1] at h ⊢
  case move => exact ⟨_,fun _ hk => hk,h⟩
  case assign => exact ⟨_,fun _ hk => hk,h⟩
  case pick c a b =>
    cases hv:ρ c <;> rw [hv] at h <;> try exact h.elim
    exact ⟨_,fun _ hk => hk,h⟩
  case binOp op t x y yt =>
    by_cases hny:isNilC y = true
    · simp only [hny,if_true] at h ⊢
      unfold ifcP at h ⊢
      obtain ⟨hi,h⟩:=h
      simp only [hi,true_and]
      split at h <;> first | exact h.elim | exact ⟨_,fun _ hk => hk,h⟩
    · simp only [if_neg hny] at h ⊢
      obtain ⟨v,h1,h2⟩:=binP_det h
      exact ⟨v,fun _ hk => h1 _ hk,h2⟩
  case unOp => obtain ⟨v,h1,h2⟩:=unP_det h;exact ⟨v,fun _ hk => h1 _ hk,h2⟩
  case convert src dst x =>
    split at h
    · exact ⟨_,fun _ hk => hk,h⟩
    · exact ⟨_,fun _ hk => hk,h⟩
    · exact h.elim
  case extract x i =>
    cases hv:ρ x <;> rw [hv] at h <;> try exact h.elim
    exact ⟨_,fun _ hk => ⟨h.1,hk⟩,h.2⟩
  case makeFunc => exact ⟨_,fun _ hk => hk,h⟩
  case nilCheck => exact ⟨_,fun _ hk => ⟨h.1,hk⟩,h.2⟩
  case load => obtain ⟨v,h1,h2⟩:=loadP_det h;exact ⟨v,fun _ hk => h1 _ hk,h2⟩
  case fieldAddr => obtain ⟨v,h1,h2⟩:=faP_det h;exact ⟨v,fun _ hk => h1 _ hk,h2⟩
  case field => obtain ⟨v,h1,h2⟩:=fieldP_det h;exact ⟨v,fun _ hk => h1 _ hk,h2⟩
  case indexAddr => obtain ⟨v,h1,h2⟩:=iaP_det h;exact ⟨v,fun _ hk => h1 _ hk,h2⟩
  case index => obtain ⟨v,h1,h2⟩:=ixP_det h;exact ⟨v,fun _ hk => h1 _ hk,h2⟩
  case slice => obtain ⟨v,h1,h2⟩:=sliceP_det h;exact ⟨v,fun _ hk => h1 _ hk,h2⟩
  case build => obtain ⟨v,h1,h2⟩:=buildP_det h;exact ⟨v,fun _ hk => h1 _ hk,h2⟩
  case lookup => obtain ⟨v,h1,h2⟩:=lookP_det h;exact ⟨v,fun _ hk => h1 _ hk,h2⟩
  case call c =>
    cases hcal:c.callee <;> rw [hcal] at hc h <;> try (simp at hc;done)
    rename_i b
    cases b <;> try (simp at hc;done)
    · simp only at h ⊢
      split at h
      · obtain ⟨v,h1,h2⟩:=lenP_det h;exact ⟨v,fun _ hk => h1 _ hk,h2⟩
      · exact h.elim
    all_goals
      simp only at h ⊢
      split at h
      · split at h
        · exact ⟨_,fun _ hk => hk,h⟩
        · exact h.elim
      · exact h.elim
theorem step1_congr {ρ ρ':Operand → V} {op:Op} {K:V → List O → Prop} (he:∀ x ∈ op.operands,ρ x = ρ' x) (h:step1 P gl ρ st op K):step1 P gl ρ' st op K:=by
  have hl:∀ (l:List Operand),(∀ x ∈ l,ρ x = ρ' x) → l.map ρ = l.map ρ':=fun l hl => List.map_congr_left hl
  have ho:∀ (o:Option Operand),(∀ x ∈ o,ρ x = ρ' x) → o.map ρ = o.map ρ':=fun o ho => by
    cases o with
    | none => rfl
    | some x => simp [ho x rfl]
  cases op <;> simp only [step1] at h ⊢ <;> simp only [Op.operands,Array.mem_append,List.mem_toArray,List.mem_map,List.mem_cons,List.not_mem_nil,or_false,forall_eq_or_imp,forall_eq,Option.mem_toArray] at he
  case move => rw [← he];exact h
  case assign => rw [← he];exact h
  case pick => rw [← he.1,← he.2.1,← he.2.2];exact h
  case binOp => rw [← he.1,← he.2];exact h
  case unOp => rw [← he];exact h
  case convert => rw [← he];exact h
  case extract => rw [← he];exact h
  case makeFunc fn first captured =>
    rw [← hl first.toList (fun x hx => he x (.inl (by simpa using hx))),← hl captured.toList (fun x hx => he x (.inr (by simpa using hx)))]
    exact h
  case nilCheck => rw [← he];exact h
  case load => rw [← he];exact h
  case store => rw [← he.1,← he.2];exact h
  case makeSlice => rw [← he.1,← he.2];exact h
  case makeMap t r => cases r <;> exact h
  case lookup => rw [← he.1,← he.2];exact h
  case mapUpdate => rw [← he.1,← he.2.1,← he.2.2];exact h
  case insert => rw [← he.1,← he.2.1,← he.2.2];exact h
  case fieldAddr => rw [← he];exact h
  case field => rw [← he];exact h
  case indexAddr => rw [← he.1,← he.2];exact h
  case index => rw [← he.1,← he.2];exact h
  case slice t x lo hi mx =>
    rw [← he x (.inl (.inl (.inl rfl))),← ho lo (fun y hy => he y (.inl (.inl (.inr hy)))),← ho hi (fun y hy => he y (.inl (.inr hy))),← ho mx (fun y hy => he y (.inr hy))]
    exact h
  case box => rw [← he];exact h
  case alloc => exact h
  case build t parts =>
    have:(parts.toList.map fun p => (p.1,ρ p.2)) = parts.toList.map fun p => (p.1,ρ' p.2):=List.map_congr_left fun p hp => by rw [he p.2 ⟨p,hp,rfl⟩]
    rw [← this];exact h
  case buildSlice t len parts =>
    have:(parts.toList.map fun p => (p.1,ρ p.2)) = parts.toList.map fun p => (p.1,ρ' p.2):=List.map_congr_left fun p hp => by rw [he p.2 ⟨p,hp,rfl⟩]
    rw [← this];exact h
  case call c =>
    have hargs:∀ x ∈ c.args.toList,ρ x = ρ' x:=fun x hx => he x (by simp only [Call.operands,Array.mem_append];exact .inr (by simpa using hx))
    cases hcal:c.callee with
    | value f =>
      rw [hcal] at h
      simp only at h ⊢
      rw [← he f (by simp [Call.operands,hcal]),← hl _ hargs]
      exact h
    | invoke r m => rw [hcal] at h;exact h.elim
    | builtin b =>
      rw [hcal] at h
      cases b <;> simp only at h ⊢ <;> try exact h.elim
      all_goals
        split at h
        · rename_i heq
          simp_all
          try (obtain ⟨rfl,h⟩:=h;exact h)
        · exact h.elim
end
end Go.Duo

namespace Go.Duo
open Go
section
variable {P:Program} {gl:Nat → V} {r:Option Nat} {e:Env} {st:List O} {w w':World} {s s':S}
def Pend (P:Program) (w:World) (s:S) (f:Nat → V) (o:O) (x:Value) (b:Nat):Prop :=
  ∃ g:Gh,g.at = some b ∧ o.lives = true ∧ b < w.heap.size ∧ ¬ s.mine b ∧ ¬ s.foreign b ∧ (∀ y,o.writes y → ¬ s.K b y) ∧ ObjOK P w s o g ∧ s.late b ∧
    ∀ (w2:World) (s2:S) (i:Nat),Keeps w s.K w2 s2.K → s2.st[i]? = some o → s2.g[i]? = some g → Rep w2 s2 (f i) x
theorem O.lives_yld {o:O} (h:o.lives = true):∀ xs k go,o ≠ .yld xs k go:=fun xs k go he => by subst he;cases h
theorem Pend.evolve {f:Nat → V} {o:O} {x:Value} {b:Nat} (hs:Sim P gl w s) (hE:Evolve w s w' s') (h:Pend P w s f o x b):Pend P w' s' f o x b:=by
  obtain ⟨g,h1,h2,h3,h4,h5,h6,h7,hlate,h8⟩:=h
  refine ⟨g,h1,h2,Nat.lt_of_lt_of_le h3 hE.size,fun hm => ?_,fun hf => ?_,fun y hy hk => ?_,h7.keep hE hs.wf (fun _ b' hb' => ?_) (fun l F J Jx xs i go _ ho => absurd ho (O.lives_yld h2 xs i go)),hlate.evolve hE hs.len,fun w2 s2 i hk => h8 w2 s2 i (hE.keeps.trans hk)⟩
  · rcases hE.mine hs.len hm with hm | hm
    · exact h4 hm
    · omega
  · rcases hE.foreign hs.len hf with hf | hf
    · exact h5 hf
    · omega
  · rcases hE.knew b y hk with hk | hk | hk | hk
    · exact h6 y hy hk
    · omega
    · exact h4 hk
    · exact h5 hk
  · rw [h1] at hb'
    simp only [Option.some.injEq] at hb'
    subst hb'
    exact hE.block b h3 h4 h5
theorem Pend.pushed {f:Nat → V} {o o':O} {g':Gh} {x:Value} {b:Nat} (hs:Sim P gl w s) (hl:o'.lives = true) (hne:g'.at ≠ some b) (h:Pend P w s f o x b):Pend P w (s.push o' g') f o x b:=by
  obtain ⟨g,h1,h2,h3,h4,h5,h6,h7,hlate,h8⟩:=h
  refine ⟨g,h1,h2,h3,fun ⟨i,hm⟩ => ?_,fun hf => h5 (foreign_push hs.len (O.lives_yld hl) hf),h6,h7.push hs.len (fun _ _ _ _ _ ⟨xs,k,go,he⟩ => absurd he (O.lives_yld h2 xs k go)),fun i xs k l go F J Jx ho hg => ?_,h8⟩
  · rcases own_push hs.len hm with hm | ⟨_,_,hm⟩
    · exact h4 ⟨i,hm⟩
    · exact hne hm
  · simp only [S.push] at ho hg
    rcases getElem?_snoc ho with ho | ⟨_,he⟩
    · rcases getElem?_snoc hg with hg | ⟨rfl,_⟩
      · exact hlate i xs k l go F J Jx ho hg
      · have:=(List.getElem?_eq_some_iff.1 ho).1
        have:=hs.len
        omega
    · exact absurd he.symm (O.lives_yld hl xs k go)
theorem ObjOK.no_mark {o:O} {g:Gh} {b:Nat} (h:ObjOK P w s o g) (hl:o.lives = true) (hg:g.at = some b) {ds:Option (List Deferred)}:w.heap[b]? ≠ some (.deferred ds):=by
  intro hd
  cases o <;> cases g <;> simp only [ObjOK] at h <;> simp only [Gh.at,Option.some.injEq] at hg <;> try (cases hl;done)
  · subst hg;obtain ⟨_,h,_⟩:=h;rw [hd] at h;simp at h
  · subst hg;obtain ⟨_,_,h,_⟩:=h;rw [hd] at h;simp at h
  · obtain ⟨_,_,h | ⟨_,_,_,rfl,_,h,_⟩⟩:=h
    · rw [h.1] at hg;simp [Value.ownBlock] at hg
    · simp only [Value.ownBlock,Option.some.injEq] at hg;subst hg;rw [hd] at h;simp at h
  · obtain ⟨_,⟨_,h | ⟨_,_,_,rfl,_,h,_⟩⟩,_⟩:=h
    · rw [h.1] at hg;simp [Value.ownBlock] at hg
    · simp only [Value.ownBlock,Option.some.injEq] at hg;subst hg;rw [hd] at h;simp at h
abbrev Up:=Nat × (Nat → V) × O
def applyUps:List Up → Env → List O → Env × List O
  | [],e,st => (e,st)
  | (d,f,o) :: l,e,st => applyUps l (e.put (some d) (f st.length)) (st ++ [o])
theorem register {w0:World} {s0:S} {n0:Nat} {a:Act}:∀ (ups:List Up) (bs:List Nat) (s:S) (e:Env),Sim P gl w s → Evolve w0 s0 w s → s0.st.length ≤ s.st.length → ActOK w s n0 e a → ups.length = bs.length → bs.Nodup →
    (∀ (i:Nat) (u:Up) (b:Nat),ups[i]? = some u → bs[i]? = some b → w0.heap.size ≤ b ∧ Pend P w s u.2.1 u.2.2 (a.tmps.getD u.1 undef) b) →
    ∃ s',Sim P gl w s' ∧ Evolve w0 s0 w s' ∧ ActOK w s' n0 (applyUps ups e s.st).1 a ∧ s'.st = (applyUps ups e s.st).2:=by
  intro ups
  induction ups with
  | nil => intro bs s e h1 h2 _ h3 _ _ _;exact ⟨s,h1,h2,h3,rfl⟩
  | cons u ups ih =>
    intro bs s e h1 h2 h20 h3 hl hnd hp
    obtain ⟨d,f,o⟩:=u
    cases bs with
    | nil => simp at hl
    | cons b bs =>
      obtain ⟨hb0,g,k1,k2,k3,k4,k5,k6,k7,klate,k8⟩:=hp 0 _ _ rfl rfl
      have hS:Sim P gl w (s.push o g):=h1.push (fun i b' _ hb' hi => by rw [k1] at hb';simp only [Option.some.injEq] at hb';subst hb';exact k4 ⟨i,hi⟩)
        (fun b' y _ hb' hy => by rw [k1] at hb';simp only [Option.some.injEq] at hb';subst hb';exact k6 y hy) (fun b' _ hb' => by rw [k1] at hb';simp only [Option.some.injEq] at hb';subst hb';exact k5) (O.lives_yld k2) (k7.push h1.len (fun _ _ _ _ _ ⟨xs,k,go,he⟩ => absurd he (O.lives_yld k2 xs k go))) (fun b' _ hb' => by rw [k1] at hb';simp only [Option.some.injEq] at hb';subst hb';exact klate)
      have hE:Evolve w0 s0 w (s.push o g):=by
        refine ⟨h2.os,h2.tape,h2.output,h2.size,h2.keeps,h2.knew,h2.block,by have:=h2.len;simp [S.push];omega,fun i o' g' ho hg => ?_,fun i o' g' b' hi ho hlv hg hat => ?_,fun i xs n go hi ho => ?_⟩
        · obtain ⟨o1,g1,q1,q2,t⟩:=h2.objs i o' g' ho hg
          exact ⟨o1,g1,push_st q1,push_g q2,t⟩
        · simp only [S.push] at ho hg
          rcases getElem?_snoc ho with ho | ⟨rfl,rfl⟩
          · rcases getElem?_snoc hg with hg | ⟨rfl,rfl⟩
            · exact h2.fresh i o' g' b' hi ho hlv hg hat
            · have:=(List.getElem?_eq_some_iff.1 ho).1
              have:=h1.len
              omega
          · rcases getElem?_snoc hg with hg | ⟨_,rfl⟩
            · have:=(List.getElem?_eq_some_iff.1 hg).1
              have:=h1.len
              omega
            · rw [k1] at hat
              simp only [Option.some.injEq] at hat
              omega
        · simp only [S.push] at ho
          rcases getElem?_snoc ho with ho | ⟨_,he⟩
          · exact h2.noyld i xs n go hi ho
          · exact O.lives_yld k2 xs n go he.symm
      have hA:ActOK w (s.push o g) n0 (e.put (some d) (f s.st.length)) a:=by
        refine ⟨h3.n,fun t => ?_,⟨fun m hm => ?_,h3.marks.2⟩⟩
        · simp only [Env.put,Env.get,getM]
          split
          · rename_i hd
            subst hd
            exact k8 w (s.push o g) s.st.length (Keeps.refl _ _) (by simp [S.push]) (by simp [S.push,← h1.len])
          · exact (h3.get t).push
        · obtain ⟨r,q1,q2,q3,q4,q5⟩:=h3.marks.1 m hm
          refine ⟨r,q1,q2,q3,fun ⟨i,hi⟩ => ?_,fun hf => q5 (foreign_push h1.len (O.lives_yld k2) hf)⟩
          rcases own_push h1.len hi with hi | ⟨_,_,hi⟩
          · exact q4 ⟨i,hi⟩
          · exact k7.no_mark k2 hi q3
      obtain ⟨s',q1,q2,q3,q4⟩:=ih bs (s.push o g) _ hS hE (by simp [S.push];omega) hA (by simpa using hl) (List.nodup_cons.1 hnd).2 fun i u b' hu hb' => by
        obtain ⟨j1,j2⟩:=hp (i + 1) u b' hu hb'
        refine ⟨j1,j2.pushed h1 k2 fun he => ?_⟩
        rw [k1] at he
        simp only [Option.some.injEq] at he
        subst he
        exact (List.nodup_cons.1 hnd).1 (List.mem_iff_getElem?.2 ⟨i,hb'⟩)
      exact ⟨s',q1,q2,q3,q4⟩
theorem pend_of_own {e:TypeId} {sz:Nat} {es:List V} {xs:List Value} {v:Value} {b:Nat} (hown:w.ownsRow 0 e sz v es.length xs) (hb:v.ownBlock = some b) (hlt:b < w.heap.size) (h1:¬ s.mine b) (h2:¬ s.foreign b) (h3:∀ y,es.length * sz ≤ y → ¬ s.K b y)
    (hpr:PR w s.K (.sl es none) v) (hsz:∀ el ∈ es,el.cells.length = sz) (hlate:s.late b):Pend P w s (fun i => .sl es (some i)) (.tok e sz es.length) v b :=
  ⟨.row v,hb,rfl,hlt,h1,h2,h3,⟨xs,hown⟩,hlate,fun _ _ _ hk ho hg => .tok _ _ _ (hpr.keeps hk) ⟨_,ho,Nat.le_refl _,fun _ => .inl hg,hsz⟩⟩
theorem pend_row (hs:Sim P gl w s) (e:TypeId) {sz cap:Nat} {es:List V} {xs:List Value} {arr:Array Value} (hpos:0 < es.length) (hsz:∀ el ∈ es,el.cells.length = sz) (h1:∀ c ∈ flat es,c.one = true) (hcap:es.length ≤ cap) (hmax:cap ≤ maxLen)
    (harr:arr.size = cap * sz) (htake:arr.toList.take (es.length * sz) = xs) (hr:∀ (j:Nat) (c:V) (x:Value),(flat es)[j]? = some c → xs[j]? = some x → PR w s.K c x) :
    let w':=w.alloc (.cells arr e)
    let v:=Value.slice (some ⟨w.heap.size,0,none⟩) es.length cap
    let s':S:={ s with K:=fun b o => s.K b o ∨ (b = w.heap.size ∧ o < es.length * sz) }
    Sim P gl w' s' ∧ Evolve w s w' s' ∧ Rep w' s' (.sl es none) v ∧ Pend P w' s' (fun i => .sl es (some i)) (.tok e sz es.length) v w.heap.size:=by
  intro w' v s'
  have hE0:=Evolve.alloc hs.wf (w:=w) (.cells arr e) (fun o => o < es.length * sz)
  have hS0:=hs.alloc (.cells arr e) (fun o => o < es.length * sz)
  have hle:es.length * sz ≤ arr.size:=by rw [harr];exact Nat.mul_le_mul_right _ hcap
  have hxl:xs.length = es.length * sz:=by rw [← htake];simp;omega
  have hown:w'.ownsRow 0 e sz v es.length xs:=⟨hxl,.inr ⟨w.heap.size,cap,arr,rfl,Nat.zero_le _,heap_alloc_new w _,hcap,hmax,harr,htake⟩⟩
  have hpr:=pr_of_own (K:=fun b o => s.K b o ∨ (b = w.heap.size ∧ o < es.length * sz)) hown rfl hpos hsz h1 (fun b j hb hj => by simp only [v,Value.ownBlock,Option.some.injEq] at hb;exact .inr ⟨hb.symm,hj⟩) (fun j c u hc hu => (hr j c u hc hu).keeps hE0.keeps)
  refine ⟨hS0,hE0,.pure _ _ hpr,pend_of_own hown rfl (by simp [w']) (fun hm => ?_) (fun hf => ?_) (fun y hy hk => ?_) hpr hsz (show s.late _ from hs.late (Nat.le_refl _))⟩
  · have:s.mine w.heap.size:=hm
    have:=hs.mine_lt this
    omega
  · have:s.foreign w.heap.size:=hf
    have:=(hs.fgn _ this).1
    omega
  · rcases hk with hk | ⟨_,hk⟩
    · have:=hs.kin _ _ hk
      omega
    · omega
theorem pend_box (hs:Sim P gl w s) (t:TypeId) {cs:List V} {xs:List Value} (hl:cs.length = xs.length) (hr:∀ (j:Nat) (c:V) (z:Value),cs[j]? = some c → xs[j]? = some z → Rep w s c z) :
    let w':=w.alloc (.cells xs.toArray t)
    Sim P gl w' s ∧ Evolve w s w' s ∧ Pend P w' s (fun i => .ptr i 0) (.box t cs) (.pointer (some ⟨w.heap.size,0,none⟩)) w.heap.size:=by
  intro w'
  have hE0:=Evolve.alloc hs.wf (w:=w) (.cells xs.toArray t) (fun _ => False)
  have hS0:=hs.alloc (.cells xs.toArray t) (fun _ => False)
  have hK:(fun b o => s.K b o ∨ (b = w.heap.size ∧ False)) = s.K:=by funext b o;simp
  rw [hK] at hE0 hS0
  refine ⟨hS0,hE0,.blk w.heap.size,rfl,rfl,by simp [w'],fun hm => ?_,fun hf => ?_,fun y _ hk => ?_,⟨xs.toArray,heap_alloc_new w _,by simp [hl],fun j c z hc hz => (hr j c z hc (by simpa using hz)).evolve hE0 hs.wf⟩,hs.late (Nat.le_refl _),fun _ _ _ _ _ hg => .ptr _ _ _ hg⟩
  · have:=hs.mine_lt hm
    omega
  · have:=(hs.fgn _ hf).1
    omega
  · have:=hs.kin _ _ hk
    omega
def buildSliceA (P:Program) (t:TypeId) (len:Nat) (parts:List (Nat × V)) (K:V → Option ((Nat → V) × O) → Prop):Prop :=
  match elt P t with
  | none => False
  | some (e,sz,_) => if len = 0 then K .nil none else
      parts.map (·.1) = List.range len ∧ len * sz ≤ 16777216 ∧ (∀ p ∈ parts,p.2.cells.length = sz ∧ p.2.cells.all V.one = true ∧ ∀ c ∈ p.2.cells,PureV c) ∧ K (.sl (parts.map (·.2.bare)) none) (some (fun i => .sl (parts.map (·.2.bare)) (some i),.tok e sz len))
def appendA (P:Program) (t:TypeId) (x y:V) (K:V → Option ((Nat → V) × O) → Prop):Prop :=
  match elt P t,rowOf y with
  | some (e,sz,by_),some es2 => (∀ el ∈ es2,el.cells.length = sz) ∧ match x with
    | .nil => es2.length * by_ ≤ 140737488355328 ∧ es2.length ≤ maxLen ∧ (K (.sl es2 none) none ∨ ((es2 = [] → K .nil none) ∧ (es2 ≠ [] → K (.sl es2 none) (some (fun i => .sl es2 (some i),.tok e sz es2.length)))))
    | _ => False
  | _,_ => False
def stepA (P:Program) (gl:Nat → V) (ρ:Operand → V) (st:List O) (op:Op) (K:V → Option ((Nat → V) × O) → Prop):Prop :=
  match op with
  | .alloc t => match zro P t with
    | some z => K .undef (some (fun i => .ptr i 0,.box t z))
    | none => False
  | .buildSlice t len parts => (len = 0 → parts.size = 0) ∧ buildSliceA P t len (parts.toList.map fun p => (p.1,ρ p.2)) K
  | .call c => match c.callee with
    | .value f => match ρ f with
      | .func (.func k) fs cs => ent P k = true ∧ ∃ v,Call P gl k (fs ++ c.args.toList.map ρ ++ cs) st (fun v' st' => v' = v ∧ st' = st) ∧ K v none
      | _ => False
    | .builtin .append => match c.args.toList,c.argTypes.toList with
      | [x,y],[t,u] => t = u ∧ appendA P t (ρ x) (ρ y) K
      | _,_ => False
    | _ => if calm op then step1 P gl ρ st op (fun v _ => K v none) else False
  | op => if calm op then step1 P gl ρ st op (fun v _ => K v none) else False
theorem buildSliceA_sound (hs:Sim P gl w s) {t:TypeId} {len:Nat} {parts:List (Nat × V)} {ps:Array (Nat × Value)} {K:V → Option ((Nat → V) × O) → Prop} (hl:parts.length = ps.size)
    (hp:∀ (i:Nat) (p:Nat × V) (q:Nat × Value),parts[i]? = some p → ps[i]? = some q → p.1 = q.1 ∧ Rep w s p.2 q.2) (h:buildSliceA P t len parts K) (hlen:len = 0 → ps.size = 0) :
    ∃ v u z w' s',(Instr.buildSlice t len ps).run P w = .ok z w' ∧ Sim P gl w' s' ∧ Evolve w s w' s' ∧ s'.st = s.st ∧ Rep w' s' v z ∧ K v u ∧ ∀ f o,u = some (f,o) → ∃ b,w.heap.size ≤ b ∧ Pend P w' s' f o z b:=by
  unfold buildSliceA at h
  cases he:elt P t with
  | none => simp [he] at h
  | some o =>
    obtain ⟨e,sz,by_⟩:=o
    rw [he] at h
    simp only at h
    obtain ⟨hu,hsize⟩:=elt_lay he w
    obtain ⟨_,i,z,hi,hz,rfl,_,hzs,hpos⟩:=elt_runs he
    split at h
    · rename_i h0
      subst h0
      have hps:ps = #[]:=Array.eq_empty_of_size_eq_zero (hlen rfl)
      subst hps
      have hrun:(Instr.buildSlice t 0 #[]).run P w = .ok (.slice (some ⟨w.heap.size,0,none⟩) 0 0) (w.alloc (.cells #[] e)):=by
        simp [Instr.buildSlice,run_underlying hu,hsize,Instr.fill,newRow,Array.range_zero']
      have hK:(fun b o => s.K b o ∨ (b = w.heap.size ∧ False)) = s.K:=by funext b o;simp
      have hE:=Evolve.alloc hs.wf (w:=w) (.cells #[] e) (fun _ => False)
      have hS:=hs.alloc (.cells #[] e) (fun _ => False)
      rw [hK] at hE hS
      exact ⟨.nil,none,_,_,_,hrun,hS,hE,rfl,.pure _ _ (.nil _),h,by simp⟩
    · rename_i h0
      obtain ⟨hr,hbig,hparts,hK⟩:=h
      have hpl:parts.length = len:=by have:=congrArg List.length hr;simpa using this
      obtain ⟨hm,hq,hrep⟩:=flat_map_cells (ps:=ps.toList) (by simpa using hl) (fun p hp => ⟨(hparts p hp).1,(hparts p hp).2.1⟩) (fun i p q h1 h2 => hp i p q h1 (by simpa using h2))
      have hpsl:ps.toList.length = len:=by simp;omega
      let zero:Array Value:=(Array.range (len * i.size)).map (z.cells[· % z.cells.size]!)
      have hzsz:zero.size = len * i.size:=by simp [zero]
      have hfill:=flat_fill (sz:=i.size) ps.toList 0 zero (by rw [← hm,hr,hpsl,range'_zero]) (fun q hq' => (hq q hq').1) (by rw [hpsl,Nat.zero_add,hzsz];exact Nat.le_refl _)
      rw [hpsl,Nat.zero_mul,List.take_zero,List.nil_append,Nat.zero_add,← hzsz,List.drop_of_length_le (by simp),List.append_nil] at hfill
      have hne:len * i.size ≠ 0:=Nat.ne_of_gt (Nat.mul_pos (by omega) hpos)
      have hrun:(Instr.buildSlice t len ps).run P w = .ok (.slice (some ⟨w.heap.size,0,none⟩) len len) (w.alloc (.cells (ps.toList.flatMap (fun p => p.2.cells.toList)).toArray e)):=by
        have hn:¬ (16777216 < len * i.size):=by omega
        simp only [Instr.buildSlice,Sem.run_bind,run_underlying hu,Result.andThen_ok,hsize,Sem.run_ite,show (2 ^ 24:Nat) = 16777216 from rfl,gt_iff_lt,if_neg hn,if_neg hne,zeroValue,typeInfo,run_program,hi,hz,Sem.run_pure]
        have hfill':Instr.fill (fun k => some (k * i.size,i.size)) ((Array.range (len * i.size)).map (z.cells[· % z.cells.size]!)) ps.toList = some (ps.toList.flatMap (fun p => p.2.cells.toList)).toArray:=hfill
        simp only [hfill',newRow,Sem.run_bind,run_newObj,Result.andThen_ok,Sem.run_pure]
        rfl
      have hsl:∀ el ∈ parts.map (·.2.bare),el.cells.length = i.size:=fun el hel => by
        obtain ⟨p,hp,rfl⟩:=List.mem_map.1 hel
        rw [V.bare_cells,List.length_map]
        exact (hparts p hp).1
      have hfb:flat (parts.map (·.2.bare)) = (flat (parts.map (·.2))).map V.bare:=by
        clear hr hpl hm hrep hsl hK hparts hp hl
        induction parts with
        | nil => rfl
        | cons p parts ih => simp only [List.map_cons,flat_cons,List.map_append,V.bare_cells,ih]
      have hlenM:(parts.map (·.2.bare)).length = len:=by simp [hpl]
      obtain ⟨hS,hE,hR,hPd⟩:=pend_row hs e (sz:=i.size) (cap:=len) (es:=parts.map (·.2.bare)) (xs:=ps.toList.flatMap (fun p => p.2.cells.toList)) (arr:=(ps.toList.flatMap (fun p => p.2.cells.toList)).toArray) (by omega) hsl
        (fun c hc => by
          obtain ⟨el,hel,hc⟩:=List.mem_flatMap.1 hc
          obtain ⟨p,hp,rfl⟩:=List.mem_map.1 hel
          exact List.all_eq_true.1 (V.bare_all (hparts p hp).2.1) c hc)
        (by omega) (by simp only [maxLen];have:=Nat.le_mul_of_pos_right len hpos;omega)
        (by
          have h1:=hrep.1
          have h2:=flat_length hsl
          rw [hfb,List.length_map,h1] at h2
          simp only [List.size_toArray]
          rw [h2,hlenM])
        (by
          have h1:=hrep.1
          have h2:=flat_length hsl
          rw [hfb,List.length_map,h1] at h2
          rw [List.take_of_length_le (by show (ps.toList.flatMap _).length ≤ _;rw [h2];exact Nat.le_refl _)])
        (fun j c x hc hx => by
          rw [hfb,List.getElem?_map] at hc
          cases hcj:(flat (parts.map (·.2)))[j]? with
          | none => simp [hcj] at hc
          | some c0 =>
            simp only [hcj,Option.map_some,Option.some.injEq] at hc
            subst hc
            have hx':=hrep.2 j c0 x hcj hx
            obtain ⟨el,hel,hc0⟩:=List.mem_flatMap.1 (List.mem_iff_getElem?.2 ⟨j,hcj⟩)
            obtain ⟨p,hp',rfl⟩:=List.mem_map.1 hel
            exact (hparts p hp').2.2 c0 hc0 w s x hx')
      rw [hlenM] at hS hE hR hPd
      exact ⟨_,_,_,_,_,hrun,hS,hE,rfl,hR,hK,fun f o ho => by
        simp only [Option.some.injEq,Prod.mk.injEq] at ho
        obtain ⟨rfl,rfl⟩:=ho
        exact ⟨_,Nat.le_refl _,hPd⟩⟩
theorem appendA_sound (hs:Sim P gl w s) {t ty:TypeId} {a b:V} {x y:Value} {K:V → Option ((Nat → V) × O) → Prop} (hx:Rep w s a x) (hy:Rep w s b y) (h:appendA P t a b K) :
    ∃ v u z w' s',(Builtin.append_ #[t,t] ty #[x,y]).run P w = .ok z w' ∧ Sim P gl w' s' ∧ Evolve w s w' s' ∧ s'.st = s.st ∧ Rep w' s' v z ∧ K v u ∧ ∀ f o,u = some (f,o) → ∃ b,w.heap.size ≤ b ∧ Pend P w' s' f o z b:=by
  unfold appendA at h
  cases he:elt P t with
  | none => simp [he] at h
  | some esb =>
    obtain ⟨e,sz,by_⟩:=esb
    cases hr:rowOf b with
    | none => simp [he,hr] at h
    | some es2 =>
      rw [he,hr] at h
      simp only at h
      obtain ⟨hsz2,h⟩:=h
      obtain ⟨ad,cap,news,rfl,hnl,hn1,hncell,hnrep,_,_⟩:=row_cells hr hy
      have hfl2:=flat_length hsz2
      have hone2:∀ c ∈ flat es2,c.one = true:=by
        cases b with
        | sl es' t' =>
          simp only [rowOf,Option.some.injEq] at hr
          subst hr
          obtain ⟨_,_,_,_,_,_,_,_,h1,_⟩:=hy.sl_inv.sl_inv
          exact h1
        | nil => simp only [rowOf,Option.some.injEq] at hr;subst hr;simp
        | _ => simp [rowOf] at hr
      have hnc':∀ j u,news[j]? = some u → ∃ b o,ad = some ⟨b,o,none⟩ ∧ w.cell? ⟨b,o + j,none⟩ = some u:=fun j u hu => by
        obtain ⟨b,o,h1,h2,_⟩:=hncell j u hu
        exact ⟨b,o,h1,h2⟩
      cases a with
      | nil =>
        simp only at h
        obtain ⟨hb1,hb2,hK⟩:=h
        obtain ⟨ax,rfl⟩:=hx.nil_inv
        rcases run_app (ty:=ty) (n:=0) (xs:=[]) he (.inr ⟨ax,rfl,rfl,rfl⟩) (hnl.trans hfl2) hnc' hn1 (by omega) (by simpa using hb1) with ⟨h0,hrun⟩ | ⟨hpos,v',w',hrun,hown,f1,f2,f3,f4,hwhere⟩
        · obtain rfl:=List.eq_nil_of_length_eq_zero h0
          rcases hK with hK | ⟨hK0,_⟩
          · exact ⟨.sl [] none,none,_,w,s,hrun,hs,Evolve.refl hs.wf,rfl,.pure _ _ (PR.nil_sl ax),hK,by simp⟩
          · exact ⟨.nil,none,_,w,s,hrun,hs,Evolve.refl hs.wf,rfl,.pure _ _ (.nil ax),hK0 rfl,by simp⟩
        · have hne:es2 ≠ []:=fun h => by rw [h] at hpos;simp at hpos
          rcases hwhere with ⟨_,⟨_,_,hno,hle,_⟩,_⟩ | ⟨hat,hold⟩
          · simp only [Value.slice.injEq] at hno
            omega
          · have hN:∀ b j,(b = w.heap.size ∧ j < es2.length * sz) → w.heap.size ≤ b ∧ b < w'.heap.size:=fun b j hb => by
              have:=(hown.lt _ hat).2
              omega
            have hE0:=Evolve.grow hs.wf f1 f2 f3 f4 hold (fun b j => b = w.heap.size ∧ j < es2.length * sz) hN
            have hS0:=hs.grow f1 f2 f3 f4 hold (fun b j => b = w.heap.size ∧ j < es2.length * sz) hN
            have hpr:=pr_of_own (K:=fun b j => s.K b j ∨ (b = w.heap.size ∧ j < es2.length * sz)) hown (by omega) (by omega) hsz2 hone2 (fun b j hb hj => by rw [hat] at hb;simp only [Option.some.injEq] at hb;exact .inr ⟨hb.symm,by simpa using hj⟩)
              (fun j c u hc hu => (hnrep j c u hc (by simpa using hu)).keeps hE0.keeps)
            have hnm:¬ s.mine w.heap.size:=fun hm => by have:=hs.mine_lt hm;omega
            have hnf:¬ s.foreign w.heap.size:=fun hf => by have:=(hs.fgn _ hf).1;omega
            rcases hK with hK | ⟨_,hK1⟩
            · exact ⟨.sl es2 none,none,v',w',_,hrun,hS0,hE0,rfl,.pure _ _ hpr,hK,by simp⟩
            refine ⟨.sl es2 none,some (fun i => .sl es2 (some i),.tok e sz es2.length),v',w',_,hrun,hS0,hE0,rfl,.pure _ _ hpr,hK1 hne,fun f o ho => ?_⟩
            simp only [Option.some.injEq,Prod.mk.injEq] at ho
            obtain ⟨rfl,rfl⟩:=ho
            refine ⟨w.heap.size,Nat.le_refl _,pend_of_own (s:={ s with K:=fun b j => s.K b j ∨ (b = w.heap.size ∧ j < es2.length * sz) }) (by simpa using hown) hat (hown.lt _ hat).2 hnm hnf (fun y hy hk => ?_) hpr hsz2 (show s.late _ from hs.late (Nat.le_refl _))⟩
            rcases hk with hk | ⟨_,hk⟩
            · have:=hs.kin _ _ hk
              omega
            · omega
      | _ => exact h.elim
theorem stepA_congr {ρ ρ':Operand → V} {op:Op} {K:V → Option ((Nat → V) × O) → Prop} (he:∀ x ∈ op.operands,ρ x = ρ' x) (h:stepA P gl ρ st op K):stepA P gl ρ' st op K:=by
  have hl:∀ (l:List Operand),(∀ x ∈ l,ρ x = ρ' x) → l.map ρ = l.map ρ':=fun l hl => List.map_congr_left hl
  have gen:(if calm op = true then step1 P gl ρ st op (fun v _ => K v none) else False) → if calm op = true then step1 P gl ρ' st op (fun v _ => K v none) else False:=fun h => by
    split at h
    · rw [if_pos (by assumption)];exact step1_congr he h
    · exact h.elim
  unfold stepA at h ⊢
  cases op
  case alloc => exact h
  case buildSlice t len parts =>
    simp only at h ⊢
    have:(parts.toList.map fun p => (p.1,ρ p.2)) = parts.toList.map fun p => (p.1,ρ' p.2):=List.map_congr_left fun p hp => by rw [he p.2 (by simp only [Op.operands,List.mem_toArray,List.mem_map];exact ⟨p,hp,rfl⟩)]
    rw [← this];exact h
  case call c =>
    simp only at h ⊢
    have hargs:∀ x ∈ c.args.toList,ρ x = ρ' x:=fun x hx => he x (by simp only [Op.operands,Call.operands,Array.mem_append];exact .inr (by simpa using hx))
    cases hcal:c.callee with
    | value f =>
      rw [hcal] at h
      simp only at h ⊢
      rw [← he f (by simp [Op.operands,Call.operands,hcal]),← hl _ hargs]
      exact h
    | invoke r m => rw [hcal] at h;exact gen h
    | builtin b =>
      rw [hcal] at h
      cases b <;> first
        | exact gen h
        | (simp only at h ⊢
           split at h
           · rename_i x y t u h1 h2
             rw [h1] at hargs
             rw [← hargs x (by simp),← hargs y (by simp)]
             exact h
           · exact h.elim)
  all_goals exact gen h
def OpA (P:Program) (gl:Nat → V) (r:Option Nat) (o:Oper) (e:Env) (st:List O) (v:V) (u:Option ((Nat → V) × O)):Prop :=
  ∀ (n0:Nat) (w:World) (s:S) (a:Act) (next:Act → World → Prop) (Q:Exit → Act → World → Prop),n0 ≤ w.heap.size → s.st = st → Sim P gl w s → ActOK w s n0 e a →
    (∀ x w' s',Sim P gl w' s' → Evolve w s w' s' → s'.st = st → Rep w' s' v x → (∀ f o,u = some (f,o) → ∃ b,w.heap.size ≤ b ∧ Pend P w' s' f o x b) → next (a.put o.dst x) w') → o.wpIn (Fr r) 0 P a w next Q
theorem stepA_sound {o:Oper} {K:V → Option ((Nat → V) × O) → Prop} (h:stepA P gl (e.ev gl) st o.op K):∃ v u,K v u ∧ OpA P gl r o e st v u:=by
  have vrun:∀ {w w':World} {m:Sem Value} {z:Value},m.run P w = .ok z w' → (do pure (Next.value (← m)):Sem Next).run P w = .ok (.value z) w':=fun {w w' m z} hm => by
    rw [Sem.run_bind,hm];rfl
  have gen:(if calm o.op = true then step1 P gl (e.ev gl) st o.op (fun v _ => K v none) else False) → ∃ v u,K v u ∧ OpA P gl r o e st v u:=fun h => by
    split at h
    · rename_i hc
      obtain ⟨v,h1,h2⟩:=step1_det hc h
      refine ⟨v,none,h2,fun n0 w s a next Q hn hst hs ha hk => step1_sound (h1 (fun v' st' => v' = v ∧ st' = st) ⟨rfl,rfl⟩) n0 w s a next Q hn hst hs ha fun v' x w' s' hs' hE hr hK => ?_⟩
      obtain ⟨rfl,hst'⟩:=hK
      exact hk x w' s' hs' hE hst' hr (by simp)
    · exact h.elim
  have run:∀ (v:V) (u:Option ((Nat → V) × O)),(∀ c,o.op ≠ .defer c) → (∀ (w:World) (s:S) (a:Act),s.st = st → Sim P gl w s → (∀ x,Rep w s (e.ev gl x) (a.eval x)) → ∃ x w' s',(execOp a.eval o).run P w = .ok (.value x) w' ∧ Sim P gl w' s' ∧ Evolve w s w' s' ∧ s'.st = st ∧ Rep w' s' v x ∧
      ∀ f o,u = some (f,o) → ∃ b,w.heap.size ≤ b ∧ Pend P w' s' f o x b) → OpA P gl r o e st v u:=fun v u hd h n0 w s a next Q hn hst hs ha hk => by
    obtain ⟨x,w',s',hrun,h1,h2,h3,h4,h5⟩:=h w s a hst hs (fun x => ha.ev hs x)
    refine ⟨fun _ _ => trivial, ?_⟩
    rw [Oper.semAt_eq _ _ _ hd,hrun]
    exact hk x w' s' h1 h2 h3 h4 h5
  unfold stepA at h
  cases ho:o.op <;> rw [ho] at h
  case alloc t =>
    simp only at h
    cases hz:zro P t with
    | none => simp [hz] at h
    | some z =>
      rw [hz] at h
      refine ⟨_,_,h,run _ _ (fun c => by rw [ho];simp) fun w s a hst hs hr => ?_⟩
      obtain ⟨i,zv,hi,hzv,hlen,hrep⟩:=zro_rep (w:=w) (s:=s) hz
      obtain ⟨hS,hE,hPd⟩:=pend_box hs t hlen hrep
      refine ⟨.pointer (some ⟨w.heap.size,0,none⟩),_,_, ?_,hS,hE,hst,.undef _,fun f o hf => ?_⟩
      · simp only [execOp,ho]
        refine vrun ?_
        simp [Instr.alloc,newVar,newRow,zeroValue,typeInfo,hi,hzv]
      · simp only [Option.some.injEq,Prod.mk.injEq] at hf
        obtain ⟨rfl,rfl⟩:=hf
        exact ⟨_,Nat.le_refl _,hPd⟩
  case buildSlice t len parts =>
    simp only at h
    have h0:∃ v u,K v u ∧ buildSliceA P t len (parts.toList.map fun p => (p.1,e.ev gl p.2)) (fun v' u' => v' = v ∧ u' = u):=by
      obtain ⟨_,h⟩:=h
      unfold buildSliceA at h ⊢
      cases he:elt P t with
      | none => simp [he] at h
      | some o =>
        obtain ⟨e,sz,by_⟩:=o
        rw [he] at h
        simp only at h ⊢
        split at h
        · exact ⟨_,_,h,by rw [if_pos (by assumption)];exact ⟨rfl,rfl⟩⟩
        · exact ⟨_,_,h.2.2.2,by rw [if_neg (by assumption)];exact ⟨h.1,h.2.1,h.2.2.1,rfl,rfl⟩⟩
    obtain ⟨v,u,hK,hA⟩:=h0
    refine ⟨v,u,hK,run _ _ (fun c => by rw [ho];simp) fun w s a hst hs hr => ?_⟩
    obtain ⟨hp1,hp2⟩:=parts_rep hr parts
    obtain ⟨v',u',z,w',s',h1,h2,h3,h4,h5,⟨rfl,rfl⟩,h7⟩:=buildSliceA_sound hs hp1 hp2 hA (fun h0 => by simpa using h.1 h0)
    exact ⟨z,w',s',by simp only [execOp,ho];exact vrun h1,h2,h3,h4.trans hst,h5,h7⟩
  case call c =>
    simp only at h
    cases hcal:c.callee with
    | value f =>
      rw [hcal] at h
      simp only at h
      cases hf:e.ev gl f <;> rw [hf] at h <;> try exact h.elim
      rename_i fn fs cs
      cases fn <;> try exact h.elim
      obtain ⟨hent,v,hcall,hK⟩:=h
      refine ⟨v,none,hK,fun n0 w s a next Q hn hst hs ha hk => call_sound ho hcal hf hent hcall n0 w s a next Q hn hst hs ha fun v' x w' s' hs' hE hr hK => ?_⟩
      obtain ⟨rfl,hst'⟩:=hK
      exact hk x w' s' hs' hE hst' hr (by simp)
    | invoke rc m => rw [hcal] at h;exact gen (by rw [ho];exact h)
    | builtin b =>
      rw [hcal] at h
      cases b <;> first
        | exact gen (by rw [ho];exact h)
        | skip
      simp only at h
      split at h
      · rename_i x y t u h1 h2
        obtain ⟨rfl,h⟩:=h
        have h0:∃ v u,K v u ∧ appendA P t (e.ev gl x) (e.ev gl y) (fun v' u' => v' = v ∧ u' = u):=by
          unfold appendA at h ⊢
          cases he:elt P t with
          | none => simp [he] at h
          | some o =>
            obtain ⟨e',sz,by_⟩:=o
            cases hr:rowOf (e.ev gl y) with
            | none => simp [he,hr] at h
            | some es2 =>
              rw [he,hr] at h
              simp only at h ⊢
              cases hx:e.ev gl x <;> rw [hx] at h <;> try exact h.2.elim
              obtain ⟨q1,q2,q3,q | ⟨q4,q5⟩⟩:=h
              · exact ⟨_,_,q,q1,q2,q3,.inl ⟨rfl,rfl⟩⟩
              by_cases hne:es2 = []
              · exact ⟨_,_,q4 hne,q1,q2,q3,.inr ⟨fun _ => ⟨rfl,rfl⟩,fun h => absurd hne h⟩⟩
              · exact ⟨_,_,q5 hne,q1,q2,q3,.inr ⟨fun h => absurd h hne,fun _ => ⟨rfl,rfl⟩⟩⟩
        obtain ⟨v,u,hK,hA⟩:=h0
        refine ⟨v,u,hK,run _ _ (fun c => by rw [ho];simp) fun w s a hst hs hr => ?_⟩
        obtain ⟨v',u',z,w',s',k1,k2,k3,k4,k5,⟨rfl,rfl⟩,k7⟩:=appendA_sound (ty:=o.type) hs (hr x) (hr y) hA
        have ea:c.args = #[x,y]:=by apply Array.ext';simpa using h1
        have et:c.argTypes = #[t,t]:=by apply Array.ext';simpa using h2
        refine ⟨z,w',s', ?_,k2,k3,k4.trans hst,k5,k7⟩
        have hrun:∃ consts,(execOp a.eval o).run P w = (builtin .append c.argTypes o.type consts (c.args.map a.eval)).run P w:=by
          simp only [execOp,ho,resolve,hcal,Sem.run_bind,Sem.run_pure,Result.andThen_ok,invoke]
          exact ⟨_,rfl⟩
        obtain ⟨_,hrun⟩:=hrun
        rw [hrun,ea,et]
        exact vrun (by simpa using k1)
      · exact h.elim
  all_goals exact gen (by rw [ho];exact h)
theorem stepA_det {ρ:Operand → V} {op:Op} {K:V → Option ((Nat → V) × O) → Prop} (h:stepA P gl ρ st op K):∃ v u,K v u ∧ ∀ K',K' v u → stepA P gl ρ st op K':=by
  have gen:(if calm op = true then step1 P gl ρ st op (fun v _ => K v none) else False) → ∃ v u,K v u ∧ ∀ K':V → Option ((Nat → V) × O) → Prop,K' v u → (if calm op = true then step1 P gl ρ st op (fun v _ => K' v none) else False):=fun h => by
    split at h
    · rename_i hc
      obtain ⟨v,h1,h2⟩:=step1_det hc h
      exact ⟨v,none,h2,fun K' hK => by rw [if_pos hc];exact h1 _ hK⟩
    · exact h.elim
  unfold stepA at h ⊢
  cases op
  case alloc t =>
    simp only at h ⊢
    cases hz:zro P t with
    | none => simp [hz] at h
    | some z => rw [hz] at h;exact ⟨_,_,h,fun _ hk => hk⟩
  case buildSlice t len parts =>
    simp only at h ⊢
    obtain ⟨h0,h⟩:=h
    unfold buildSliceA at h ⊢
    cases he:elt P t with
    | none => simp [he] at h
    | some o =>
      obtain ⟨e,sz,by_⟩:=o
      rw [he] at h
      simp only at h ⊢
      split at h
      · exact ⟨_,_,h,fun _ hk => ⟨h0,by rw [if_pos (by assumption)];exact hk⟩⟩
      · exact ⟨_,_,h.2.2.2,fun _ hk => ⟨h0,by rw [if_neg (by assumption)];exact ⟨h.1,h.2.1,h.2.2.1,hk⟩⟩⟩
  case call c =>
    simp only at h ⊢
    cases hcal:c.callee with
    | value f =>
      rw [hcal] at h
      simp only at h ⊢
      cases hf:ρ f <;> rw [hf] at h <;> try exact h.elim
      rename_i fn fs cs
      cases fn <;> try exact h.elim
      obtain ⟨hent,v,hcall,hK⟩:=h
      exact ⟨v,none,hK,fun _ hk => ⟨hent,v,hcall,hk⟩⟩
    | invoke rc m => rw [hcal] at h;exact gen h
    | builtin b =>
      rw [hcal] at h
      cases b <;> first
        | exact gen h
        | skip
      simp only at h ⊢
      split at h
      · rename_i x y t u h1 h2
        obtain ⟨rfl,h⟩:=h
        unfold appendA at h ⊢
        cases he:elt P t with
        | none => simp [he] at h
        | some o =>
          obtain ⟨e',sz,by_⟩:=o
          cases hr:rowOf (ρ y) with
          | none => simp [he,hr] at h
          | some es2 =>
            rw [he,hr] at h
            simp only at h ⊢
            cases hx:ρ x <;> rw [hx] at h <;> try exact h.2.elim
            obtain ⟨q1,q2,q3,q | ⟨q4,q5⟩⟩:=h
            · exact ⟨_,_,q,fun _ hk => ⟨trivial,q1,q2,q3,.inl hk⟩⟩
            by_cases hne:es2 = []
            · exact ⟨_,_,q4 hne,fun _ hk => ⟨trivial,q1,q2,q3,.inr ⟨fun _ => hk,fun h => absurd hne h⟩⟩⟩
            · exact ⟨_,_,q5 hne,fun _ hk => ⟨trivial,q1,q2,q3,.inr ⟨fun h => absurd h hne,fun _ => hk⟩⟩⟩
      · exact h.elim
  all_goals exact gen h
theorem stepA_full {o:Oper} {K:V → Option ((Nat → V) × O) → Prop} (h:stepA P gl (e.ev gl) st o.op K):∃ v u,K v u ∧ ∀ e':Env,(∀ x ∈ o.op.operands,e.ev gl x = e'.ev gl x) → OpA P gl r o e' st v u:=by
  obtain ⟨v,u,hK,hall⟩:=stepA_det h
  refine ⟨v,u,hK,fun e' he => ?_⟩
  obtain ⟨v',u',⟨rfl,rfl⟩,hA⟩:=stepA_sound (r:=r) (stepA_congr he (hall (fun v' u' => v' = v ∧ u' = u) ⟨rfl,rfl⟩))
  exact hA
def dstAt (ops:Array Oper) (i:Nat):Option Tmp:=(ops[i]?).bind (·.dst)
def dep (ops:Array Oper) (i j:Nat):Bool:=match ops[i]? with
  | some o => o.after.toList.any fun e => Region.binds .any e && e.on == j
  | none => false
def anyOK (ops:Array Oper) (m:Nat):Bool :=
  decide (m ≤ ops.size) &&
  (List.range ops.size).all (fun i => match ops[i]? with | some o => o.after.toList.all (fun e => !(Region.binds .any e) || decide (e.on < i)) | none => true) &&
  (List.range m).all (fun i => match ops[i]? with | some o => (o.looksAt ops).all (fun t => (List.range m).all (fun j => !(dstAt ops j == some t) || dep ops i j)) | none => true) &&
  (List.range m).all (fun i => (List.range i).all (fun j => dstAt ops i == none || !(dstAt ops i == dstAt ops j))) &&
  (decide (m = ops.size) || ((List.range m).all (fun j => (List.range (m + 1)).any (fun j' => decide (j < j') && dep ops j' j)) && (List.range ops.size).all (fun i => decide (i ≤ m) || dep ops i (i - 1))))
def awA (P:Program) (gl:Nat → V) (ops:Array Oper):List Oper → Env → List O → List Up → (Env → List O → Prop) → Prop
  | [],e,st,ups,K => K (applyUps ups e st).1 (applyUps ups e st).2
  | o :: rest,e,st,ups,K => e.fits o.dst ∧ match o.guard with
    | none => stepA P gl (e.ev gl) st o.op fun v u => match u,o.dst with
      | none,_ => awA P gl ops rest (e.put o.dst v) st ups K
      | some (f,ob),some d => awA P gl ops rest (e.put o.dst v) st (ups ++ [(d,f,ob)]) K
      | some _,none => False
    | some (j,want) => match (ops[j]?).bind (·.dst) with
      | none => False
      | some d => match e.get d with
        | .bool b => if b = want then stepA P gl (e.ev gl) st o.op fun v u => match u,o.dst with
            | none,_ => awA P gl ops rest (e.put o.dst v) st ups K
            | some (f,ob),some d => awA P gl ops rest (e.put o.dst v) st (ups ++ [(d,f,ob)]) K
            | some _,none => False
          else awA P gl ops rest (e.put o.dst (.tuple [])) st ups K
        | .tuple [] => awA P gl ops rest (e.put o.dst (.tuple [])) st ups K
        | _ => False
def OpB (P:Program) (gl:Nat → V) (r:Option Nat) (ops:Array Oper) (o:Oper) (e:Env) (st:List O) (v:V) (u:Option ((Nat → V) × O)):Prop :=
  ∀ e':Env,(∀ t ∈ o.looksAt ops,e'.get t = e.get t) → ∀ (n0:Nat) (w:World) (s:S) (a:Act) (next:Act → World → Prop) (Q:Exit → Act → World → Prop),n0 ≤ w.heap.size → s.st = st → Sim P gl w s → ActOK w s n0 e' a →
    (∀ x w' s',Sim P gl w' s' → Evolve w s w' s' → s'.st = st → Rep w' s' v x → (∀ f o,u = some (f,o) → ∃ b,w.heap.size ≤ b ∧ Pend P w' s' f o x b) → next (a.put o.dst x) w') →
    if Region.wanted o (yielded ops a.tmps) = true then o.wpIn (Fr r) 0 P a w next Q else (∀ f,o.about P w a.eval = some f → (Fr r).fn f) ∧ next (a.put o.dst undef) w
def upOf (d:Option Tmp) (u:Option ((Nat → V) × O)):List Up:=match u,d with
  | some (f,ob),some d => [(d,f,ob)]
  | _,_ => []
def upsOf:List Oper → List (V × Option ((Nat → V) × O)) → List Up
  | o :: l,(_,u) :: res => upOf o.dst u ++ upsOf l res
  | _,_ => []
def envOf:List Oper → List (V × Option ((Nat → V) × O)) → Env → Env
  | o :: l,(v,_) :: res,e => envOf l res (e.put o.dst v)
  | _,_,e => e
def RunA (P:Program) (gl:Nat → V) (r:Option Nat) (ops:Array Oper) (st:List O):List Oper → List (V × Option ((Nat → V) × O)) → Env → Prop
  | [],[],_ => True
  | o :: l,(v,u) :: res,e => e.fits o.dst ∧ (u.isSome = true → o.dst.isSome = true) ∧ OpB P gl r ops o e st v u ∧ RunA P gl r ops st l res (e.put o.dst v)
  | _,_,_ => False
theorem ev_of_get {o:Oper} {e':Env} {ops:Array Oper} (h:∀ t ∈ o.looksAt ops,e'.get t = e.get t):∀ x ∈ o.op.operands,e.ev gl x = e'.ev gl x:=fun x hx => by
  cases x with
  | tmp t => exact (h t (List.mem_append_left _ (List.mem_filterMap.2 ⟨.tmp t,by simpa using hx,rfl⟩))).symm
  | _ => rfl
theorem awA_run {ops:Array Oper} {K:Env → List O → Prop}:∀ (l:List Oper) (e:Env) (ups:List Up),awA P gl ops l e st ups K →
    ∃ res,RunA P gl r ops st l res e ∧ K (applyUps (ups ++ upsOf l res) (envOf l res e) st).1 (applyUps (ups ++ upsOf l res) (envOf l res e) st).2:=by
  intro l
  induction l with
  | nil => intro e ups h;exact ⟨[],trivial,by simpa [upsOf,upOf,envOf,awA] using h⟩
  | cons o l ih =>
    intro e ups h
    unfold awA at h
    obtain ⟨hfit,h⟩:=h
    have yes:∀ (hw:∀ (e':Env) (w:World) (s:S) (n0:Nat) (a:Act),(∀ t ∈ o.looksAt ops,e'.get t = e.get t) → ActOK w s n0 e' a → Region.wanted o (yielded ops a.tmps) = true),(stepA P gl (e.ev gl) st o.op fun v u => match u,o.dst with
      | none,_ => awA P gl ops l (e.put o.dst v) st ups K
      | some (f,ob),some d => awA P gl ops l (e.put o.dst v) st (ups ++ [(d,f,ob)]) K
      | some _,none => False) → ∃ res,RunA P gl r ops st (o :: l) res e ∧ K (applyUps (ups ++ upsOf (o :: l) res) (envOf (o :: l) res e) st).1 (applyUps (ups ++ upsOf (o :: l) res) (envOf (o :: l) res e) st).2:=fun hw h => by
      obtain ⟨v,u,hK,hA⟩:=stepA_full (r:=r) h
      have hB:OpB P gl r ops o e st v u:=fun e' he n0 w s a next Q hn hst hs ha hk => by
        rw [if_pos (hw e' w s n0 a he ha)]
        exact hA e' (ev_of_get he) n0 w s a next Q hn hst hs ha hk
      cases u with
      | none =>
        obtain ⟨res,h1,h2⟩:=ih _ _ hK
        exact ⟨(v,none) :: res,⟨hfit,by simp,hB,h1⟩,by simpa [upsOf,upOf,envOf] using h2⟩
      | some fo =>
        obtain ⟨f,ob⟩:=fo
        cases hd:o.dst with
        | none => rw [hd] at hK;exact hK.elim
        | some d =>
          rw [hd] at hK
          obtain ⟨res,h1,h2⟩:=ih _ _ hK
          rw [← hd] at h1
          exact ⟨(v,some (f,ob)) :: res,⟨hfit,by simp [hd],hB,h1⟩,by simpa [upsOf,upOf,envOf,hd] using h2⟩
    cases hg:o.guard with
    | none =>
      rw [hg] at h
      exact yes (fun _ _ _ _ _ _ _ => by simp [Region.wanted,hg]) h
    | some jw =>
      obtain ⟨j,want⟩:=jw
      rw [hg] at h
      simp only at h
      cases hd:(ops[j]?).bind (·.dst) with
      | none => rw [hd] at h;exact h.elim
      | some d =>
        rw [hd] at h
        simp only at h
        have hlk:d ∈ o.looksAt ops:=List.mem_append_right _ (by simp [hg,hd])
        cases hv:e.get d <;> rw [hv] at h <;> try exact h.elim
        case tuple cs =>
          cases cs with
          | cons c cs => exact h.elim
          | nil =>
            obtain ⟨res,h1,h2⟩:=ih _ _ h
            refine ⟨(.tuple [],none) :: res,⟨hfit,by simp,fun e' he n0 w s a next Q hn hst hs ha hk => ?_,h1⟩,by simpa [upsOf,upOf,envOf] using h2⟩
            rw [if_neg (by simp [Region.wanted,hg,yielded_hole ha hd ((he d hlk).trans hv)])]
            exact ⟨fun _ _ => trivial,hk undef w s hs (Evolve.refl hs.wf) hst (rep_hole _ _) (by simp)⟩
        rename_i b
        have hw:∀ (e':Env) (w:World) (s:S) (n0:Nat) (a:Act),(∀ t ∈ o.looksAt ops,e'.get t = e.get t) → ActOK w s n0 e' a → Region.wanted o (yielded ops a.tmps) = (b == want):=fun e' w s n0 a he ha => by
          have hy:=yielded_of (ops:=ops) (j:=j) ha hd ((he d hlk).trans hv)
          simp only [Region.wanted,hg,hy]
          cases b <;> cases want <;> rfl
        simp only at h
        split at h
        · rename_i hbw
          exact yes (fun e' w s n0 a he ha => by rw [hw e' w s n0 a he ha];simpa using hbw) h
        · rename_i hbw
          obtain ⟨res,h1,h2⟩:=ih _ _ h
          refine ⟨(.tuple [],none) :: res,⟨hfit,by simp,fun e' he n0 w s a next Q hn hst hs ha hk => ?_,h1⟩,by simpa [upsOf,upOf,envOf] using h2⟩
          rw [if_neg (by rw [hw e' w s n0 a he ha];simpa using hbw)]
          exact ⟨fun _ _ => trivial,hk undef w s hs (Evolve.refl hs.wf) hst (rep_hole _ _) (by simp)⟩
end
end Go.Duo

namespace Go.Duo
open Go
section
variable {P:Program} {gl:Nat → V} {r:Option Nat} {e:Env} {st:List O} {w w':World} {s s':S} {ops:Array Oper} {m:Nat}
theorem anyOK_spec (h:anyOK ops m = true):m ≤ ops.size ∧ (∀ i j,dep ops i j = true → j < i) ∧
    (∀ (i j:Nat) (o:Oper) (t:Tmp),i < m → j < m → ops[i]? = some o → t ∈ o.looksAt ops → dstAt ops j = some t → dep ops i j = true) ∧
    (∀ (i j:Nat) (t:Tmp),i < m → j < m → dstAt ops i = some t → dstAt ops j = some t → i = j) ∧
    (m < ops.size → (∀ j,j < m → ∃ j',j < j' ∧ j' ≤ m ∧ dep ops j' j = true) ∧ ∀ i,i < ops.size → m < i → dep ops i (i - 1) = true):=by
  simp only [anyOK,Bool.and_eq_true,decide_eq_true_eq,List.all_eq_true,List.mem_range,Bool.or_eq_true,List.any_eq_true] at h
  obtain ⟨⟨⟨⟨h1,h2⟩,h3⟩,h4⟩,h5⟩:=h
  have key:∀ (i j:Nat) (t:Tmp),i < m → j < i → dstAt ops i = some t → dstAt ops j = some t → False:=fun i j t hi hj h6 h7 => by
    have:=h4 i hi j hj
    simp [h6,h7] at this
  refine ⟨h1,fun i j hd => ?_,fun i j o t hi hj ho ht hdj => ?_,fun i j t hi hj h6 h7 => ?_,fun hlt => ?_⟩
  · unfold dep at hd
    cases ho:ops[i]? with
    | none => simp [ho] at hd
    | some o =>
      rw [ho] at hd
      simp only [List.any_eq_true,Bool.and_eq_true,beq_iff_eq] at hd
      obtain ⟨ed,hmem,hb,rfl⟩:=hd
      have:=h2 i (Array.getElem?_eq_some_iff.1 ho).1
      rw [ho] at this
      have:=List.all_eq_true.1 this ed hmem
      simpa [hb] using this
  · have:=h3 i hi
    rw [ho] at this
    have:=List.all_eq_true.1 this t ht
    have:=List.all_eq_true.1 this j (by simpa using hj)
    simpa [hdj] using this
  · rcases Nat.lt_trichotomy i j with h | h | h
    · exact (key j i t hj h h7 h6).elim
    · exact h
    · exact (key i j t hi h h6 h7).elim
  · rcases h5 with h5 | ⟨h5,h6⟩
    · omega
    · refine ⟨fun j hj => ?_,fun i hi hm => ?_⟩
      · obtain ⟨j',h7,h8,h9⟩:=h5 j hj
        exact ⟨j',h8,by omega,h9⟩
      · rcases h6 i hi with h | h
        · omega
        · exact h
theorem dep_mem {i j:Nat} {o:Oper} (ho:ops[i]? = some o):dep ops i j = true ↔ ∃ ed ∈ o.after,Region.binds .any ed = true ∧ ed.on = j:=by
  unfold dep
  rw [ho]
  simp only [List.any_eq_true,Bool.and_eq_true,beq_iff_eq,Array.mem_toList_iff]
def Closed (ops:Array Oper) (L:Array Bool):Prop:=L.size = ops.size ∧ ∀ i j,L.getD i false = true → dep ops i j = true → L.getD j false = true
theorem getD_set {L:Array Bool} {i j:Nat} (hi:i < L.size):(L.setIfInBounds i true).getD j false = if i = j then true else L.getD j false:=by
  simp only [Array.getD_eq_getD_getElem?]
  by_cases h:i = j
  · subst h;simp [hi]
  · rw [Array.getElem?_setIfInBounds_ne h,if_neg h]
theorem ready_spec {L:Array Bool} (hs:L.size = ops.size) {i:Nat}:i ∈ Region.ready .any ops L ↔ i < ops.size ∧ L.getD i false = false ∧ ∀ j,dep ops i j = true → L.getD j false = true:=by
  rw [mem_ready]
  constructor
  · rintro ⟨h1,o,ho,h2⟩
    have hi:=(Array.getElem?_eq_some_iff.1 ho).1
    refine ⟨hi, ?_,fun j hd => ?_⟩
    · simp only [Array.getD_eq_getD_getElem?] at h1 ⊢
      rw [Array.getElem?_eq_getElem (by omega)] at h1 ⊢
      exact h1
    · obtain ⟨ed,h3,h4,rfl⟩:=(dep_mem ho).1 hd
      exact h2 ed h3 h4
  · rintro ⟨hi,h1,h2⟩
    refine ⟨?_,ops[i],Array.getElem?_eq_getElem hi,fun ed h3 h4 => h2 _ ((dep_mem (Array.getElem?_eq_getElem hi)).2 ⟨ed,h3,h4,rfl⟩)⟩
    simp only [Array.getD_eq_getD_getElem?] at h1 ⊢
    rw [Array.getElem?_eq_getElem (by omega)] at h1 ⊢
    exact h1
theorem Closed.set {L:Array Bool} {i:Nat} (h:Closed ops L) (hi:i ∈ Region.ready .any ops L):Closed ops (L.setIfInBounds i true):=by
  obtain ⟨h1,h2⟩:=h
  obtain ⟨h3,_,h5⟩:=(ready_spec h1).1 hi
  refine ⟨by simpa using h1,fun a b ha hd => ?_⟩
  rw [getD_set (by omega)] at ha ⊢
  split
  · rfl
  · split at ha
    · rename_i _ he;subst he;exact h5 b hd
    · exact h2 a b ha hd
theorem count_set {L:Array Bool} {i:Nat} (hi:i < L.size) (h:L.getD i false = false):(L.setIfInBounds i true).count false + 1 = L.count false:=by
  have h':L[i] = false:=by
    simp only [Array.getD_eq_getD_getElem?] at h
    rw [Array.getElem?_eq_getElem hi] at h
    simpa using h
  have hpos:0 < L.count false:=by
    rw [Array.count_pos_iff]
    exact h' ▸ Array.getElem_mem hi
  have:L.setIfInBounds i true = L.set i true hi:=by simp [Array.setIfInBounds,hi]
  rw [this,Array.count_set]
  simp [h']
  omega
theorem chain {Q:Exit → Act → World → Prop} (hc:∀ i,i < ops.size → m < i → dep ops i (i - 1) = true) (hdown:∀ i j,dep ops i j = true → j < i):∀ (c k:Nat),k + c = ops.size → m ≤ k → ∀ (fuel:Nat) (L:Array Bool) (a:Act) (w:World),L.size = ops.size →
    (∀ i,i < ops.size → (L.getD i false = true ↔ i < k)) → L.count false ≤ fuel → wpOpsIn (Fr r) 0 P ops Q (List.range' k c) a w → wpAnyIn (Fr r) 0 P .any ops Q fuel L a w:=by
  intro c
  induction c with
  | zero =>
    intro k hk _ fuel L a w hs hL _ h
    refine wpAnyIn_done ?_ h fuel
    apply List.eq_nil_iff_forall_not_mem.2
    intro i hi
    obtain ⟨h1,h2,_⟩:=(ready_spec hs).1 hi
    have:=(hL i h1).2 (by omega)
    rw [h2] at this
    cases this
  | succ c ih =>
    intro k hk hm fuel L a w hs hL hf h
    have hklt:k < ops.size:=by omega
    have hkf:L.getD k false = false:=by
      cases hx:L.getD k false with
      | false => rfl
      | true => have:=(hL k hklt).1 hx;omega
    have hcs:=count_set (by omega) hkf
    have hkr:k ∈ Region.ready .any ops L:=(ready_spec hs).2 ⟨hklt,hkf,fun j hd => (hL j (by have:=hdown k j hd;omega)).2 (hdown k j hd)⟩
    cases fuel with
    | zero => omega
    | succ fuel =>
      refine ⟨fun h0 => by rw [h0] at hkr;simp at hkr,fun i hi => ?_⟩
      obtain ⟨h1,h2,h3⟩:=(ready_spec hs).1 hi
      have hik:i = k:=by
        apply Classical.byContradiction
        intro hne
        have hgt:k < i:=by
          apply Classical.byContradiction
          intro hle
          have:=(hL i h1).2 (by omega)
          rw [h2] at this
          cases this
        have:=h3 _ (hc i h1 (by omega))
        have:=(hL (i - 1) (by omega)).1 this
        omega
      subst hik
      rw [List.range'_succ,wpOpsIn_cons] at h
      refine wpOpIn_mono (fun a' w' h' => ih (i + 1) (by omega) (by omega) fuel _ a' w' (by simpa using hs) (fun j hj => ?_) (by omega) h') h
      rw [getD_set (by omega)]
      split
      · simp;omega
      · rw [hL j hj];omega
theorem envOf_n:∀ (l:List Oper) (res:List (V × Option ((Nat → V) × O))) (e:Env),(envOf l res e).n = e.n:=by
  intro l
  induction l with
  | nil => intro res e;cases res <;> rfl
  | cons o l ih =>
    intro res e
    cases res with
    | nil => rfl
    | cons vu res =>
      obtain ⟨v,u⟩:=vu
      rw [envOf,ih]
      cases o.dst <;> rfl
theorem put_get {d:Option Tmp} {v:V} {t:Tmp}:(e.put d v).get t = if d = some t then v else e.get t:=by
  cases d with
  | none => simp [Env.put]
  | some d => simp only [Env.put,Env.get,getM,Option.some.injEq]
theorem envOf_other:∀ (l:List Oper) (res:List (V × Option ((Nat → V) × O))) (e:Env) (t:Tmp),(∀ (i:Nat) (o:Oper),l[i]? = some o → o.dst ≠ some t) → (envOf l res e).get t = e.get t:=by
  intro l
  induction l with
  | nil => intro res e t _;cases res <;> rfl
  | cons o l ih =>
    intro res e t h
    cases res with
    | nil => rfl
    | cons vu res =>
      obtain ⟨v,u⟩:=vu
      rw [envOf,ih _ _ _ (fun i o' ho => h (i + 1) o' (by simpa using ho)),put_get,if_neg (h 0 o rfl)]
theorem envOf_at:∀ (l:List Oper) (res:List (V × Option ((Nat → V) × O))) (e:Env) (t:Tmp) (j:Nat) (o:Oper) (v:V) (u:Option ((Nat → V) × O)),l[j]? = some o → res[j]? = some (v,u) → o.dst = some t →
    (∀ (i:Nat) (o:Oper),j < i → l[i]? = some o → o.dst ≠ some t) → (envOf l res e).get t = v:=by
  intro l
  induction l with
  | nil => intro res e t j o v u h;simp at h
  | cons o l ih =>
    intro res e t j o' v u h1 h2 h3 h4
    cases res with
    | nil => simp at h2
    | cons vu res =>
      obtain ⟨v',u'⟩:=vu
      rw [envOf]
      cases j with
      | zero =>
        simp only [List.getElem?_cons_zero,Option.some.injEq,Prod.mk.injEq] at h1 h2
        obtain ⟨rfl,rfl⟩:=h2
        subst h1
        rw [envOf_other _ _ _ _ (fun i o'' ho => h4 (i + 1) o'' (by omega) (by simpa using ho)),put_get,if_pos h3]
      | succ j => exact ih res _ t j o' v u (by simpa using h1) (by simpa using h2) h3 (fun i o'' hi ho => h4 (i + 1) o'' (by omega) (by simpa using ho))
theorem runA_at:∀ (l:List Oper) (res:List (V × Option ((Nat → V) × O))) (e:Env),RunA P gl r ops st l res e → l.length = res.length ∧ ∀ (i:Nat) (o:Oper),l[i]? = some o →
    ∃ v u,res[i]? = some (v,u) ∧ (envOf (l.take i) (res.take i) e).fits o.dst ∧ (u.isSome = true → o.dst.isSome = true) ∧ OpB P gl r ops o (envOf (l.take i) (res.take i) e) st v u:=by
  intro l
  induction l with
  | nil => intro res e h;cases res with
    | nil => exact ⟨rfl,by simp⟩
    | cons => exact h.elim
  | cons o l ih =>
    intro res e h
    cases res with
    | nil => exact h.elim
    | cons vu res =>
      obtain ⟨v,u⟩:=vu
      obtain ⟨h1,h2,h3,h4⟩:=h
      obtain ⟨hl,hr⟩:=ih res _ h4
      refine ⟨by simp [hl],fun i o' ho => ?_⟩
      cases i with
      | zero =>
        simp only [List.getElem?_cons_zero,Option.some.injEq] at ho
        subst ho
        exact ⟨v,u,rfl,h1,h2,h3⟩
      | succ i =>
        obtain ⟨v',u',q1,q2,q3,q4⟩:=hr i o' (by simpa using ho)
        exact ⟨v',u',by simpa using q1,by simpa [envOf] using q2,q3,by simpa [envOf] using q4⟩
theorem getM_map (f:Nat → V):∀ (l:List Nat) (t:Nat),getM (l.map fun t => (t,f t)) t = if t ∈ l then f t else .undef:=by
  intro l
  induction l with
  | nil => intro t;rfl
  | cons a l ih =>
    intro t
    simp only [List.map_cons,getM,ih,List.mem_cons]
    by_cases h:a = t
    · subst h;simp
    · simp [h,Ne.symm h]
theorem ups_blocks {w0:World} {a:Act} {B:Nat → Nat}:∀ (l:List Oper) (res:List (V × Option ((Nat → V) × O))) (k:Nat),
    (∀ (j:Nat) (o:Oper) (v:V) (f:Nat → V) (ob:O) (d:Tmp),l[j]? = some o → res[j]? = some (v,some (f,ob)) → o.dst = some d → w0.heap.size ≤ B (k + j) ∧ Pend P w s f ob (a.tmps.getD d undef) (B (k + j))) →
    (∀ (j j':Nat) (v v':V) (fo fo':(Nat → V) × O),res[j]? = some (v,some fo) → res[j']? = some (v',some fo') → B (k + j) = B (k + j') → j = j') →
    ∃ bs:List Nat,(upsOf l res).length = bs.length ∧ bs.Nodup ∧ (∀ b ∈ bs,∃ j v fo,res[j]? = some (v,some fo) ∧ b = B (k + j)) ∧
      ∀ (i:Nat) (u:Up) (b:Nat),(upsOf l res)[i]? = some u → bs[i]? = some b → w0.heap.size ≤ b ∧ Pend P w s u.2.1 u.2.2 (a.tmps.getD u.1 undef) b:=by
  intro l
  induction l with
  | nil => intro res k _ _;exact ⟨[],by cases res <;> rfl,by simp,by simp,fun i u b h => by cases res <;> simp [upsOf] at h⟩
  | cons o l ih =>
    intro res k h1 h2
    cases res with
    | nil => exact ⟨[],rfl,by simp,by simp,fun i u b h => by simp [upsOf] at h⟩
    | cons vu res =>
      obtain ⟨v,u⟩:=vu
      obtain ⟨bs,q1,q2,q3,q4⟩:=ih res (k + 1) (fun j o' v' f ob d ho hr hd => by have:=h1 (j + 1) o' v' f ob d (by simpa using ho) (by simpa using hr) hd;rw [show k + 1 + j = k + (j + 1) by omega];exact this)
        (fun j j' v1 v2 f1 f2 hr hr' he => by have:=h2 (j + 1) (j' + 1) v1 v2 f1 f2 (by simpa using hr) (by simpa using hr') (by rw [show k + (j + 1) = k + 1 + j by omega,show k + (j' + 1) = k + 1 + j' by omega];exact he);omega)
      have q3':∀ b ∈ bs,∃ j v' fo,((v,u) :: res)[j]? = some (v',some fo) ∧ b = B (k + j) ∧ 0 < j:=fun b hb => by
        obtain ⟨j,v',fo,h3,rfl⟩:=q3 b hb
        exact ⟨j + 1,v',fo,by simpa using h3,by congr 1;omega,by omega⟩
      have simple:upOf o.dst u = [] → ∃ bs:List Nat,(upsOf (o :: l) ((v,u) :: res)).length = bs.length ∧ bs.Nodup ∧ (∀ b ∈ bs,∃ j v' fo,((v,u) :: res)[j]? = some (v',some fo) ∧ b = B (k + j)) ∧
          ∀ (i:Nat) (u':Up) (b:Nat),(upsOf (o :: l) ((v,u) :: res))[i]? = some u' → bs[i]? = some b → w0.heap.size ≤ b ∧ Pend P w s u'.2.1 u'.2.2 (a.tmps.getD u'.1 undef) b:=fun he => by
        have hE:upsOf (o :: l) ((v,u) :: res) = upsOf l res:=by rw [upsOf,he];rfl
        exact ⟨bs,by rw [hE];exact q1,q2,fun b hb => by obtain ⟨j,v',fo,h3,h4,_⟩:=q3' b hb;exact ⟨j,v',fo,h3,h4⟩,fun i u' b hi hb => q4 i u' b (by rw [hE] at hi;exact hi) hb⟩
      cases hu:u with
      | none => rw [hu] at simple;exact simple rfl
      | some fo =>
        obtain ⟨f,ob⟩:=fo
        cases hd:o.dst with
        | none => rw [hu,hd] at simple;exact simple rfl
        | some d =>
          rw [hu] at q3'
          obtain ⟨p1,p2⟩:=h1 0 o v f ob d rfl (by first | rfl | (rw [hu];rfl)) hd
          refine ⟨B k :: bs,by simp [upsOf,upOf,hd,q1],List.nodup_cons.2 ⟨fun hb => ?_,q2⟩,fun b hb => ?_,fun i u' b hi hb => ?_⟩
          · obtain ⟨j,v',fo,h3,h4,h5⟩:=q3' _ hb
            have:=h2 0 j v v' (f,ob) fo (by first | rfl | (rw [hu];rfl)) (by rw [hu];exact h3) h4
            omega
          · rcases List.mem_cons.1 hb with rfl | hb
            · exact ⟨0,v,(f,ob),rfl,rfl⟩
            · obtain ⟨j,v',fo,h3,h4,_⟩:=q3' b hb;exact ⟨j,v',fo,h3,h4⟩
          · cases i with
            | zero =>
              simp only [upsOf,upOf,hd,List.cons_append,List.nil_append,List.getElem?_cons_zero,Option.some.injEq] at hi hb
              subst hi hb
              exact ⟨p1,p2⟩
            | succ i => exact q4 i u' b (by simpa [upsOf,upOf,hd] using hi) (by simpa using hb)
theorem put_other {a:Act} {d:Option Tmp} {x:Value} {t:Tmp} (h:d ≠ some t):(a.put d x).tmps.getD t undef = a.tmps.getD t undef:=by
  cases d with
  | none => rfl
  | some d =>
    simp only [Act.put,Array.getD_eq_getD_getElem?]
    rw [Array.getElem?_setIfInBounds_ne (fun he => h (by rw [he]))]
theorem put_same {a:Act} {d:Tmp} {x:Value} (h:d < a.tmps.size):(a.put (some d) x).tmps.getD d undef = x:=by
  simp only [Act.put,Array.getD_eq_getD_getElem?]
  rw [Array.getElem?_setIfInBounds_self_of_lt h,Option.getD_some]
theorem put_size {a:Act} {d:Option Tmp} {x:Value}:(a.put d x).tmps.size = a.tmps.size:=by cases d <;> simp [Act.put]
theorem put_defers {a:Act} {d:Option Tmp} {x:Value}:(a.put d x).defers = a.defers:=by cases d <;> rfl
structure InvA (P:Program) (gl:Nat → V) (ops:Array Oper) (m:Nat) (res:List (V × Option ((Nat → V) × O))) (e:Env) (st:List O) (n0:Nat) (w0:World) (s0:S) (L:Array Bool) (a:Act) (w:World) (s:S) (B:Nat → Nat):Prop where
  closed:Closed ops L
  pre:∀ i,L.getD i false = true → i < m
  st:s.st = st
  sim:Sim P gl w s
  ev:Evolve w0 s0 w s
  n:e.n ≤ a.tmps.size
  marks:Marks w s n0 a.defers
  old:∀ t,(∀ j,j < m → dstAt ops j ≠ some t) → Rep w s (e.get t) (a.tmps.getD t undef)
  new:∀ (j:Nat) (t:Tmp) (v:V) (u:Option ((Nat → V) × O)),L.getD j false = true → dstAt ops j = some t → res[j]? = some (v,u) → Rep w s v (a.tmps.getD t undef) ∧ ∀ f o,u = some (f,o) → w0.heap.size ≤ B j ∧ Pend P w s f o (a.tmps.getD t undef) (B j)
  inj:∀ (j j':Nat) (v v':V) (fo fo':(Nat → V) × O),L.getD j false = true → L.getD j' false = true → res[j]? = some (v,some fo) → res[j']? = some (v',some fo') → B j = B j' → j = j'
theorem anyA {res:List (V × Option ((Nat → V) × O))} {n0:Nat} {w0:World} {s0:S} (hok:anyOK ops m = true) (hrun:RunA P gl r ops st (ops.toList.take m) res e) (hn0:n0 ≤ w0.heap.size) (hst0:s0.st = st) (hwf0:s0.g.length = s0.st.length) {Q:Exit → Act → World → Prop}
    (hfin:∀ a w s,Sim P gl w s → Evolve w0 s0 w s → ActOK w s n0 (applyUps (upsOf (ops.toList.take m) res) (envOf (ops.toList.take m) res e) st).1 a → s.st = (applyUps (upsOf (ops.toList.take m) res) (envOf (ops.toList.take m) res e) st).2 → wpOpsIn (Fr r) 0 P ops Q (List.range' m (ops.size - m)) a w) :
    ∀ (fuel:Nat) (L:Array Bool) (a:Act) (w:World) (s:S) (B:Nat → Nat),InvA P gl ops m res e st n0 w0 s0 L a w s B → L.count false ≤ fuel → wpAnyIn (Fr r) 0 P .any ops Q fuel L a w:=by
  obtain ⟨hm,hdown,hlook,hdst,hrest⟩:=anyOK_spec hok
  obtain ⟨hlen,hat⟩:=runA_at _ _ _ hrun
  have hl:(ops.toList.take m).length = m:=by simp;omega
  have hget:∀ i,i < m → (ops.toList.take m)[i]? = ops[i]?:=fun i hi => by rw [List.getElem?_take_of_lt hi];simp
  have henv:∀ (i:Nat) (t:Tmp),i ≤ m → ((∀ j,j < m → dstAt ops j ≠ some t) → (envOf ((ops.toList.take m).take i) (res.take i) e).get t = e.get t) ∧
      ∀ j v u,j < i → dstAt ops j = some t → res[j]? = some (v,u) → (envOf ((ops.toList.take m).take i) (res.take i) e).get t = v:=fun i t hi => by
    have hg:∀ k o,((ops.toList.take m).take i)[k]? = some o → k < i ∧ dstAt ops k = o.dst:=fun k o hk => by
      have hki:k < i:=by
        have:=(List.getElem?_eq_some_iff.1 hk).1
        simp at this
        omega
      rw [List.getElem?_take_of_lt hki,hget k (by omega)] at hk
      exact ⟨hki,by simp [dstAt,hk]⟩
    refine ⟨fun h => envOf_other _ _ _ _ fun k o hk he => ?_,fun j v u hj hd hr => ?_⟩
    · obtain ⟨h1,h2⟩:=hg k o hk
      exact h k (by omega) (h2.trans he)
    · have hjs:j < ops.size:=by omega
      refine envOf_at _ _ _ _ j ops[j] v u (by rw [List.getElem?_take_of_lt hj,hget j (by omega)];exact Array.getElem?_eq_getElem hjs) (by rw [List.getElem?_take_of_lt hj];exact hr) (by simpa [dstAt,hjs] using hd) fun k o hk ho he => ?_
      obtain ⟨h1,h2⟩:=hg k o ho
      have:=hdst j k t (by omega) (by omega) hd (h2.trans he)
      omega
  have hdone:∀ (fuel:Nat) (L:Array Bool) (a:Act) (w:World) (s:S) (B:Nat → Nat),InvA P gl ops m res e st n0 w0 s0 L a w s B → L.count false ≤ fuel → (∀ j,j < m → L.getD j false = true) → wpAnyIn (Fr r) 0 P .any ops Q fuel L a w:=fun fuel L a w s B hI hf hall => by
    have hA:ActOK w s n0 (envOf (ops.toList.take m) res e) a:=by
      refine ⟨by rw [envOf_n];exact hI.n,fun t => ?_,hI.marks⟩
      obtain ⟨g1,g2⟩:=henv m t (Nat.le_refl _)
      have t1:(ops.toList.take m).take m = ops.toList.take m:=List.take_of_length_le (by omega)
      have t2:res.take m = res:=List.take_of_length_le (by omega)
      rw [t1,t2] at g1 g2
      by_cases hex:∃ j,j < m ∧ dstAt ops j = some t
      · obtain ⟨j,hj,hd⟩:=hex
        obtain ⟨v,u,hr,_⟩:=hat j (ops[j]'(by omega)) (by rw [hget j hj];exact Array.getElem?_eq_getElem _)
        rw [g2 j v u hj hd hr]
        exact (hI.new j t v u (hall j hj) hd hr).1
      · rw [g1 fun j hj hd => hex ⟨j,hj,hd⟩]
        exact hI.old t fun j hj hd => hex ⟨j,hj,hd⟩
    obtain ⟨bs,q1,q2,_,q4⟩:=ups_blocks (P:=P) (w:=w) (s:=s) (w0:=w0) (a:=a) (B:=B) (ops.toList.take m) res 0 (fun j o v f ob d ho hr hd => by
      have hj:j < m:=by have:=(List.getElem?_eq_some_iff.1 ho).1;omega
      rw [hget j hj] at ho
      have:=(hI.new j d v (some (f,ob)) (hall j hj) (by simp [dstAt,ho,hd]) hr).2 f ob rfl
      simpa using this) (fun j j' v v' fo fo' hr hr' he => by
      have hj:j < m:=by have:=(List.getElem?_eq_some_iff.1 hr).1;omega
      have hj':j' < m:=by have:=(List.getElem?_eq_some_iff.1 hr').1;omega
      exact hI.inj j j' v v' fo fo' (hall j hj) (hall j' hj') hr hr' (by simpa using he))
    have hlen0:s0.st.length ≤ s.st.length:=by rw [hI.st,hst0];exact Nat.le_refl _
    obtain ⟨s',k1,k2,k3,k4⟩:=register (upsOf (ops.toList.take m) res) bs s _ hI.sim hI.ev hlen0 hA q1 q2 q4
    rw [hI.st] at k3 k4
    refine chain (m:=m) (fun i hi hmi => (hrest (by omega)).2 i hi hmi) hdown (ops.size - m) m (by omega) (Nat.le_refl _) fuel L a w hI.closed.1 (fun i hi => ⟨fun h => hI.pre i h,fun h => hall i h⟩) hf (hfin a w s' k1 k2 k3 k4)
  intro fuel
  induction fuel with
  | zero =>
    intro L a w s B hI hf
    refine hdone 0 L a w s B hI hf fun j hj => ?_
    cases hx:L.getD j false with
    | true => rfl
    | false =>
      have:=count_set (L:=L) (i:=j) (by rw [hI.closed.1];omega) hx
      omega
  | succ fuel ih =>
    intro L a w s B hI hf
    by_cases hall:∀ j,j < m → L.getD j false = true
    · exact hdone _ L a w s B hI hf hall
    · -- some operation of the first phase is ready
      have hsize:=hI.closed.1
      have hmin:∃ j,j < m ∧ j ∈ Region.ready .any ops L:=by
        have hex:∃ j,j < m ∧ L.getD j false = false:=by
          apply Classical.byContradiction
          intro hno
          refine hall fun j hj => ?_
          cases hx:L.getD j false with
          | true => rfl
          | false => exact absurd ⟨j,hj,hx⟩ hno
        obtain ⟨j,hj⟩:=hex
        induction j using Nat.strongRecOn with
        | _ j ihj =>
          by_cases hd:∃ i,i < j ∧ L.getD i false = false
          · obtain ⟨i,hi,hx⟩:=hd
            exact ihj i hi ⟨by omega,hx⟩
          · refine ⟨j,hj.1,(ready_spec hsize).2 ⟨by omega,hj.2,fun i hdep => ?_⟩⟩
            cases hx:L.getD i false with
            | true => rfl
            | false => exact absurd ⟨i,hdown j i hdep,hx⟩ hd
      obtain ⟨j0,_,hj0⟩:=hmin
      refine ⟨fun h0 => by rw [h0] at hj0;simp at hj0,fun i hi => ?_⟩
      obtain ⟨hilt,hifalse,hideps⟩:=(ready_spec hsize).1 hi
      have him:i < m:=by
        apply Classical.byContradiction
        intro hge
        by_cases heq:i = m
        · subst heq
          refine hall fun j hj => ?_
          obtain ⟨hsucc,_⟩:=hrest hilt
          have key:∀ d j,j < i → i - j = d → L.getD j false = true:=by
            intro d
            induction d using Nat.strongRecOn with
            | _ d ihd =>
              intro j hj hd
              obtain ⟨j',h1,h2,h3⟩:=hsucc j hj
              by_cases hj':j' = i
              · subst hj';exact hideps j h3
              · exact hI.closed.2 j' j (ihd (i - j') (by omega) j' (by omega) rfl) h3
          exact key _ j hj rfl
        · have:=hideps _ ((hrest (by omega)).2 i hilt (by omega))
          have:=hI.pre _ this
          omega
      have hoi:ops[i]? = some ops[i]:=Array.getElem?_eq_getElem hilt
      obtain ⟨v,u,hres,hfit,hud,hB⟩:=hat i ops[i] (by rw [hget i him];exact hoi)
      have hA:ActOK w s n0 ⟨e.n,((ops[i]).looksAt ops).map fun t => (t,(envOf ((ops.toList.take m).take i) (res.take i) e).get t)⟩ a:=by
        refine ⟨hI.n,fun t => ?_,hI.marks⟩
        show Rep w s (getM _ t) _
        rw [getM_map (fun t => (envOf ((ops.toList.take m).take i) (res.take i) e).get t)]
        split
        · rename_i hlk
          obtain ⟨g1,g2⟩:=henv i t (by omega)
          by_cases hex:∃ j,j < m ∧ dstAt ops j = some t
          · obtain ⟨j,hj,hd⟩:=hex
            have hdep:=hlook i j _ t him hj hoi hlk hd
            obtain ⟨vj,uj,hrj,_⟩:=hat j (ops[j]'(by omega)) (by rw [hget j hj];exact Array.getElem?_eq_getElem _)
            rw [g2 j vj uj (hdown i j hdep) hd hrj]
            exact (hI.new j t vj uj (hideps j hdep) hd hrj).1
          · rw [g1 fun j hj hd => hex ⟨j,hj,hd⟩]
            exact hI.old t fun j hj hd => hex ⟨j,hj,hd⟩
        · exact .undef _
      have hstep:=hB ⟨e.n,((ops[i]).looksAt ops).map fun t => (t,(envOf ((ops.toList.take m).take i) (res.take i) e).get t)⟩ (fun t ht => by show getM _ t = _;rw [getM_map (fun t => (envOf ((ops.toList.take m).take i) (res.take i) e).get t),if_pos ht]) n0 w s a
        (wpAnyIn (Fr r) 0 P .any ops Q fuel (L.setIfInBounds i true)) Q (Nat.le_trans hn0 hI.ev.size) hI.st hI.sim hA (fun x w' s' k1 k2 k3 k4 k5 => ?_)
      · unfold wpOpIn
        rw [hoi]
        exact hstep
      · have hcs:=count_set (L:=L) (i:=i) (by omega) hifalse
        have hwf:=hI.sim.wf
        obtain ⟨bn,hbn⟩:∃ bn,∀ f o,u = some (f,o) → w.heap.size ≤ bn ∧ Pend P w' s' f o x bn:=by
          cases u with
          | none => exact ⟨0,by simp⟩
          | some fo =>
            obtain ⟨f,o⟩:=fo
            obtain ⟨bn,h1,h2⟩:=k5 f o rfl
            exact ⟨bn,fun f' o' he => by simp only [Option.some.injEq,Prod.mk.injEq] at he;obtain ⟨rfl,rfl⟩:=he;exact ⟨h1,h2⟩⟩
        have hdi:∀ j t,j < m → j ≠ i → dstAt ops j = some t → (ops[i]).dst ≠ some t:=fun j t hj hne hd he => hne (hdst j i t hj him hd (by simp [dstAt,hilt,he]))
        refine ih _ (a.put (ops[i]).dst x) w' s' (fun j => if j = i then bn else B j) ⟨hI.closed.set hi,fun j hj => ?_,k3,k1,hI.ev.trans hwf0 hI.sim.len k2,by rw [put_size];exact hI.n,by rw [put_defers];exact hI.marks.evolve k2 hwf,fun t ht => ?_,fun j t vj uj hL hd hrj => ?_,fun j j' v1 v2 fo fo' hL hL' hr hr' hBe => ?_⟩ (by omega)
        · rw [getD_set (by omega)] at hj
          split at hj
          · rename_i he;subst he;exact him
          · exact hI.pre j hj
        · rw [put_other (fun he => ht i him (by simp [dstAt,hilt,he]))]
          exact (hI.old t ht).evolve k2 hwf
        · rw [getD_set (by omega)] at hL
          by_cases hji:j = i
          · subst hji
            rw [hres] at hrj
            simp only [Option.some.injEq,Prod.mk.injEq] at hrj
            obtain ⟨rfl,rfl⟩:=hrj
            have hd':(ops[j]).dst = some t:=by simpa [dstAt,hilt] using hd
            have hlt:t < a.tmps.size:=by
              rw [hd'] at hfit
              have h1:t < (envOf ((ops.toList.take m).take j) (res.take j) e).n:=hfit
              rw [envOf_n] at h1
              exact Nat.lt_of_lt_of_le h1 hI.n
            rw [hd',put_same hlt]
            refine ⟨k4,fun f o hu => ?_⟩
            rw [if_pos rfl]
            obtain ⟨h1,h2⟩:=hbn f o hu
            exact ⟨Nat.le_trans hI.ev.size h1,h2⟩
          · rw [if_neg (fun he => hji he.symm)] at hL
            have hjm:=hI.pre j hL
            rw [put_other (hdi j t hjm hji hd)]
            obtain ⟨h1,h2⟩:=hI.new j t vj uj hL hd hrj
            refine ⟨h1.evolve k2 hwf,fun f o hu => ?_⟩
            rw [if_neg hji]
            obtain ⟨h3,h4⟩:=h2 f o hu
            exact ⟨h3,h4.evolve hI.sim k2⟩
        · rw [getD_set (by omega)] at hL hL'
          have hlt:∀ j v fo,j ≠ i → L.getD j false = true → res[j]? = some (v,some fo) → B j < w.heap.size:=fun j v fo hji hL hr => by
            have hjm:=hI.pre j hL
            obtain ⟨v',u',hr',_,hud',_⟩:=hat j (ops[j]'(by omega)) (by rw [hget j hjm];exact Array.getElem?_eq_getElem _)
            rw [hr] at hr'
            simp only [Option.some.injEq,Prod.mk.injEq] at hr'
            obtain ⟨rfl,rfl⟩:=hr'
            obtain ⟨d,hd⟩:=Option.isSome_iff_exists.1 (hud' rfl)
            obtain ⟨_,h2⟩:=hI.new j d v (some fo) hL (by simp [dstAt,show j < ops.size by omega,hd]) hr
            obtain ⟨_,_,_,h3,_⟩:=(h2 fo.1 fo.2 rfl).2
            exact h3
          have hnew:∀ v fo,res[i]? = some (v,some fo) → w.heap.size ≤ bn:=fun v' fo hr => by
            rw [hres] at hr
            simp only [Option.some.injEq,Prod.mk.injEq] at hr
            exact (hbn fo.1 fo.2 hr.2).1
          by_cases h1:j = i
          · by_cases h2:j' = i
            · omega
            · subst h1
              rw [if_pos rfl,if_neg h2] at hBe
              rw [if_neg (fun he => h2 he.symm)] at hL'
              have:=hlt j' v2 fo' h2 hL' hr'
              have:=hnew v1 fo hr
              omega
          · rw [if_neg (fun he => h1 he.symm)] at hL
            by_cases h2:j' = i
            · subst h2
              rw [if_neg h1,if_pos rfl] at hBe
              have:=hlt j v1 fo h1 hL hr
              have:=hnew v2 fo' hr'
              omega
            · rw [if_neg h1,if_neg h2] at hBe
              rw [if_neg (fun he => h2 he.symm)] at hL'
              exact hI.inj j j' v1 v2 fo fo' hL hL' hr hr' hBe
theorem AW.any {id:Nat} {Q:Exit → Env → List O → Prop} (hfol:P.follows .mixedOrders = true) (m:Nat) (hok:anyOK ops m = true) (h:awA P gl ops (ops.toList.take m) e st [] fun e' st' => awL P gl ops (ops.toList.drop m) e' st' (Q .normal)):AW P gl r (.region id ops true) Q e st:=fun n0 w s a hn hst hs ha => by
  refine wpIn_region_any hfol ?_
  have hE0:=Evolve.drawn (w:=w) hs.wf (w.drawn + 1)
  have hS0:=hs.drawn (w.drawn + 1)
  have hA0:=ha.evolve hE0 hs.wf
  obtain ⟨res,hrun,hK⟩:=awA_run (r:=r) _ _ _ h
  rw [List.nil_append] at hK
  have hm:=(anyOK_spec hok).1
  refine anyA (Q:=fun x a' w' => ∃ e' s',Sim P gl w' s' ∧ Evolve w s w' s' ∧ ActOK w' s' n0 e' a' ∧ Q x e' s'.st) hok hrun (w0:={ w with drawn:=w.drawn + 1 }) (s0:=s) hn hst hs.len (fun a' w' s' k1 k2 k3 k4 => ?_) ops.size _ a _ s (fun _ => 0)
    ⟨⟨by simp,fun i j hi => ?_⟩,fun i hi => ?_,hst,hS0,Evolve.refl hS0.wf,hA0.n,hA0.marks,fun t _ => hA0.get t,fun j t v u hL => ?_,fun j j' v v' fo fo' hL => ?_⟩ (by simp [Array.count_replicate])
  · have hE:=hE0.trans hs.len hs.len k2
    have hl:(ops.toList.drop m).length = ops.size - m:=by simp
    rw [← hl]
    refine awL_sound (r:=r) (ops.toList.drop m) m _ _ rfl hK n0 w' s' a' _ (Nat.le_trans hn hE.size) k4 k1 k3 fun e'' s'' a'' w'' j1 j2 j3 j4 => ⟨e'',s'',j1,hE.trans hs.len k1.len j2,j3,j4⟩
  all_goals (exfalso;simp only [Array.getD_eq_getD_getElem?,Array.getElem?_replicate] at *)
  · split at hi <;> simp at hi
  · split at hi <;> simp at hi
  · split at hL <;> simp at hL
  · split at hL <;> simp at hL
end
end Go.Duo
