/-
  A part of the proof.
-/
import Derived.Test.YtmjngcfigfkafaaDoorDFun
set_option linter.all false
namespace Go.Duo
open Go
section
variable {P : Program} {gl : Nat → V} {K : V → Prop} {st : List O} {x y : V}
theorem loadP_det {t : TypeId} (h : loadP P t st x K) : ∃ v, (∀ K' : V → Prop, K' v → loadP P t st x K') ∧ K v := by
  unfold loadP at h ⊢
  cases hl : lay P t with
  | none => simp [hl] at h
  | some ng =>
    obtain ⟨n, g⟩ := ng
    rw [hl] at h
    cases x <;> try exact h.elim
    · rename_i id off
      simp only at h ⊢
      cases ho : st[id]? with
      | none => simp [ho] at h
      | some o =>
        rw [ho] at h
        cases o <;> try exact h.elim
        exact ⟨_, fun _ hk => ⟨h.1, hk⟩, h.2⟩
    · exact ⟨_, fun _ hk => ⟨h.1, hk⟩, h.2⟩
    · rename_i id ver off
      simp only at h ⊢
      cases ho : st[id]? with
      | none => simp [ho] at h
      | some o =>
        rw [ho] at h
        cases o <;> try exact h.elim
        exact ⟨_, fun _ hk => ⟨h.1, h.2.1, hk⟩, h.2.2⟩
theorem intP_det {op : BinOp} {k k' : IntKind} {a b : Int} (h : intP op k a k' b K) : ∃ v, (∀ K' : V → Prop, K' v → intP op k a k' b K') ∧ K v := by
  unfold intP at h ⊢
  cases op <;> first | exact h.elim | exact ⟨_, fun _ hk => ⟨h.1, hk⟩, h.2⟩ | exact ⟨_, fun _ hk => ⟨h.1, h.2.1, hk⟩, h.2.2⟩
theorem strP_det {op : BinOp} {a b : List UInt8} (h : strP op a b K) : ∃ v, (∀ K' : V → Prop, K' v → strP op a b K') ∧ K v := by
  unfold strP at h ⊢
  cases op <;> first | exact h.elim | exact ⟨_, fun _ hk => hk, h⟩ | exact ⟨_, fun _ hk => ⟨h.1, hk⟩, h.2⟩
theorem eqP_det {t : TypeId} {op : BinOp} {a b : List V} (h : eqP P t op a b K) : ∃ v, (∀ K' : V → Prop, K' v → eqP P t op a b K') ∧ K v := by
  unfold eqP at h ⊢
  cases hs : sEq P t with
  | none => simp [hs] at h
  | some ks =>
    rw [hs] at h
    simp only at h ⊢
    cases hc : cmpL ks a b with
    | none => simp [hc] at h
    | some r =>
      rw [hc] at h
      cases op <;> first | exact h.elim | exact ⟨_, fun _ hk => hk, h⟩
theorem binP_det {t : TypeId} {op : BinOp} (h : binP P t op x y K) : ∃ v, (∀ K' : V → Prop, K' v → binP P t op x y K') ∧ K v := by
  unfold binP at h ⊢
  cases x <;> cases y <;> first
    | exact h.elim
    | exact intP_det h
    | exact strP_det h
    | exact eqP_det h
    | (cases op <;> first | exact h.elim | exact ⟨_, fun _ hk => ⟨h.1, hk⟩, h.2⟩)
theorem unP_det {op : UnOp} (h : unP op x K) : ∃ v, (∀ K' : V → Prop, K' v → unP op x K') ∧ K v := by
  unfold unP at h ⊢
  cases op <;> cases x <;> first | exact h.elim | exact ⟨_, fun _ hk => hk, h⟩
theorem faP_det {t : TypeId} {f : Nat} (h : faP P t st f x K) : ∃ v, (∀ K' : V → Prop, K' v → faP P t st f x K') ∧ K v := by
  unfold faP at h ⊢
  cases hl : fld P t f with
  | none => simp [hl] at h
  | some ng =>
    obtain ⟨off, n, g⟩ := ng
    rw [hl] at h
    cases x <;> try exact h.2.elim
    · exact ⟨_, fun _ hk => ⟨h.1, hk⟩, h.2⟩
    · exact ⟨_, fun _ hk => ⟨h.1, hk⟩, h.2⟩
    · rename_i id ver o
      simp only at h ⊢
      cases ho : st[id]? with
      | none => simp [ho] at h
      | some o =>
        rw [ho] at h
        cases o <;> try exact h.2.elim
        exact ⟨_, fun _ hk => ⟨h.1, h.2.1, hk⟩, h.2.2⟩
theorem fieldP_det {t : TypeId} {f : Nat} (h : fieldP P t f x K) : ∃ v, (∀ K' : V → Prop, K' v → fieldP P t f x K') ∧ K v := by
  unfold fieldP at h ⊢
  cases hl : fld P t f with
  | none => simp [hl] at h
  | some ng =>
    obtain ⟨off, n, g⟩ := ng
    rw [hl] at h
    cases x <;> try exact h.elim
    exact ⟨_, fun _ hk => ⟨h.1, hk⟩, h.2⟩
theorem iaP_det {t : TypeId} (h : iaP P t st x y K) : ∃ v, (∀ K' : V → Prop, K' v → iaP P t st x y K') ∧ K v := by
  unfold iaP at h ⊢
  cases y <;> try exact h.elim
  simp only at h ⊢
  cases he : elt P t with
  | some z =>
    obtain ⟨e, sz, by_⟩ := z
    rw [he] at h
    cases x <;> try exact h.elim
    · exact ⟨_, fun _ hk => ⟨h.1, h.2.1, h.2.2.1, hk⟩, h.2.2.2⟩
    · rename_i id ver
      simp only at h ⊢
      cases ho : st[id]? with
      | none => simp [ho] at h
      | some o =>
        rw [ho] at h
        cases o <;> try exact h.elim
        exact ⟨_, fun _ hk => ⟨h.1, h.2.1, h.2.2.1, h.2.2.2.1, hk⟩, h.2.2.2.2⟩
  | none =>
    rw [he] at h
    simp only at h ⊢
    cases ha : arr P t with
    | none => simp [ha] at h
    | some z =>
      obtain ⟨len, sz, g⟩ := z
      rw [ha] at h
      cases x <;> try exact h.2.2.elim
      · exact ⟨_, fun _ hk => ⟨h.1, h.2.1, hk⟩, h.2.2⟩
      · exact ⟨_, fun _ hk => ⟨h.1, h.2.1, hk⟩, h.2.2⟩
theorem ixP_det {t : TypeId} (h : ixP P t x y K) : ∃ v, (∀ K' : V → Prop, K' v → ixP P t x y K') ∧ K v := by
  unfold ixP at h ⊢
  cases y <;> try exact h.elim
  cases x <;> try exact h.elim
  · exact ⟨_, fun _ hk => ⟨h.1, h.2.1, h.2.2.1, hk⟩, h.2.2.2⟩
  · simp only at h ⊢
    cases ha : arr P t with
    | none => simp [ha] at h
    | some z =>
      obtain ⟨len, sz, g⟩ := z
      rw [ha] at h
      exact ⟨_, fun _ hk => ⟨h.1, h.2.1, h.2.2.1, hk⟩, h.2.2.2⟩
theorem sliceP_det {t : TypeId} {lo hi mx : Option V} (h : sliceP P t x lo hi mx K) : ∃ v, (∀ K' : V → Prop, K' v → sliceP P t x lo hi mx K') ∧ K v := by
  unfold sliceP at h ⊢
  cases x <;> try exact h.elim
  · simp only at h ⊢
    obtain ⟨hu, h⟩ := h
    split at h
    · exact ⟨_, fun _ hk => ⟨hu, h.1, h.2.1, h.2.2.1, hk⟩, h.2.2.2⟩
    · exact h.elim
  · simp only at h ⊢
    cases he : elt P t with
    | none => simp [he] at h
    | some z =>
      obtain ⟨e, sz, by_⟩ := z
      rw [he] at h
      simp only at h ⊢
      split at h
      · exact ⟨_, fun _ hk => ⟨h.1, h.2.1, h.2.2.1, h.2.2.2.1, hk⟩, h.2.2.2.2⟩
      · exact ⟨_, fun _ hk => ⟨h.1, h.2.1, h.2.2.1, h.2.2.2.1, hk⟩, h.2.2.2.2⟩
      · exact h.elim
  · simp only at h ⊢
    cases he : elt P t with
    | none => simp [he] at h
    | some z =>
      rw [he] at h
      simp only at h ⊢
      split at h
      · exact ⟨_, fun _ hk => ⟨h.1, h.2.1, hk⟩, h.2.2⟩
      · exact ⟨_, fun _ hk => ⟨h.1, h.2.1, h.2.2.1, h.2.2.2.1, hk⟩, h.2.2.2.2⟩
      · exact h.elim
  · simp only at h ⊢
    split at h
    · exact ⟨_, fun _ hk => ⟨h.1, h.2.1, h.2.2.1, hk⟩, h.2.2.2⟩
    · exact h.elim
theorem buildP_det {t : TypeId} {ps : List (Nat × V)} (h : buildP P t ps K) : ∃ v, (∀ K' : V → Prop, K' v → buildP P t ps K') ∧ K v := by
  unfold buildP at h ⊢
  split at h
  · split at h
    · exact ⟨_, fun _ hk => hk, h⟩
    · exact h.elim
  · exact h.elim
theorem lenP_det {t : TypeId} (h : lenP st P t x K) : ∃ v, (∀ K' : V → Prop, K' v → lenP st P t x K') ∧ K v := by
  unfold lenP at h ⊢
  cases x <;> try exact h.elim
  · exact ⟨_, fun _ hk => ⟨h.1, hk⟩, h.2⟩
  · exact ⟨_, fun _ hk => ⟨h.1, hk⟩, h.2⟩
  · exact ⟨_, fun _ hk => ⟨h.1, hk⟩, h.2⟩
  · rename_i id ver
    simp only at h ⊢
    cases ho : st[id]? with
    | none => simp [ho] at h
    | some o =>
      rw [ho] at h
      cases o <;> try exact h.2.elim
      exact ⟨_, fun _ hk => ⟨h.1, h.2.1, hk⟩, h.2.2⟩
/-- Operations that change nothing. -/
def calm : Op → Bool
  | .move _ | .assign _ | .pick .. | .binOp .. | .unOp .. | .convert .. | .extract .. | .makeFunc .. | .nilCheck _ | .load .. | .fieldAddr .. | .field .. | .indexAddr .. | .index .. | .slice .. | .build .. => true
  | .call c => match c.callee with
    | .builtin .len | .builtin .max | .builtin .min => true
    | _ => false
  | _ => false
theorem step1_det {ρ : Operand → V} {op : Op} {K : V → List O → Prop} (hc : calm op = true) (h : step1 P gl ρ st op K) : ∃ v, (∀ K' : V → List O → Prop, K' v st → step1 P gl ρ st op K') ∧ K v st := by
  cases op <;> simp only [calm, Bool.false_eq_true] at hc <;> simp only [step1] at h ⊢
  case move => exact ⟨_, fun _ hk => hk, h⟩
  case assign => exact ⟨_, fun _ hk => hk, h⟩
  case pick c a b =>
    cases hv : ρ c <;> rw [hv] at h <;> try exact h.elim
    exact ⟨_, fun _ hk => hk, h⟩
  case binOp op t x y yt =>
    by_cases hny : isNilC y = true
    · simp only [hny, if_true] at h ⊢
      unfold ifcP at h ⊢
      obtain ⟨hi, h⟩ := h
      simp only [hi, true_and]
      split at h <;> first | exact h.elim | exact ⟨_, fun _ hk => hk, h⟩
    · simp only [if_neg hny] at h ⊢
      obtain ⟨v, h1, h2⟩ := binP_det h
      exact ⟨v, fun _ hk => h1 _ hk, h2⟩
  case unOp => obtain ⟨v, h1, h2⟩ := unP_det h; exact ⟨v, fun _ hk => h1 _ hk, h2⟩
  case convert src dst x =>
    split at h
    · exact ⟨_, fun _ hk => hk, h⟩
    · exact ⟨_, fun _ hk => hk, h⟩
    · exact h.elim
  case extract x i =>
    cases hv : ρ x <;> rw [hv] at h <;> try exact h.elim
    exact ⟨_, fun _ hk => ⟨h.1, hk⟩, h.2⟩
  case makeFunc => exact ⟨_, fun _ hk => hk, h⟩
  case nilCheck => exact ⟨_, fun _ hk => ⟨h.1, hk⟩, h.2⟩
  case load => obtain ⟨v, h1, h2⟩ := loadP_det h; exact ⟨v, fun _ hk => h1 _ hk, h2⟩
  case fieldAddr => obtain ⟨v, h1, h2⟩ := faP_det h; exact ⟨v, fun _ hk => h1 _ hk, h2⟩
  case field => obtain ⟨v, h1, h2⟩ := fieldP_det h; exact ⟨v, fun _ hk => h1 _ hk, h2⟩
  case indexAddr => obtain ⟨v, h1, h2⟩ := iaP_det h; exact ⟨v, fun _ hk => h1 _ hk, h2⟩
  case index => obtain ⟨v, h1, h2⟩ := ixP_det h; exact ⟨v, fun _ hk => h1 _ hk, h2⟩
  case slice => obtain ⟨v, h1, h2⟩ := sliceP_det h; exact ⟨v, fun _ hk => h1 _ hk, h2⟩
  case build => obtain ⟨v, h1, h2⟩ := buildP_det h; exact ⟨v, fun _ hk => h1 _ hk, h2⟩
  case call c =>
    cases hcal : c.callee <;> rw [hcal] at hc h <;> try (simp at hc; done)
    rename_i b
    cases b <;> try (simp at hc; done)
    · simp only at h ⊢
      split at h
      · obtain ⟨v, h1, h2⟩ := lenP_det h; exact ⟨v, fun _ hk => h1 _ hk, h2⟩
      · exact h.elim
    all_goals
      simp only at h ⊢
      split at h
      · split at h
        · exact ⟨_, fun _ hk => hk, h⟩
        · exact h.elim
      · exact h.elim
/-- An operation sees its operands alone. -/
theorem step1_congr {ρ ρ' : Operand → V} {op : Op} {K : V → List O → Prop} (he : ∀ x ∈ op.operands, ρ x = ρ' x) (h : step1 P gl ρ st op K) : step1 P gl ρ' st op K := by
  have hl : ∀ (l : List Operand), (∀ x ∈ l, ρ x = ρ' x) → l.map ρ = l.map ρ' := fun l hl => List.map_congr_left hl
  have ho : ∀ (o : Option Operand), (∀ x ∈ o, ρ x = ρ' x) → o.map ρ = o.map ρ' := fun o ho => by
    cases o with
    | none => rfl
    | some x => simp [ho x rfl]
  cases op <;> simp only [step1] at h ⊢ <;> simp only [Op.operands, Array.mem_append, List.mem_toArray, List.mem_map, List.mem_cons, List.not_mem_nil, or_false, forall_eq_or_imp, forall_eq, Option.mem_toArray] at he
  case move => rw [← he]; exact h
  case assign => rw [← he]; exact h
  case pick => rw [← he.1, ← he.2.1, ← he.2.2]; exact h
  case binOp => rw [← he.1, ← he.2]; exact h
  case unOp => rw [← he]; exact h
  case convert => rw [← he]; exact h
  case extract => rw [← he]; exact h
  case makeFunc fn first captured =>
    rw [← hl first.toList (fun x hx => he x (.inl (by simpa using hx))), ← hl captured.toList (fun x hx => he x (.inr (by simpa using hx)))]
    exact h
  case nilCheck => rw [← he]; exact h
  case load => rw [← he]; exact h
  case store => rw [← he.1, ← he.2]; exact h
  case makeSlice => rw [← he.1, ← he.2]; exact h
  case fieldAddr => rw [← he]; exact h
  case field => rw [← he]; exact h
  case indexAddr => rw [← he.1, ← he.2]; exact h
  case index => rw [← he.1, ← he.2]; exact h
  case slice t x lo hi mx =>
    rw [← he x (.inl (.inl (.inl rfl))), ← ho lo (fun y hy => he y (.inl (.inl (.inr hy)))), ← ho hi (fun y hy => he y (.inl (.inr hy))), ← ho mx (fun y hy => he y (.inr hy))]
    exact h
  case box => rw [← he]; exact h
  case alloc => exact h
  case build t parts =>
    have : (parts.toList.map fun p => (p.1, ρ p.2)) = parts.toList.map fun p => (p.1, ρ' p.2) := List.map_congr_left fun p hp => by rw [he p.2 ⟨p, hp, rfl⟩]
    rw [← this]; exact h
  case buildSlice t len parts =>
    have : (parts.toList.map fun p => (p.1, ρ p.2)) = parts.toList.map fun p => (p.1, ρ' p.2) := List.map_congr_left fun p hp => by rw [he p.2 ⟨p, hp, rfl⟩]
    rw [← this]; exact h
  case call c =>
    have hargs : ∀ x ∈ c.args.toList, ρ x = ρ' x := fun x hx => he x (by simp only [Call.operands, Array.mem_append]; exact .inr (by simpa using hx))
    cases hcal : c.callee with
    | value f =>
      rw [hcal] at h
      simp only at h ⊢
      rw [← he f (by simp [Call.operands, hcal]), ← hl _ hargs]
      exact h
    | invoke r m => rw [hcal] at h; exact h.elim
    | builtin b =>
      rw [hcal] at h
      cases b <;> simp only at h ⊢ <;> try exact h.elim
      all_goals
        split at h
        · rename_i heq
          simp_all
          try (obtain ⟨rfl, h⟩ := h; exact h)
        · exact h.elim
end
end Go.Duo
