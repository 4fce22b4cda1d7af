/-
  A part of the proof.
-/
import Derived.Test.YtmjngcfigfkafaaDoorDReal
import Derived.Lib.ParseIntB
import Derived.Lib.ItoaMem
import Derived.Lib.ItoaLen
import Derived.Test.YtmjngcfigfkafaaDoorDKit
import Derived.Test.YtmjngcfigfkafaaDoorSS
set_option linter.all false
namespace Go.Duo
open Go
abbrev Str := List UInt8
inductive Ty where
  | mk (kind prio : Int) (name : Str) (shift : Int) (labels : List Str) (kids : List Ty)
structure Vl where
  kind : Int
  name : Str
  n : Int
  deriving DecidableEq
inductive Pr where
  | mk (kind : Int) (chan var : Str) (labels : List Str) (args : List Vl) (t : Ty) (kids : List Pr)
mutual
def encT : Ty → V
  | .mk k p n s l ks => .agg [.int .i64 k, .int .i64 p, .str n, .int .i64 s, .sl (l.map .str) none, .sl (encTs ks) none]
def encTs : List Ty → List V
  | [] => []
  | t :: ts => encT t :: encTs ts
end
theorem encTs_eq (l : List Ty) : encTs l = l.map encT := by
  induction l with
  | nil => rfl
  | cons t l ih => simp [encTs, ih]
theorem encT_mk (k p : Int) (n : Str) (s : Int) (l : List Str) (ks : List Ty) : encT (.mk k p n s l ks) = .agg [.int .i64 k, .int .i64 p, .str n, .int .i64 s, .sl (l.map .str) none, .sl (ks.map encT) none] := by rw [encT, encTs_eq]
theorem encT_cells (t : Ty) : .agg (encT t).cells = encT t := by cases t; rw [encT]; rfl
theorem encT_len (t : Ty) : (encT t).cells.length = 6 := by cases t; rw [encT]; rfl
theorem encT_take (t : Ty) : (encT t).cells.take 6 = (encT t).cells := by rw [List.take_of_length_le (by rw [encT_len]; exact Nat.le_refl _)]
theorem encT_one (t : Ty) : (encT t).cells.all V.one = true := by cases t; rw [encT]; rfl
def encV (v : Vl) : V := .agg [.int .i64 v.kind, .str v.name, .int .i64 v.n]
mutual
def encP : Pr → V
  | .mk k c v l a t ks => .agg ([.int .i64 k, .str c, .str v, .sl (l.map .str) none, .sl (a.map encV) none] ++ (encT t).cells ++ [.sl (encPs ks) none])
def encPs : List Pr → List V
  | [] => []
  | t :: ts => encP t :: encPs ts
end
theorem encPs_eq (l : List Pr) : encPs l = l.map encP := by
  induction l with
  | nil => rfl
  | cons t l ih => simp [encPs, ih]
theorem encP_cells (p : Pr) : .agg (encP p).cells = encP p := by cases p; rw [encP]; rfl
theorem encP_len (p : Pr) : (encP p).cells.length = 12 := by
  obtain ⟨k, c, v, l, a, t, ks⟩ := p
  rw [encP]
  show (_ ++ (encT t).cells ++ _ : List V).length = 12
  simp only [List.length_append, encT_len, List.length_cons, List.length_nil]
theorem encP_take (p : Pr) : (encP p).cells.take 12 = (encP p).cells := by rw [List.take_of_length_le (by rw [encP_len]; exact Nat.le_refl _)]
theorem Ty.ind {p : Ty → Prop} (h : ∀ k pr n s l ks, (∀ t ∈ ks, p t) → p (.mk k pr n s l ks)) (t : Ty) : p t :=
  match t with
  | .mk k pr n s l ks => h k pr n s l ks fun t _ => Ty.ind h t
theorem Pr.ind {p : Pr → Prop} (h : ∀ k c v l a t ks, (∀ q ∈ ks, p q) → p (.mk k c v l a t ks)) (q : Pr) : p q :=
  match q with
  | .mk k c v l a t ks => h k c v l a t ks fun q _ => Pr.ind h q
theorem encT_pure (t : Ty) : PureV (encT t) ∧ (encT t).bare = encT t := by
  obtain ⟨k, p, n, s, l, ks⟩ := t
  rw [encT_mk]
  refine ⟨PureV.agg ?_, by simp [V.bare, V.bare.bareL]⟩
  intro c hc
  simp only [List.mem_cons, List.not_mem_nil, or_false] at hc
  rcases hc with rfl | rfl | rfl | rfl | rfl | rfl
  · exact PureV.int _ _
  · exact PureV.int _ _
  · exact PureV.str _
  · exact PureV.int _ _
  · exact PureV.sl _ _
  · exact PureV.sl _ _
theorem Real.ty {k p : Int} {n : Str} {s : Int} {l : List Str} {ks : List Ty} (h : Real (encT (.mk k p n s l ks))) : l.length ≤ 9223372036854775807 ∧ ks.length ≤ 9223372036854775807 ∧ ∀ t ∈ ks, ∀ c ∈ (encT t).cells, Real c := by
  rw [encT_mk] at h
  have h1 := (h.agg (.sl (l.map .str) none) (by simp)).sl
  have h2 := (h.agg (.sl (ks.map encT) none) (by simp)).sl
  refine ⟨by simpa [maxLen] using h1.1, by simpa [maxLen] using h2.1, fun t ht c hc => h2.2 c ?_⟩
  exact List.mem_flatMap.2 ⟨encT t, List.mem_map.2 ⟨t, ht, rfl⟩, hc⟩
mutual
def sameT : Ty → Ty → Bool
  | .mk k p n s l ks, .mk k' p' n' s' l' ks' => decide (k = k') && decide (p = p') && decide (n = n') && decide (s = s') && decide (l = l') && decide (ks.length = ks'.length) && sameTs ks ks'
def sameTs : List Ty → List Ty → Bool
  | t :: ts, u :: us => sameT t u && sameTs ts us
  | _, _ => true
end
theorem encP_mk (k : Int) (c v : Str) (l : List Str) (a : List Vl) (t : Ty) (ks : List Pr) : encP (.mk k c v l a t ks) = .agg (.int .i64 k :: .str c :: .str v :: .sl (l.map .str) none :: .sl (a.map encV) none :: ((encT t).cells ++ [.sl (ks.map encP) none])) := by rw [encP, encPs_eq]; rfl
theorem encP_one (p : Pr) : (encP p).cells.all V.one = true := by
  obtain ⟨k, c, v, l, a, t, ks⟩ := p
  rw [encP_mk, c_agg]
  simp [V.one, encT_one]
theorem take_T (t : Ty) (l : List V) : ((encT t).cells ++ l).take 6 = (encT t).cells := by
  have h := List.take_left (l₁ := (encT t).cells) (l₂ := l); rwa [encT_len] at h
theorem drop_T (t : Ty) (l : List V) : ((encT t).cells ++ l).drop 6 = l := by
  have h := List.drop_left (l₁ := (encT t).cells) (l₂ := l); rwa [encT_len] at h
theorem len_T (t : Ty) (l : List V) : ((encT t).cells ++ l).length = l.length + 6 := by rw [List.length_append, encT_len, Nat.add_comm]
theorem all_T (t : Ty) (l : List V) : ((encT t).cells ++ l).all V.one = l.all V.one := by rw [List.all_append, encT_one, Bool.true_and]
theorem encV_cells (v : Vl) : (encV v).cells = [.int .i64 v.kind, .str v.name, .int .i64 v.n] := rfl
theorem encP_pure (p : Pr) : PureV (encP p) ∧ (encP p).bare = encP p := by
  obtain ⟨k, c, v, l, a, t, ks⟩ := p
  have ht : ∀ x ∈ (encT t).cells, PureV x ∧ x.bare = x := fun x hx => by
    obtain ⟨k, p, n, s, l, ks⟩ := t
    rw [encT_mk] at hx
    simp only [c_agg, List.mem_cons, List.not_mem_nil, or_false] at hx
    rcases hx with rfl | rfl | rfl | rfl | rfl | rfl
    · exact ⟨PureV.int _ _, rfl⟩
    · exact ⟨PureV.int _ _, rfl⟩
    · exact ⟨PureV.str _, rfl⟩
    · exact ⟨PureV.int _ _, rfl⟩
    · exact ⟨PureV.sl _ _, rfl⟩
    · exact ⟨PureV.sl _ _, rfl⟩
  have hall : ∀ x ∈ (.int .i64 k :: .str c :: .str v :: .sl (l.map .str) none :: .sl (a.map encV) none :: ((encT t).cells ++ [.sl (ks.map encP) none]) : List V), PureV x ∧ x.bare = x := fun x hx => by
    simp only [List.mem_cons, List.mem_append, List.not_mem_nil, or_false] at hx
    rcases hx with rfl | rfl | rfl | rfl | rfl | hx | rfl
    · exact ⟨PureV.int _ _, rfl⟩
    · exact ⟨PureV.str _, rfl⟩
    · exact ⟨PureV.str _, rfl⟩
    · exact ⟨PureV.sl _ _, rfl⟩
    · exact ⟨PureV.sl _ _, rfl⟩
    · exact ht x hx
    · exact ⟨PureV.sl _ _, rfl⟩
  rw [encP_mk]
  refine ⟨PureV.agg fun x hx => (hall x hx).1, ?_⟩
  rw [V.bare_agg]
  congr 1
  exact (List.map_congr_left fun x hx => (hall x hx).2).trans (List.map_id _)
theorem Real.pr {k : Int} {c v : Str} {l : List Str} {a : List Vl} {t : Ty} {ks : List Pr} (h : Real (encP (.mk k c v l a t ks))) : l.length ≤ 9223372036854775807 ∧ a.length ≤ 9223372036854775807 ∧ ks.length ≤ 9223372036854775807 := by
  rw [encP_mk] at h
  have h1 := (h.agg (.sl (l.map .str) none) (by simp)).sl.1
  have h2 := (h.agg (.sl (a.map encV) none) (by simp)).sl.1
  have h3 := (h.agg (.sl (ks.map encP) none) (by simp)).sl.1
  simp only [maxLen, List.length_map] at h1 h2 h3
  exact ⟨h1, h2, h3⟩
mutual
def raiseT (k : Int) : Ty → Ty
  | .mk kind prio name shift labels kids => .mk kind (if 4 ≤ kind ∧ kind ≤ 7 then IntKind.wrap .i64 (prio + k) else prio) name shift labels (raiseTs k kids)
def raiseTs (k : Int) : List Ty → List Ty
  | [] => []
  | t :: ts => raiseT k t :: raiseTs k ts
end
theorem raiseTs_eq (k : Int) (l : List Ty) : raiseTs k l = l.map (raiseT k) := by
  induction l with
  | nil => rfl
  | cons t l ih => simp [raiseTs, ih]
theorem encT_part (t : Ty) : (encT t).cells.length = 6 ∧ (encT t).cells.all V.one = true ∧ ∀ c ∈ (encT t).cells, PureV c := by
  refine ⟨encT_len t, encT_one t, fun c hc => ?_⟩
  obtain ⟨k, p, n, s, l, ks⟩ := t
  rw [encT_mk] at hc
  simp only [c_agg, List.mem_cons, List.not_mem_nil, or_false] at hc
  rcases hc with rfl | rfl | rfl | rfl | rfl | rfl
  · exact PureV.int _ _
  · exact PureV.int _ _
  · exact PureV.str _
  · exact PureV.int _ _
  · exact PureV.sl _ _
  · exact PureV.sl _ _
theorem encT_bare (t : Ty) : (encT t).bare = encT t := (encT_pure t).2
theorem encP_bare (p : Pr) : (encP p).bare = encP p := (encP_pure p).2
theorem encT_pureL (t : Ty) : ∀ c ∈ (encT t).cells, PureV c := (encT_part t).2.2
theorem encP_pureL (p : Pr) : ∀ c ∈ (encP p).cells, PureV c := by
  have h := (encP_pure p).1
  obtain ⟨k, c, v, l, a, t, ks⟩ := p
  intro x hx
  rw [encP_mk, c_agg] at hx
  simp only [List.mem_cons, List.mem_append, List.not_mem_nil, or_false] at hx
  rcases hx with rfl | rfl | rfl | rfl | rfl | hx | rfl
  · exact PureV.int _ _
  · exact PureV.str _
  · exact PureV.str _
  · exact PureV.sl _ _
  · exact PureV.sl _ _
  · exact encT_pureL t x hx
  · exact PureV.sl _ _
theorem encP_dlen (p : Pr) (n : Nat) : ((encP p).cells.drop n).length = 12 - n := by rw [List.length_drop, encP_len]
theorem take_P (t : Pr) (l : List V) : ((encP t).cells ++ l).take 12 = (encP t).cells := by
  have h := List.take_left (l₁ := (encP t).cells) (l₂ := l); rwa [encP_len] at h
theorem drop_P (t : Pr) (l : List V) : ((encP t).cells ++ l).drop 12 = l := by
  have h := List.drop_left (l₁ := (encP t).cells) (l₂ := l); rwa [encP_len] at h
theorem len_P (t : Pr) (l : List V) : ((encP t).cells ++ l).length = l.length + 12 := by rw [List.length_append, encP_len, Nat.add_comm]
theorem all_P (t : Pr) (l : List V) : ((encP t).cells ++ l).all V.one = l.all V.one := by rw [List.all_append, encP_one, Bool.true_and]
theorem drop_P24 (t : Pr) (l : List V) : ((encP t).cells ++ l).drop 24 = l.drop 12 := by
  rw [show 24 = 12 + 12 from rfl, ← List.drop_drop, drop_P]
end Go.Duo

namespace Go.Duo
open Go
def nameL (k : Int) (p : Bool) : Str := Lib.itoa k ++ [if p then 43 else 45]
def dig (c : UInt8) : Bool := decide (48 ≤ c.toNat) && decide (c.toNat ≤ 57)
def foldD (n : Nat) (l : Str) : Nat := l.foldl (fun n c => 10 * n + (c.toNat - 48)) n
theorem decDigits_dig (u : Nat) : ∀ c ∈ Lib.decDigits u, dig c = true := by
  induction u using Nat.strongRecOn with
  | ind u ih =>
    intro c hc
    rw [Lib.decDigits] at hc
    split at hc
    · rename_i h
      have : c = UInt8.ofNat (48 + u) := by simpa using hc
      subst this
      simp only [dig, Bool.and_eq_true, decide_eq_true_eq, UInt8.toNat_ofNat']
      omega
    · rename_i h
      rcases List.mem_append.1 hc with hc | hc
      · exact ih _ (by omega) c hc
      · have : c = UInt8.ofNat (48 + u % 10) := by simpa using hc
        subst this
        simp only [dig, Bool.and_eq_true, decide_eq_true_eq, UInt8.toNat_ofNat']
        omega
theorem foldD_append (n : Nat) (a b : Str) : foldD n (a ++ b) = foldD (foldD n a) b := List.foldl_append
theorem foldD_dec (u : Nat) : foldD 0 (Lib.decDigits u) = u := by
  induction u using Nat.strongRecOn with
  | ind u ih =>
    rw [Lib.decDigits]
    split
    · rename_i h
      simp only [foldD, List.foldl, UInt8.toNat_ofNat']
      omega
    · rename_i h
      rw [foldD_append, ih _ (by omega)]
      simp only [foldD, List.foldl, UInt8.toNat_ofNat']
      omega
theorem foldD_ge (l : Str) : ∀ n, n ≤ foldD n l := by
  induction l with
  | nil => exact fun n => Nat.le_refl n
  | cons c l ih => intro n; exact Nat.le_trans (by omega) (ih (10 * n + (c.toNat - 48)))
theorem foldD_cons (n : Nat) (c : UInt8) (l : Str) : foldD n (c :: l) = foldD (10 * n + (c.toNat - 48)) l := by unfold foldD; rw [List.foldl_cons]
theorem parseUintM_step {M acc : Nat} {c : UInt8} {l : Str} (hc : 48 ≤ c.toNat ∧ c.toNat ≤ 57) (h1 : ¬ 1844674407370955162 ≤ acc) (h2 : ¬ M < acc * 10 + (c.toNat - 48)) : Lib.parseUintM M acc (c :: l) = Lib.parseUintM M (acc * 10 + (c.toNat - 48)) l := by
  simp [Lib.parseUintM, hc, h1, h2]
theorem parseUintM_dig (M : Nat) (hM : M ≤ 4294967295) (l : Str) : ∀ (acc : Nat), (∀ c ∈ l, dig c = true) → foldD acc l ≤ M → Lib.parseUintM M acc l = .ok (foldD acc l) := by
  induction l with
  | nil => intro acc _ _; rfl
  | cons c l ih =>
    intro acc hd hf
    have hc := hd c (List.mem_cons_self ..)
    simp only [dig, Bool.and_eq_true, decide_eq_true_eq] at hc
    rw [foldD_cons] at hf
    have h1 := foldD_ge l (10 * acc + (c.toNat - 48))
    have h2 := ih _ (fun c hc => hd c (List.mem_cons_of_mem _ hc)) hf
    have h3 : ¬ 1844674407370955162 ≤ acc := by omega
    rw [parseUintM_step hc h3 (by omega), foldD_cons, Nat.mul_comm acc 10]
    exact h2
theorem decDigits_cons (u : Nat) : ∃ c l, Lib.decDigits u = c :: l ∧ dig c = true := by
  cases h : Lib.decDigits u with
  | nil => have := Lib.decDigits_length u; rw [h] at this; have h2 := Lib.nDigits_pos u; simp at this; omega
  | cons c l => exact ⟨c, l, rfl, decDigits_dig u c (by rw [h]; exact List.mem_cons_self ..)⟩
theorem parseIntB_plain {c : UInt8} {r : Str} {u : Nat} (h1 : ¬ (c.toNat = 43 ∨ c.toNat = 45)) (h2 : Lib.parseUintB 32 (c :: r) = .ok u) (h3 : u ≤ 2147483647) : Lib.parseIntB 32 (c :: r) = .ok (u : Int) := by
  have h4 : ¬ c.toNat = 45 := fun h => h1 (.inr h)
  have h5 : (if c.toNat = 43 ∨ c.toNat = 45 then r else c :: r) = c :: r := if_neg h1
  unfold Lib.parseIntB
  simp only [h5, h2]
  simp only [h4, not_false_eq_true, true_and, false_and, if_false]
  exact if_neg (by omega)
theorem parseIntB_itoa (k : Nat) (h : k ≤ 2147483647) : Lib.parseIntB 32 (Lib.itoa k) = .ok (k : Int) := by
  rw [Lib.itoa_nonneg]
  obtain ⟨c, l, hcl, hc⟩ := decDigits_cons k
  have hp : Lib.parseUintB 32 (Lib.decDigits k) = .ok k := by
    rw [Lib.parseUintB, if_neg (by rw [hcl]; simp), parseUintM_dig _ (by decide) _ _ (decDigits_dig k) (by rw [foldD_dec]; omega), foldD_dec]
  simp only [dig, Bool.and_eq_true, decide_eq_true_eq] at hc
  rw [hcl] at hp ⊢
  exact parseIntB_plain (by omega) hp h
theorem parseIntB_ok {s : Str} {k : Int} (h : Lib.parseIntB 32 s = .ok k) : k ≤ 2147483647 := by
  cases s with
  | nil => cases h
  | cons c r =>
    simp only [Lib.parseIntB] at h
    split at h
    · cases h
    · cases h
    · rename_i u hu
      split at h
      · cases h
      · split at h
        · cases h
        · rename_i h1 h2
          cases h
          split
          · omega
          · rename_i h3; have : ¬ 2147483648 ≤ u := fun h4 => h1 ⟨h3, by simpa using h4⟩; omega
theorem nameL_ne_nil (k : Int) (p : Bool) : nameL k p ≠ [] := by simp [nameL]
theorem nameL_dropLast (k : Int) (p : Bool) : (nameL k p).dropLast = Lib.itoa k := by simp [nameL]
theorem nameL_last (k : Int) (p : Bool) : (nameL k p).getLast? = some (if p then 43 else 45) := by simp [nameL]
/-- The endpoint that a name is. -/
def epL (s : Str) : Option (Nat × Bool) :=
  if foldD 0 s.dropLast ≤ 2147483647 ∧ s = nameL (foldD 0 s.dropLast) (decide (s.getLast? = some 43)) then some (foldD 0 s.dropLast, decide (s.getLast? = some 43)) else none
theorem epL_some {s : Str} {k : Nat} {p : Bool} : epL s = some (k, p) ↔ k ≤ 2147483647 ∧ s = nameL k p := by
  unfold epL
  constructor
  · intro h
    split at h
    · rename_i hh; cases h; exact hh
    · cases h
  · rintro ⟨hk, rfl⟩
    have h1 : foldD 0 (nameL k p).dropLast = k := by rw [nameL_dropLast, Lib.itoa_nonneg, foldD_dec]
    have h2 : decide ((nameL (k : Int) p).getLast? = some 43) = p := by rw [nameL_last]; cases p <;> decide
    rw [h1, h2, if_pos ⟨hk, rfl⟩]
theorem epL_none {s : Str} : epL s = none ↔ ∀ (k : Nat) (p : Bool), k ≤ 2147483647 → s ≠ nameL k p := by
  constructor
  · intro h k p hk hs
    rw [epL_some.2 ⟨hk, hs⟩] at h; cases h
  · intro h
    cases h' : epL s with
    | none => rfl
    | some x => obtain ⟨k, p⟩ := x; have := epL_some.1 h'; exact absurd this.2 (h k p this.1)
def epV (s : Str) : V := match epL s with
  | some (k, p) => .tuple [.int .i64 k, .bool p, .bool true]
  | none => .tuple [.int .i64 0, .bool false, .bool false]
theorem snoc (s : Str) (h : s ≠ []) : ∃ a c, s = a ++ [c] := ⟨s.dropLast, s.getLast h, (List.dropLast_concat_getLast h).symm⟩
/-- As the program reads it. -/
theorem epL_prog_some {a : Str} {c : UInt8} {k : Int} (h1 : Lib.parseIntB 32 a = .ok k) (h2 : nameL k (decide ([c] = [43])) = a ++ [c]) (h3 : 0 ≤ k) : epV (a ++ [c]) = .tuple [.int .i64 k, .bool (decide ([c] = [43])), .bool true] := by
  obtain ⟨n, rfl⟩ := Int.eq_ofNat_of_zero_le h3
  have := parseIntB_ok h1
  unfold epV
  rw [epL_some.2 ⟨by omega, h2.symm⟩]
theorem epL_prog_none {a : Str} {c : UInt8} (h : ∀ k : Int, Lib.parseIntB 32 a = .ok k → nameL k (decide ([c] = [43])) = a ++ [c] → k < 0) : epV (a ++ [c]) = .tuple [.int .i64 0, .bool false, .bool false] := by
  unfold epV
  cases h' : epL (a ++ [c]) with
  | none => rfl
  | some x =>
    obtain ⟨k, p⟩ := x
    obtain ⟨hk, hs⟩ := epL_some.1 h'
    have ha : a = Lib.itoa k := by rw [← nameL_dropLast k p, ← hs]; simp
    have hc : some c = some (if p then (43 : UInt8) else 45) := by rw [← nameL_last k p, ← hs]; simp
    have hp : decide ([c] = [43]) = p := by cases hc; cases p <;> decide
    have h1 := h k (by rw [ha]; exact parseIntB_itoa k hk) (by rw [hp]; exact hs.symm)
    omega
theorem epL_nil : epL [] = none := epL_none.2 fun k p _ h => nameL_ne_nil k p h.symm
/-- As the reference reads it. -/
theorem epV_ref_none {s : Str} (h : ∀ (k : Nat) (p : Bool), k ≤ 2147483647 → s ≠ nameL k p) : epV s = .tuple [.int .i64 0, .bool false, .bool false] := by
  unfold epV; rw [epL_none.2 h]
theorem epV_ref_some {s : Str} {k : Nat} (hk : k ≤ 2147483647) (p : Bool) (hs : s = nameL k p) : epV s = .tuple [.int .i64 k, .bool p, .bool true] := by
  unfold epV; rw [epL_some.2 ⟨hk, hs⟩]
theorem itoa_len31 {k : Nat} (hk : k ≤ 2147483647) : 1 ≤ (Lib.itoa k).length ∧ (Lib.itoa k).length ≤ 10 := by
  rw [Lib.itoa_nonneg, Lib.decDigits_length]
  refine ⟨Lib.nDigits_pos k, ?_⟩
  rcases Nat.lt_or_ge 10 (Lib.nDigits k) with h | h
  · exfalso
    have h1 := Lib.nDigits_pos k
    have : ∀ n u, 10 ^ n ≤ u ∨ Lib.nDigits u ≤ n ∨ n = 0 := by
      intro n
      induction n with
      | zero => intro u; exact .inr (.inr rfl)
      | succ n ih =>
        intro u
        by_cases hu : u < 10
        · rw [Lib.nDigits_small hu]; exact .inr (.inl (by omega))
        · rw [Lib.nDigits_big hu]
          rcases ih (u / 10) with h | h | h
          · refine .inl ?_; rw [Nat.pow_succ]; omega
          · exact .inr (.inl (by omega))
          · subst h; exact .inl (by omega)
    rcases this 10 k with h | h | h <;> omega
  · exact h
theorem itoa_min : Lib.itoa (-9223372036854775808) = [45, 57, 50, 50, 51, 51, 55, 50, 48, 51, 54, 56, 53, 52, 55, 55, 53, 56, 48, 56] := by
  rw [show (-9223372036854775808 : Int) = -((9223372036854775808 : Nat) : Int) from rfl, Lib.itoa_neg _ (by decide)]
  simp [Lib.decDigits]
theorem itoa_minus {n : Int} (h : n < 0) : [45] ++ Lib.itoa (0 - n) = Lib.itoa n := by
  obtain ⟨m, hm⟩ : ∃ m : Nat, n = -(m : Int) := ⟨n.natAbs, by omega⟩
  subst hm
  rw [Lib.itoa_neg m (by omega), show (0 - -(m : Int)) = (m : Int) by omega, Lib.itoa_nonneg]; rfl
theorem itoa_small {n : Int} (h0 : 0 ≤ n) (h : n < 10) : ((([48, 49, 50, 51, 52, 53, 54, 55, 56, 57] : Str).take (n % 10 + 1).toNat).drop (n % 10).toNat) = Lib.itoa n := by
  obtain ⟨m, rfl⟩ := Int.eq_ofNat_of_zero_le h0
  rw [Lib.itoa_nonneg]
  have : m < 10 := by omega
  rcases m with _ | _ | _ | _ | _ | _ | _ | _ | _ | _ | m <;> first | omega | (rw [Lib.decDigits, dif_pos (by decide)]; rfl)
theorem itoa_big {n : Int} (h : 10 ≤ n) : Lib.itoa (n / 10) ++ ((([48, 49, 50, 51, 52, 53, 54, 55, 56, 57] : Str).take (n % 10 + 1).toNat).drop (n % 10).toNat) = Lib.itoa n := by
  have h1 := itoa_small (n := n % 10) (by omega) (by omega)
  rw [show n % 10 % 10 = n % 10 by omega] at h1
  rw [h1]
  obtain ⟨m, rfl⟩ := Int.eq_ofNat_of_zero_le (show 0 ≤ n by omega)
  rw [show ((m : Int) / 10) = ((m / 10 : Nat) : Int) by omega, show ((m : Int) % 10) = ((m % 10 : Nat) : Int) by omega, Lib.itoa_nonneg, Lib.itoa_nonneg, Lib.itoa_nonneg]
  conv => rhs; rw [Lib.decDigits, dif_neg (by omega)]
  rw [Lib.decDigits_one (show m % 10 < 10 by omega)]
/-- The place of the first one, or -1. -/
def idxL (l : List Str) (c : Str) : Int := if c ∈ l then ((l.takeWhile fun x => !decide (x = c)).length : Nat) else -1
theorem idxL_ge (l : List Str) (c : Str) : decide (0 ≤ idxL l c) = decide (c ∈ l) := by
  unfold idxL; split <;> simp_all
theorem notin_step {l : List Str} {c : Str} {i : Nat} (h : c ∉ l.take i) (hlt : i < l.length) (hq : ¬ l[i] = c) : c ∉ l.take (i + 1) := by
  rw [List.take_add_one, List.getElem?_eq_getElem hlt]
  simp only [Option.toList, List.mem_append, List.mem_singleton]
  rintro (h' | h')
  · exact h h'
  · exact hq h'.symm
theorem idxL_none {l : List Str} {c : Str} (h : c ∉ l) : idxL l c = -1 := if_neg h
theorem takeWhile_first {α : Type} (p : α → Bool) : ∀ (a : List α) (x : α) (b : List α), (∀ y ∈ a, p y = true) → p x = false → (a ++ x :: b).takeWhile p = a := by
  intro a
  induction a with
  | nil => intro x b _ h; simp [h]
  | cons y a ih => intro x b h1 h2; rw [List.cons_append, List.takeWhile_cons, if_pos (h1 y (List.mem_cons_self ..)), ih x b (fun z hz => h1 z (List.mem_cons_of_mem _ hz)) h2]
theorem idxL_at {l : List Str} {c : Str} {i : Nat} (h : c ∉ l.take i) (hlt : i < l.length) (hq : l[i] = c) : idxL l c = i := by
  unfold idxL
  rw [if_pos (hq ▸ List.getElem_mem hlt)]
  have : l.takeWhile (fun x => !decide (x = c)) = l.take i := by
    conv => lhs; rw [← List.take_append_drop i l, List.drop_eq_getElem_cons hlt]
    refine takeWhile_first _ _ _ _ (fun y hy => ?_) (by simp [hq])
    have : ¬ y = c := fun h' => h (h' ▸ hy)
    simp [this]
  rw [this, List.length_take]; omega
theorem foldD_lt : ∀ (l : Str) (n : Nat), (∀ c ∈ l, dig c = true) → foldD n l + 1 ≤ (n + 1) * 10 ^ l.length := by
  intro l
  induction l with
  | nil => intro n _; simp [foldD]
  | cons c l ih =>
    intro n h
    have hc := h c (List.mem_cons_self ..)
    simp only [dig, Bool.and_eq_true, decide_eq_true_eq] at hc
    have h1 := ih (10 * n + (c.toNat - 48)) (fun c hc => h c (List.mem_cons_of_mem _ hc))
    rw [foldD_cons, List.length_cons, Nat.pow_succ]
    have h2 : 10 * n + (c.toNat - 48) + 1 ≤ 10 * (n + 1) := by omega
    have h3 := Nat.mul_le_mul_right (10 ^ l.length) h2
    calc foldD (10 * n + (c.toNat - 48)) l + 1 ≤ (10 * n + (c.toNat - 48) + 1) * 10 ^ l.length := h1
      _ ≤ 10 * (n + 1) * 10 ^ l.length := h3
      _ = (n + 1) * (10 ^ l.length * 10) := by rw [Nat.mul_comm 10 (n + 1), Nat.mul_assoc, Nat.mul_comm 10]
theorem foldD_bound {l : Str} (h : ∀ c ∈ l, dig c = true) (hl : l.length ≤ 10) : foldD 0 l ≤ 9999999999 := by
  have h1 := foldD_lt l 0 h
  have h2 : 10 ^ l.length ≤ 10 ^ 10 := Nat.pow_le_pow_right (by decide) hl
  omega
theorem foldD_take {s : Str} {i : Nat} (h : i < s.length) : foldD 0 (s.take (i + 1)) = 10 * foldD 0 (s.take i) + (s[i].toNat - 48) := by
  rw [List.take_add_one, List.getElem?_eq_getElem h, foldD_append]; simp only [Option.toList, foldD_cons]; rfl
theorem dig_take {s : Str} {i : Nat} (h : i < s.length) (h1 : ∀ c ∈ s.take i, dig c = true) (h2 : 48 ≤ s[i].toNat) (h3 : s[i].toNat ≤ 57) : ∀ c ∈ s.take (i + 1), dig c = true := by
  rw [List.take_add_one, List.getElem?_eq_getElem h]
  intro c hc
  rcases List.mem_append.1 hc with hc | hc
  · exact h1 c hc
  · have : c = s[i] := by simpa using hc
    subst this; simp [dig, h2, h3]
theorem nameL_len {k : Nat} (hk : k ≤ 2147483647) (p : Bool) : 2 ≤ (nameL k p).length ∧ (nameL k p).length ≤ 11 := by
  have := itoa_len31 hk
  simp only [nameL, List.length_append, List.length_cons, List.length_nil]; omega
theorem ref_short {s : Str} (h : s.length < 2 ∨ 11 < s.length) : epV s = .tuple [.int .i64 0, .bool false, .bool false] := epV_ref_none fun k p hk hs => by
  subst hs; have := nameL_len hk p; omega
theorem ref_nodig {s : Str} {i : Nat} (h : i < s.length) (h1 : i + 1 < s.length) (h2 : s[i].toNat < 48 ∨ 57 < s[i].toNat) : epV s = .tuple [.int .i64 0, .bool false, .bool false] := epV_ref_none fun k p hk hs => by
  have h3 : s[i] ∈ s.dropLast := by rw [List.mem_iff_getElem]; exact ⟨i, by rw [List.length_dropLast]; omega, by rw [List.getElem_dropLast]⟩
  have h4 : dig s[i] = true := decDigits_dig k _ (by rw [← Lib.itoa_nonneg, ← nameL_dropLast k p, ← hs]; exact h3)
  simp only [dig, Bool.and_eq_true, decide_eq_true_eq] at h4; omega
theorem ref_noname {s : Str} (h : 2147483647 < foldD 0 (s.take (s.length - 1)) ∨ (¬ s = nameL (foldD 0 (s.take (s.length - 1)) : Nat) true ∧ ¬ s = nameL (foldD 0 (s.take (s.length - 1)) : Nat) false)) : epV s = .tuple [.int .i64 0, .bool false, .bool false] := epV_ref_none fun k p hk hs => by
  have h1 : foldD 0 (s.take (s.length - 1)) = k := by rw [← List.dropLast_eq_take, hs, nameL_dropLast, Lib.itoa_nonneg, foldD_dec]
  rw [h1] at h
  rcases h with h | h
  · omega
  · cases p
    · exact h.2 hs
    · exact h.1 hs
theorem ref_name {s : Str} {n : Nat} (h : n ≤ 2147483647) (h1 : s.length - 1 < s.length) (h2 : s = nameL n true ∨ s = nameL n false) : epV s = .tuple [.int .i64 n, .bool (decide ((s[s.length - 1].toNat : Int) = 43)), .bool true] := by
  have h3 : s[s.length - 1]? = s.getLast? := by rw [List.getLast?_eq_getElem?]
  rw [List.getElem?_eq_getElem h1] at h3
  rcases h2 with h2 | h2
  · rw [epV_ref_some h true h2]
    have h4 : s.getLast? = some 43 := by rw [h2]; exact nameL_last n true
    rw [h4] at h3; have h5 : s[s.length - 1] = 43 := by simpa using h3
    rw [h5]; rfl
  · rw [epV_ref_some h false h2]
    have h4 : s.getLast? = some 45 := by rw [h2]; exact nameL_last n false
    rw [h4] at h3; have h5 : s[s.length - 1] = 45 := by simpa using h3
    rw [h5]; rfl
def dualV (s : Str) : V := match epL s with
  | some (k, p) => .tuple [.str (nameL k (!p)), .bool true]
  | none => .tuple [.str [], .bool false]
def epK (s : Str) : Int := match epL s with | some (k, _) => k | none => 0
def epP (s : Str) : Bool := match epL s with | some (_, p) => p | none => false
def epO (s : Str) : Bool := (epL s).isSome
theorem epV_eq (s : Str) : epV s = .tuple [.int .i64 (epK s), .bool (epP s), .bool (epO s)] := by unfold epV epK epP epO; cases epL s <;> rfl
theorem epK_lt (s : Str) : 0 ≤ epK s ∧ epK s ≤ 2147483647 := by
  unfold epK
  cases h : epL s with
  | none => simp
  | some x => obtain ⟨k, p⟩ := x; have := (epL_some.1 h).1; simp only; omega
def dualN (s : Str) : Str := if epO s = true then nameL (epK s) (!(epP s)) else []
theorem dualV_eq (s : Str) : dualV s = .tuple [.str (dualN s), .bool (epO s)] := by unfold dualV dualN epO epK epP; cases epL s <;> rfl
theorem dualV_no {s : Str} (h : epO s = false) : dualV s = .tuple [.str [], .bool false] := by rw [dualV_eq, dualN, h]; rfl
theorem dualV_yes {s : Str} (h : epO s = true) : dualV s = .tuple [.str (nameL (epK s) (!(epP s))), .bool true] := by rw [dualV_eq, dualN, h]; rfl
end Go.Duo

namespace Go.Duo
open Go
def Pr.kind : Pr → Int | .mk k _ _ _ _ _ _ => k
def Pr.chan : Pr → Str | .mk _ c _ _ _ _ _ => c
def Pr.labels : Pr → List Str | .mk _ _ _ l _ _ _ => l
theorem encP_f0 (p : Pr) (u : V) : (encP p).cells.headD u = .int .i64 p.kind := by obtain ⟨k, c, v, l, a, t, ks⟩ := p; rw [encP_mk]; rfl
theorem encP_f1 (p : Pr) (u : V) : ((encP p).cells.drop 1).headD u = .str p.chan := by obtain ⟨k, c, v, l, a, t, ks⟩ := p; rw [encP_mk]; rfl
theorem encP_f3 (p : Pr) (u : V) : ((encP p).cells.drop 3).headD u = .sl (p.labels.map .str) none := by obtain ⟨k, c, v, l, a, t, ks⟩ := p; rw [encP_mk]; rfl
structure Rx where
  o : Int
  i : Int
  c : Int
  p : Bool
  deriving DecidableEq
def encR (r : Rx) : V := .agg [.int .i64 r.o, .int .i64 r.i, .int .i64 r.c, .bool r.p]
def Rx.zero : Rx := ⟨0, 0, 0, false⟩
theorem encR_cells (r : Rx) : (encR r).cells = [.int .i64 r.o, .int .i64 r.i, .int .i64 r.c, .bool r.p] := rfl
theorem encR_inj (a b : Rx) : (decide (a.o = b.o) && (decide (a.i = b.i) && (decide (a.c = b.c) && (decide (a.p = b.p) && true)))) = decide (a = b) := by
  cases a; cases b; simp [Bool.decide_and]
/-- The two cells of an array of two numbers. -/
def encD (d : Int × Int) : V := .agg [.int .i64 d.1, .int .i64 d.2]
theorem encD_cells (d : Int × Int) : (encD d).cells = [.int .i64 d.1, .int .i64 d.2] := rfl
def encI (n : Int) : V := .int .i64 n
def meetL (a b : Pr) : Bool := match epL a.chan with
  | some (k, p) => decide (nameL k (!p) = b.chan)
  | none => false
theorem meetL_eq (a b : Pr) : meetL a b = (epO a.chan && decide (dualN a.chan = b.chan)) := by unfold meetL dualN epO epK epP; cases epL a.chan <;> simp
def fitL (a b : Pr) : Bool := decide (a.kind = 2) && decide (b.kind = 3) || decide (a.kind = 4) && decide (b.kind = 5) && decide (a.labels.headD [] ∈ b.labels)
/-- Where the program's code takes the first label, there is one. -/
def hasL (a : Pr) : Prop := a.kind = 4 → a.labels ≠ []
def pickR (l : List Rx) (n : Int) : Rx := l.getD (n % (l.length : Int)).toNat Rx.zero
theorem tmod_lo (n : Int) {m : Int} (h : 0 < m) : -m < n.tmod m := by
  rcases Int.le_total 0 n with h1 | h1
  · rw [Int.tmod_eq_emod_of_nonneg h1]; have := Int.emod_nonneg n (show m ≠ 0 by omega); omega
  · have h2 := Int.neg_tmod (a := n) (b := m)
    have h3 : (-n).tmod m = (-n) % m := Int.tmod_eq_emod_of_nonneg (by omega)
    have h4 := Int.emod_lt_of_pos (-n) h
    omega
theorem tmod_hi (n : Int) {m : Int} (h : 0 < m) : n.tmod m < m := by
  rcases Int.le_total 0 n with h1 | h1
  · rw [Int.tmod_eq_emod_of_nonneg h1]; exact Int.emod_lt_of_pos n h
  · have h2 := Int.neg_tmod (a := n) (b := m)
    have h3 : (-n).tmod m = (-n) % m := Int.tmod_eq_emod_of_nonneg (by omega)
    have h4 := Int.emod_nonneg (-n) (show m ≠ 0 by omega)
    omega
theorem tmod_emod (n : Int) (m : Int) : (n.tmod m) % m = n % m := by
  have h : n = m * n.tdiv m + n.tmod m := (Int.mul_tdiv_add_tmod n m).symm
  conv => rhs; rw [h]
  rw [Int.add_comm, Int.add_mul_emod_self_left]
theorem tmod_add (n : Int) (m : Int) : (n.tmod m + m) % m = n % m := by rw [Int.add_emod_right, tmod_emod]
theorem Real.row {α : Type} {f : α → V} {l : List α} (h : Real (.sl (l.map f) none)) : l.length ≤ 9223372036854775807 := by simpa [maxLen] using h.sl.1
section
variable {α β : Type}
def partL (n : Nat) (f : Nat → Nat → Option α) (i k : Nat) : List α := (List.range i).flatMap (fun i => (List.range n).filterMap (f i)) ++ (List.range k).filterMap (f i)
def pairsL (n : Nat) (f : Nat → Nat → Option α) : List α := (List.range n).flatMap fun i => (List.range n).filterMap (f i)
theorem partL_end (n : Nat) (f : Nat → Nat → Option α) : partL n f n 0 = pairsL n f := by simp [partL, pairsL]
theorem partL_succ (n : Nat) (f : Nat → Nat → Option α) (i k : Nat) : partL n f i (k + 1) = partL n f i k ++ (f i k).toList := by
  rw [partL, partL, List.range_succ, List.filterMap_append, ← List.append_assoc]
  cases h : f i k <;> simp [h]
theorem partL_some {n : Nat} {f : Nat → Nat → Option α} {i k : Nat} {x : α} (h : f i k = some x) : partL n f i (k + 1) = partL n f i k ++ [x] := by rw [partL_succ, h]; rfl
theorem partL_none {n : Nat} {f : Nat → Nat → Option α} {i k : Nat} (h : f i k = none) : partL n f i (k + 1) = partL n f i k := by rw [partL_succ, h]; simp
theorem partL_turn (n : Nat) (f : Nat → Nat → Option α) (i : Nat) : partL n f i n = partL n f (i + 1) 0 := by
  simp [partL, List.range_succ, List.flatMap_append]
theorem partL_skip {n : Nat} {f : Nat → Nat → Option α} {i : Nat} : ∀ k, (∀ j, j < k → f i j = none) → partL n f i k = partL n f i 0 := by
  intro k
  induction k with
  | zero => intro _; rfl
  | succ k ih => intro h; rw [partL_none (h k (Nat.lt_succ_self k)), ih fun j hj => h j (by omega)]
theorem range_flat_le (n : Nat) (f : Nat → Nat → Option α) : ∀ i, ((List.range i).flatMap fun i => (List.range n).filterMap (f i)).length ≤ i * n := by
  intro i
  induction i with
  | zero => simp
  | succ i ih =>
    rw [List.range_succ, List.flatMap_append, List.length_append, Nat.succ_mul]
    have h1 : ((List.range n).filterMap (f i)).length ≤ n := by have := List.length_filterMap_le (f i) (List.range n); rwa [List.length_range] at this
    simp only [List.flatMap_cons, List.flatMap_nil, List.append_nil]
    omega
theorem partL_len {n : Nat} {f : Nat → Nat → Option α} {i k : Nat} (hn : n ≤ 1000000) (hi : i ≤ n) (hk : k ≤ n) : (partL n f i k).length ≤ 1000001000000 := by
  have h1 := range_flat_le n f i
  have h2 : ((List.range k).filterMap (f i)).length ≤ k := by have := List.length_filterMap_le (f i) (List.range k); rwa [List.length_range] at this
  have h3 : i * n ≤ 1000000 * 1000000 := Nat.mul_le_mul (by omega) hn
  rw [partL, List.length_append]
  omega
theorem pairsL_bind (n : Nat) (f : Nat → Nat → Option α) (g : α → Option β) : (pairsL n f).filterMap g = pairsL n fun i k => (f i k).bind g := by
  unfold pairsL
  rw [List.filterMap_flatMap]
  congr 1
  funext i
  rw [List.filterMap_filterMap]
theorem filterMap_eq {f g : Nat → Option α} : ∀ l : List Nat, (∀ k ∈ l, f k = g k) → l.filterMap f = l.filterMap g := by
  intro l
  induction l with
  | nil => intro _; rfl
  | cons k l ih => intro h; rw [List.filterMap_cons, List.filterMap_cons, h k (List.mem_cons_self ..), ih fun j hj => h j (List.mem_cons_of_mem _ hj)]
theorem pairsL_congr {n : Nat} {f g : Nat → Nat → Option α} (h : ∀ i k, i < n → k < n → f i k = g i k) : pairsL n f = pairsL n g := by
  unfold pairsL
  have key : ∀ l : List Nat, (∀ i ∈ l, i < n) → l.flatMap (fun i => (List.range n).filterMap (f i)) = l.flatMap fun i => (List.range n).filterMap (g i) := by
    intro l
    induction l with
    | nil => intro _; rfl
    | cons i l ih =>
      intro hl
      rw [List.flatMap_cons, List.flatMap_cons, ih fun j hj => hl j (List.mem_cons_of_mem _ hj)]
      congr 1
      exact filterMap_eq _ fun k hk => h i k (hl i (List.mem_cons_self ..)) (List.mem_range.1 hk)
  exact key _ fun i hi => List.mem_range.1 hi
theorem mem_pairsL {n : Nat} {f : Nat → Nat → Option α} {x : α} : x ∈ pairsL n f ↔ ∃ i k, i < n ∧ k < n ∧ f i k = some x := by
  unfold pairsL
  simp only [List.mem_flatMap, List.mem_filterMap, List.mem_range]
  constructor
  · rintro ⟨i, hi, k, hk, h⟩; exact ⟨i, k, hi, hk, h⟩
  · rintro ⟨i, k, hi, hk, h⟩; exact ⟨i, hi, k, hk, h⟩
end
def Pr.z : Pr := .mk 0 [] [] [] [] (.mk 0 0 [] 0 [] []) []
/-- The redex of two threads. -/
def rxAt (l : List Pr) (i k : Nat) : Option Rx := if i ≠ k ∧ meetL (l.getD i .z) (l.getD k .z) = true ∧ fitL (l.getD i .z) (l.getD k .z) = true then some ⟨i, k, epK (l.getD i .z).chan, epP (l.getD i .z).chan⟩ else none
def listL (l : List Pr) : List Rx := pairsL l.length (rxAt l)
def clAt (l : List Pr) (i k : Nat) : Option (Int × Int) := if i < k ∧ meetL (l.getD i .z) (l.getD k .z) = true ∧ fitL (l.getD i .z) (l.getD k .z) = false ∧ fitL (l.getD k .z) (l.getD i .z) = false then some ((i : Int), (k : Int)) else none
def clashL (l : List Pr) : List (Int × Int) := pairsL l.length (clAt l)
theorem rxAt_some {l : List Pr} {i k : Nat} (hi : i < l.length) (hk : k < l.length) (h : i ≠ k) (h1 : meetL l[i] l[k] = true) (h2 : fitL l[i] l[k] = true) : rxAt l i k = some ⟨i, k, epK l[i].chan, epP l[i].chan⟩ := by
  unfold rxAt; rw [getD_ltI _ _ _ hi, getD_ltI _ _ _ hk, if_pos ⟨h, h1, h2⟩]
theorem rxAt_none {l : List Pr} {i k : Nat} (hi : i < l.length) (hk : k < l.length) (h : i = k ∨ meetL l[i] l[k] = false ∨ fitL l[i] l[k] = false) : rxAt l i k = none := by
  unfold rxAt; rw [getD_ltI _ _ _ hi, getD_ltI _ _ _ hk, if_neg]
  rintro ⟨h1, h2, h3⟩
  rcases h with h | h | h
  · exact h1 h
  · rw [h] at h2; cases h2
  · rw [h] at h3; cases h3
def busyL (r : List Rx) (i : Nat) : Bool := r.any fun x => decide (x.o = i) || decide (x.i = i)
def idleL (r : List Rx) (n : Nat) : List Int := ((List.range n).filter fun i => !busyL r i).map Int.ofNat
def waitL (l : List Pr) : List Int := idleL (listL l) l.length
theorem busy_succ {r : List Rx} {k : Nat} (h : k < r.length) (i : Nat) : busyL (r.take (k + 1)) i = (busyL (r.take k) i || (decide (r[k].o = i) || decide (r[k].i = i))) := by
  unfold busyL
  rw [List.take_add_one, List.getElem?_eq_getElem h, List.any_append]
  simp only [Option.toList, List.any_cons, List.any_nil, Bool.or_false]
theorem idle_no {r : List Rx} {n : Nat} (h : busyL r n = true) : idleL r (n + 1) = idleL r n := by
  simp [idleL, List.range_succ, h]
theorem idle_yes {r : List Rx} {n : Nat} (h : busyL r n = false) : idleL r (n + 1) = idleL r n ++ [(n : Int)] := by
  simp [idleL, List.range_succ, h]
theorem idle_len (r : List Rx) (n : Nat) : (idleL r n).length ≤ n := by
  have h := List.length_filter_le (fun i => !busyL r i) (List.range n)
  rw [List.length_range] at h
  rw [idleL, List.length_map]; exact h
structure Th where
  ch : UInt8
  p : Bool
  kind : UInt8
  label : UInt8
def encTh (t : Th) : V := .agg [.int .u8 t.ch.toNat, .bool t.p, .int .u8 t.kind.toNat, .int .u8 t.label.toNat]
theorem encTh_cells (t : Th) : (encTh t).cells = [.int .u8 t.ch.toNat, .bool t.p, .int .u8 t.kind.toNat, .int .u8 t.label.toNat] := rfl
def Ty.z : Ty := .mk 0 0 [] 0 [] []
def stopL : Pr := .mk 1 [] [] [] [] .z []
def chanL (t : Th) : Str := if t.ch = 9 then [120] else nameL t.ch.toNat t.p
def labelL (t : Th) : Str := if t.label.toNat % 3 = 0 then [97] else if t.label.toNat % 3 = 1 then [98] else [99]
def threadL (t : Th) : Pr :=
  if t.kind.toNat % 4 = 0 then .mk 2 (chanL t) [] [] [⟨2, [], 1⟩] .z [stopL]
  else if t.kind.toNat % 4 = 1 then .mk 3 (chanL t) [120] [] [] .z [stopL]
  else if t.kind.toNat % 4 = 2 then .mk 4 (chanL t) [] [labelL t] [] .z [stopL]
  else .mk 5 (chanL t) [] [labelL t, [100]] [] .z [stopL, stopL]
theorem threadL_hasL (t : Th) : hasL (threadL t) := by
  unfold threadL hasL
  split
  · simp [Pr.kind]
  · split
    · simp [Pr.kind]
    · split <;> simp [Pr.kind, Pr.labels]
theorem labelL_get (t : Th) : ([V.str [97], V.str [98], V.str [99]] : List V).getD ((t.label.toNat : Int) % 3).toNat V.undef = .str (labelL t) := by
  unfold labelL
  have h : t.label.toNat % 3 = 0 ∨ t.label.toNat % 3 = 1 ∨ t.label.toNat % 3 = 2 := by omega
  have e : ((t.label.toNat : Int) % 3).toNat = t.label.toNat % 3 := by omega
  rw [e]
  rcases h with h | h | h <;> rw [h] <;> rfl
theorem chanL_9 {t : Th} (h : (t.ch.toNat : Int) = 9) : chanL t = [120] := if_pos (UInt8.toNat.inj (by simpa using (show t.ch.toNat = 9 by omega)))
theorem chanL_n {t : Th} (h : ¬ (t.ch.toNat : Int) = 9) : chanL t = nameL t.ch.toNat t.p := if_neg fun h' => h (by rw [h']; rfl)
def thrL (l : List Th) (i : Nat) : List V := (l.take i).map fun t => encP (threadL t)
theorem thrL_zero (l : List Th) : thrL l 0 = [] := rfl
theorem thrL_succ {l : List Th} {i : Nat} (h : i < l.length) : thrL l (i + 1) = thrL l i ++ [encP (threadL l[i])] := by
  unfold thrL; rw [List.take_add_one, List.getElem?_eq_getElem h, List.map_append]; rfl
theorem thrL_len (l : List Th) (i : Nat) : (thrL l i).length ≤ i := by rw [thrL, List.length_map, List.length_take]; omega
theorem thrL_end (l : List Th) : thrL l l.length = (l.map threadL).map encP := by rw [thrL, List.take_length, List.map_map]; rfl
def zT : List V := [.int .i64 0, .int .i64 0, .str [], .int .i64 0, .sl [] none, .sl [] none]
theorem encT_z : (encT .z).cells = zT := by rw [Ty.z, encT_mk]; rfl
theorem stopL_enc : encP stopL = .agg [.int .i64 1, .str [], .str [], .sl [] none, .sl [] none, .int .i64 0, .int .i64 0, .str [], .int .i64 0, .sl [] none, .sl [] none, .sl [] none] := by rw [stopL, encP_mk, encT_z]; rfl
theorem thr0 {t : Th} (h : (t.kind.toNat : Int) % 4 = 0) {c : Str} (hc : chanL t = c) : encP (threadL t) = .agg [.int .i64 2, .str c, .str [], .sl [] none, .sl [.agg [.int .i64 2, .str [], .int .i64 1]] none, .int .i64 0, .int .i64 0, .str [], .int .i64 0, .sl [] none, .sl [] none, .sl [encP stopL] none] := by
  subst hc; rw [threadL, if_pos (by omega), encP_mk, encT_z]; rfl
theorem thr1 {t : Th} (h : (t.kind.toNat : Int) % 4 = 1) {c : Str} (hc : chanL t = c) : encP (threadL t) = .agg [.int .i64 3, .str c, .str [120], .sl [] none, .sl [] none, .int .i64 0, .int .i64 0, .str [], .int .i64 0, .sl [] none, .sl [] none, .sl [encP stopL] none] := by
  subst hc; rw [threadL, if_neg (by omega), if_pos (by omega), encP_mk, encT_z]; rfl
theorem thr2 {t : Th} (h : (t.kind.toNat : Int) % 4 = 2) {c : Str} (hc : chanL t = c) : encP (threadL t) = .agg [.int .i64 4, .str c, .str [], .sl [.str (labelL t)] none, .sl [] none, .int .i64 0, .int .i64 0, .str [], .int .i64 0, .sl [] none, .sl [] none, .sl [encP stopL] none] := by
  subst hc; rw [threadL, if_neg (by omega), if_neg (by omega), if_pos (by omega), encP_mk, encT_z]; rfl
theorem thr3 {t : Th} (h : (t.kind.toNat : Int) % 4 = 3) {c : Str} (hc : chanL t = c) : encP (threadL t) = .agg [.int .i64 5, .str c, .str [], .sl [.str (labelL t), .str [100]] none, .sl [] none, .int .i64 0, .int .i64 0, .str [], .int .i64 0, .sl [] none, .sl [] none, .sl [encP stopL, encP stopL] none] := by
  subst hc; rw [threadL, if_neg (by omega), if_neg (by omega), if_neg (by omega), encP_mk, encT_z]; rfl
def mAt (l : List Pr) (i k : Nat) : Option (Nat × Nat) := if i ≠ k ∧ meetL (l.getD i .z) (l.getD k .z) = true then some (i, k) else none
def mCells (l : List Pr) (i k : Nat) : List V := .int .i64 i :: .int .i64 k :: .int .i64 (epK (l.getD i .z).chan) :: .bool (epP (l.getD i .z).chan) :: ((encP (l.getD i .z)).cells ++ (encP (l.getD k .z)).cells)
def meetsL (l : List Pr) : List (Nat × Nat) := pairsL l.length (mAt l)
def encM (l : List Pr) (x : Nat × Nat) : List V := [.agg (mCells l x.1 x.2)]
theorem partL_pre {α : Type} (n : Nat) (f : Nat → Nat → Option α) (i : Nat) {k m : Nat} (h : k ≤ m) : partL n f i k <+: partL n f i m := by
  obtain ⟨d, rfl⟩ := Nat.le.dest h
  induction d with
  | zero => exact List.prefix_rfl
  | succ d ih => refine (ih (by omega)).trans ?_; rw [← Nat.add_assoc, partL_succ]; exact List.prefix_append _ _
theorem partL_all {α : Type} (n : Nat) (f : Nat → Nat → Option α) {i k : Nat} (hi : i < n) (hk : k ≤ n) : partL n f i k <+: pairsL n f := by
  have key : ∀ d i, i + d = n → partL n f i 0 <+: pairsL n f := by
    intro d
    induction d with
    | zero => intro i h; simp only [Nat.add_zero] at h; subst h; rw [partL_end]; exact List.prefix_rfl
    | succ d ih => intro i h; refine (partL_pre n f i (Nat.zero_le n)).trans ?_; rw [partL_turn]; exact ih (i + 1) (by omega)
  refine (partL_pre n f i hk).trans ?_
  rw [partL_turn]
  exact key (n - (i + 1)) (i + 1) (by omega)
theorem pairsL_at {α : Type} {n : Nat} {f : Nat → Nat → Option α} {i k : Nat} (hi : i < n) (hk : k < n) {x : α} (h : f i k = some x) : (pairsL n f)[(partL n f i k).length]? = some x := by
  obtain ⟨r, hr⟩ := partL_all n f hi (show k + 1 ≤ n by omega)
  rw [partL_some h] at hr
  rw [← hr, List.append_assoc, List.getElem?_append_right (Nat.le_refl _), Nat.sub_self]; rfl
theorem mAt_some {l : List Pr} {i k : Nat} (hi : i < l.length) (hk : k < l.length) (h : i ≠ k) (h1 : meetL l[i] l[k] = true) : mAt l i k = some (i, k) := by
  unfold mAt; rw [getD_ltI _ _ _ hi, getD_ltI _ _ _ hk, if_pos ⟨h, h1⟩]
theorem mAt_none {l : List Pr} {i k : Nat} (hi : i < l.length) (hk : k < l.length) (h : i = k ∨ meetL l[i] l[k] = false) : mAt l i k = none := by
  unfold mAt; rw [getD_ltI _ _ _ hi, getD_ltI _ _ _ hk, if_neg]
  rintro ⟨h1, h2⟩
  rcases h with h | h
  · exact h1 h
  · rw [h] at h2; cases h2
theorem meet_yes {a b : Pr} (h : epO a.chan = true) : meetL a b = decide (nameL (epK a.chan) (!(epP a.chan)) = b.chan) := by rw [meetL_eq, dualN, h, if_pos rfl, Bool.true_and]
theorem meet_no {a b : Pr} (h : epO a.chan = false) : meetL a b = false := by rw [meetL_eq, h, Bool.false_and]
theorem mAt_skip {l : List Pr} {i : Nat} (hi : i < l.length) (h : epO l[i].chan = false) : partL l.length (mAt l) i l.length = partL l.length (mAt l) i 0 :=
  partL_skip _ fun j hj => mAt_none hi hj (.inr (meet_no h))
theorem mCells_eq {l : List Pr} {i k : Nat} (hi : i < l.length) (hk : k < l.length) : mCells l i k = .int .i64 i :: .int .i64 k :: .int .i64 (epK l[i].chan) :: .bool (epP l[i].chan) :: ((encP l[i]).cells ++ (encP l[k]).cells) := by
  unfold mCells; rw [getD_ltI _ _ _ hi, getD_ltI _ _ _ hk]
theorem mCells_pure (l : List Pr) (i k : Nat) : PureV (.agg (mCells l i k)) ∧ (V.agg (mCells l i k)).bare = .agg (mCells l i k) := by
  have hb : ∀ p : Pr, (encP p).cells.map V.bare = (encP p).cells := fun p => by
    have h := encP_bare p
    rw [← encP_cells p, V.bare_agg] at h
    simpa using h
  refine ⟨PureV.agg ?_, ?_⟩
  · exact PureL.cons (PureV.int _ _) (PureL.cons (PureV.int _ _) (PureL.cons (PureV.int _ _) (PureL.cons (PureV.bool _) (PureL.app (encP_pureL _) (encP_pureL _)))))
  · rw [V.bare_agg]; unfold mCells; simp only [List.map_cons, List.map_append, hb]; rfl
theorem yld_alone {x : O} {l : List O} (h : ∀ o ∈ l, o.isYld = false) : ∀ (j : Nat) (o : O), (x :: l)[j]? = some o → j ≠ 0 → o.isYld = false := by
  intro j o hj hne
  cases j with
  | zero => exact absurd rfl hne
  | succ j => exact h o (List.mem_iff_getElem?.2 ⟨j, by simpa using hj⟩)
theorem mem_meets {l : List Pr} {n a b : Nat} (h : (meetsL l)[n]? = some (a, b)) : a < l.length ∧ b < l.length ∧ a ≠ b := by
  obtain ⟨i, k, hi, hk, he⟩ := mem_pairsL.1 (List.mem_iff_getElem?.2 ⟨n, h⟩)
  unfold mAt at he
  split at he
  · rename_i hh; cases he; exact ⟨hi, hk, hh.1⟩
  · cases he
theorem encM_at {l : List Pr} {n : Nat} {x : List V} (h : ((meetsL l).map (encM l))[n]? = some x) : ∃ a b, (meetsL l)[n]? = some (a, b) ∧ x = encM l (a, b) := by
  rw [List.getElem?_map] at h
  cases h' : (meetsL l)[n]? with
  | none => rw [h'] at h; cases h
  | some ab => rw [h'] at h; obtain ⟨a, b⟩ := ab; cases h; exact ⟨a, b, rfl, rfl⟩
section
variable {α : Type}
/-- What a filter of the first n meetings leaves. -/
def fmL (l : List Pr) (g : Nat × Nat → Option α) (n : Nat) : List α := ((meetsL l).take n).filterMap g
theorem fmL_some {l : List Pr} {g : Nat × Nat → Option α} {n : Nat} {ab : Nat × Nat} {x : α} (h : (meetsL l)[n]? = some ab) (hg : g ab = some x) : fmL l g (n + 1) = fmL l g n ++ [x] := by
  unfold fmL; rw [List.take_add_one, h, List.filterMap_append]; simp [hg]
theorem fmL_none {l : List Pr} {g : Nat × Nat → Option α} {n : Nat} {ab : Nat × Nat} (h : (meetsL l)[n]? = some ab) (hg : g ab = none) : fmL l g (n + 1) = fmL l g n := by
  unfold fmL; rw [List.take_add_one, h, List.filterMap_append]; simp [hg]
theorem fmL_all (l : List Pr) (g : Nat × Nat → Option α) : fmL l g (meetsL l).length = (meetsL l).filterMap g := by unfold fmL; rw [List.take_length]
theorem meetsL_len {l : List Pr} (h : l.length ≤ 1000000) : (meetsL l).length ≤ 1000001000000 := by rw [meetsL, ← partL_end]; exact partL_len h (Nat.le_refl _) (Nat.zero_le _)
theorem fmL_len {l : List Pr} (g : Nat × Nat → Option α) (n : Nat) (h : l.length ≤ 1000000) : (fmL l g n).length ≤ 1000001000000 := by
  have h1 := List.length_filterMap_le g ((meetsL l).take n)
  have h2 := meetsL_len h
  rw [List.length_take] at h1
  unfold fmL; omega
end
def rxP (l : List Pr) (x : Nat × Nat) : Option Rx := if fitL (l.getD x.1 .z) (l.getD x.2 .z) = true then some ⟨x.1, x.2, epK (l.getD x.1 .z).chan, epP (l.getD x.1 .z).chan⟩ else none
def clP (l : List Pr) (x : Nat × Nat) : Option (Int × Int) := if x.1 < x.2 ∧ fitL (l.getD x.1 .z) (l.getD x.2 .z) = false ∧ fitL (l.getD x.2 .z) (l.getD x.1 .z) = false then some ((x.1 : Int), (x.2 : Int)) else none
theorem rxP_some {l : List Pr} {a b : Nat} (ha : a < l.length) (hb : b < l.length) (h : fitL l[a] l[b] = true) : rxP l (a, b) = some ⟨a, b, epK l[a].chan, epP l[a].chan⟩ := by
  unfold rxP; simp only []; rw [getD_ltI _ _ _ ha, getD_ltI _ _ _ hb, if_pos h]
theorem rxP_none {l : List Pr} {a b : Nat} (ha : a < l.length) (hb : b < l.length) (h : fitL l[a] l[b] = false) : rxP l (a, b) = none := by
  unfold rxP; simp only []; rw [getD_ltI _ _ _ ha, getD_ltI _ _ _ hb, if_neg (by rw [h]; simp)]
theorem clP_some {l : List Pr} {a b : Nat} (ha : a < l.length) (hb : b < l.length) (h0 : a < b) (h : fitL l[a] l[b] = false) (h' : fitL l[b] l[a] = false) : clP l (a, b) = some ((a : Int), (b : Int)) := by
  unfold clP; simp only []; rw [getD_ltI _ _ _ ha, getD_ltI _ _ _ hb, if_pos ⟨h0, h, h'⟩]
theorem clP_none {l : List Pr} {a b : Nat} (ha : a < l.length) (hb : b < l.length) (h : b ≤ a ∨ fitL l[a] l[b] = true ∨ fitL l[b] l[a] = true) : clP l (a, b) = none := by
  unfold clP; simp only []; rw [getD_ltI _ _ _ ha, getD_ltI _ _ _ hb, if_neg]
  rintro ⟨h1, h2, h3⟩
  rcases h with h | h | h
  · omega
  · rw [h] at h2; cases h2
  · rw [h] at h3; cases h3
theorem listL_meets (l : List Pr) : (meetsL l).filterMap (rxP l) = listL l := by
  unfold meetsL listL
  rw [pairsL_bind]
  refine pairsL_congr fun i k hi hk => ?_
  unfold mAt rxAt rxP
  by_cases h : i ≠ k ∧ meetL (l.getD i .z) (l.getD k .z) = true
  · rw [if_pos h]; simp only [Option.bind_some]
    by_cases h2 : fitL (l.getD i .z) (l.getD k .z) = true
    · rw [if_pos h2, if_pos ⟨h.1, h.2, h2⟩]
    · rw [if_neg h2, if_neg fun h3 => h2 h3.2.2]
  · rw [if_neg h, if_neg fun h3 => h ⟨h3.1, h3.2.1⟩]; rfl
theorem clashL_meets (l : List Pr) : (meetsL l).filterMap (clP l) = clashL l := by
  unfold meetsL clashL
  rw [pairsL_bind]
  refine pairsL_congr fun i k hi hk => ?_
  unfold mAt clAt clP
  by_cases h : i ≠ k ∧ meetL (l.getD i .z) (l.getD k .z) = true
  · rw [if_pos h]; simp only [Option.bind_some]
    by_cases h2 : i < k ∧ fitL (l.getD i .z) (l.getD k .z) = false ∧ fitL (l.getD k .z) (l.getD i .z) = false
    · rw [if_pos h2, if_pos ⟨h2.1, h.2, h2.2⟩]
    · rw [if_neg h2, if_neg fun h3 => h2 ⟨h3.1, h3.2.2⟩]
  · rw [if_neg h, if_neg fun h3 => h ⟨by omega, h3.2.1⟩]; rfl
def busyV (n : Nat) (r : List Rx) (k : Nat) : List V := (List.range n).map fun i => .bool (busyL (r.take k) i)
theorem busyV_len (n : Nat) (r : List Rx) (k : Nat) : (busyV n r k).length = n := by rw [busyV, List.length_map, List.length_range]
theorem busyV_zero (n : Nat) (r : List Rx) : busyV n r 0 = List.replicate n (.bool false) := by
  unfold busyV
  rw [List.take_zero]
  exact List.ext_getElem (by simp) fun i h1 h2 => by rw [List.getElem_map, List.getElem_replicate]; rfl
theorem flat_busy (n : Nat) (r : List Rx) (k : Nat) : flat (busyV n r k) = busyV n r k := by
  unfold busyV flat
  induction List.range n with
  | nil => rfl
  | cons i l ih => rw [List.map_cons, List.flatMap_cons, ih]; rfl
theorem busyV_at {n i : Nat} (h : i < n) (r : List Rx) (k : Nat) (u : V) : ((busyV n r k).drop i).headD u = .bool (busyL (r.take k) i) := by
  have h1 : i < (busyV n r k).length := by rw [busyV_len]; exact h
  rw [List.drop_eq_getElem_cons h1]
  simp [busyV]
theorem busyV_set {n : Nat} {r : List Rx} {k : Nat} (hk : k < r.length) {x y : Nat} (hx : r[k].o = x) (hy : r[k].i = y) : ((busyV n r k).set x (.bool true)).set y (.bool true) = busyV n r (k + 1) := by
  refine List.ext_getElem (by simp [busyV_len]) fun i h1 h2 => ?_
  rw [List.getElem_set, List.getElem_set]
  simp only [busyV, List.getElem_map, List.getElem_range, busy_succ hk, hx, hy]
  by_cases h3 : y = i
  · subst h3; simp
  · rw [if_neg h3]
    by_cases h4 : x = i
    · subst h4; simp
    · rw [if_neg h4]
      have h5 : ¬ (x : Int) = i := by omega
      have h6 : ¬ (y : Int) = i := by omega
      simp [h5, h6]
theorem listL_at {l : List Pr} {k : Nat} (h : k < (listL l).length) : ∃ x y : Nat, (listL l)[k].o = x ∧ (listL l)[k].i = y ∧ x < l.length ∧ y < l.length ∧ x ≠ y := by
  obtain ⟨i, j, hi, hj, he⟩ := mem_pairsL.1 (List.getElem_mem h)
  unfold rxAt at he
  split at he
  · rename_i hh
    have := Option.some.inj he
    exact ⟨i, j, by rw [← this], by rw [← this], hi, hj, hh.1⟩
  · cases he
end Go.Duo

namespace Go.Duo
open Go
theorem PB : (∀ (t : Ty) (l : List V), ((encT t).cells ++ l).take 6 = (encT t).cells) ∧
    (∀ (t : Ty) (l : List V), ((encT t).cells ++ l).drop 6 = l) ∧
    (∀ (t : Ty) (l : List V), ((encT t).cells ++ l).length = l.length + 6) ∧
    (∀ (t : Ty) (l : List V), ((encT t).cells ++ l).all V.one = l.all V.one) ∧
    (∀ (t : Ty), (encT t).cells.take 6 = (encT t).cells) ∧
    (∀ (t : Ty), .agg (encT t).cells = encT t) ∧
    (∀ (t : Ty), (encT t).cells.length = 6) ∧
    (∀ (t : Ty), (encT t).cells.all V.one = true) ∧
    (∀ (p : Pr), (encP p).cells.take 12 = (encP p).cells) ∧
    (∀ (p : Pr), .agg (encP p).cells = encP p) ∧
    (∀ (p : Pr), (encP p).cells.length = 12) ∧
    (∀ (p : Pr), (encP p).cells.all V.one = true) ∧
    (∀ (p : Pr) (n : Nat), ((encP p).cells.drop n).length = 12 - n) ∧
    (∀ (p : Pr) (u : V), (encP p).cells.headD u = .int .i64 p.kind) ∧
    (∀ (p : Pr) (u : V), ((encP p).cells.drop 1).headD u = .str p.chan) ∧
    (∀ (p : Pr) (u : V), ((encP p).cells.drop 3).headD u = .sl (p.labels.map .str) none) ∧
    (∀ (s : Str), epV s = .tuple [.int .i64 (epK s), .bool (epP s), .bool (epO s)]) ∧
    (∀ (s : Str), dualV s = .tuple [.str (dualN s), .bool (epO s)]) :=
  ⟨@take_T, @drop_T, @len_T, @all_T, @encT_take, @encT_cells, @encT_len, @encT_one, @encP_take, @encP_cells, @encP_len, @encP_one, @encP_dlen, @encP_f0, @encP_f1, @encP_f3, @epV_eq, @dualV_eq⟩
theorem MB : (∀ (t : Pr) (l : List V), ((encP t).cells ++ l).take 12 = (encP t).cells) ∧
    (∀ (t : Pr) (l : List V), ((encP t).cells ++ l).drop 12 = l) ∧
    (∀ (t : Pr) (l : List V), ((encP t).cells ++ l).length = l.length + 12) ∧
    (∀ (t : Pr) (l : List V), ((encP t).cells ++ l).all V.one = l.all V.one) ∧
    (∀ (t : Pr) (l : List V), ((encP t).cells ++ l).drop 24 = l.drop 12) :=
  ⟨@take_P, @drop_P, @len_P, @all_P, @drop_P24⟩
theorem KB : (∀ (n : Int) (h1 : -9223372036854775808 ≤ n) (h2 : n ≤ 9223372036854775807), IntKind.wrap .i64 n = n) ∧
    (∀ {α : Type} (f : α → V) (l : List α) (i : Nat) (u : V) (h : i < l.length), (l.map f).getD i u = f (l[i]'h)) ∧
    (∀ {α : Type} (l : List α) (i : Nat) (u : α) (h : i < l.length), l.getD i u = l[i]'h) ∧
    (∀ (a b : Int) (h : 0 ≤ a), a.tmod b = a % b) ∧
    (∀ (a b : Int) (h : 0 ≤ a), a.tdiv b = a / b) ∧
    (∀ (n : Nat), ((n : Int) - 1).toNat = n - 1) :=
  ⟨@i64w, @getD_lt, @getD_ltI, @tmod_nn, @tdiv_nn, @toNat_sub1⟩
theorem LB : (∀ {α : Type} (a : α) (l : List α), (a :: l).length = l.length + 1) ∧
    (∀ {α : Type}, ([] : List α).length = 0) ∧
    (∀ {α : Type} (a : α) (l : List α), (a :: l)[0]? = some a) ∧
    (∀ {α : Type} (a : α) (l : List α) (i : Nat), (a :: l)[i + 1]? = l[i]?) ∧
    (∀ {α : Type} (a b : α) (l : List α), (a :: l).set 0 b = b :: l) ∧
    (∀ {α : Type} (a b : α) (l : List α) (i : Nat), (a :: l).set (i + 1) b = a :: l.set i b) ∧
    (∀ n : Nat, 0 + n = n) ∧
    (∀ {α : Type} (a : α) (l : List α) (i : Nat), (a :: l).drop (i + 1) = l.drop i) ∧
    (∀ {α : Type} (l : List α), l.drop 0 = l) :=
  ⟨@List.length_cons, @List.length_nil, @List.getElem?_cons_zero, fun _ _ _ => List.getElem?_cons_succ, fun _ _ _ => rfl, fun _ _ _ _ => rfl, Nat.zero_add, fun _ _ _ => rfl, @List.drop_zero⟩
end Go.Duo

namespace Go.Duo
open Go
theorem encT_pureB (t : Ty) : (encT t).cells.all pureB = true := by
  obtain ⟨k, p, n, s, l, ks⟩ := t
  rw [encT_mk, c_agg]; rfl
theorem encP_pureB (p : Pr) : (encP p).cells.all pureB = true := by
  obtain ⟨k, c, v, l, a, t, ks⟩ := p
  rw [encP_mk, c_agg]
  simp [pureB, encT_pureB]
theorem encT_bareL (t : Ty) : V.bare.bareL (encT t).cells = (encT t).cells := by
  obtain ⟨k, p, n, s, l, ks⟩ := t
  rw [encT_mk, c_agg]; rfl
theorem encP_at (l : List Pr) (i : Nat) (h : i < (l.map encP).length) : (l.map encP)[i] = encP (l[i]'(by simpa using h)) := List.getElem_map ..
theorem encT_at (l : List Ty) (i : Nat) (h : i < (l.map encT).length) : (l.map encT)[i] = encT (l[i]'(by simpa using h)) := List.getElem_map ..
attribute [go_sem] PB encT_pureB encP_pureB encT_bare encP_bare encT_bareL encP_at encT_at
end Go.Duo

namespace Go.Duo
open Go
def thA : List Th := [⟨0, true, 0, 0⟩, ⟨0, false, 1, 0⟩, ⟨3, false, 1, 0⟩, ⟨3, true, 1, 0⟩]
def prA : List Pr := [.mk 2 [48, 43] [] [] [⟨2, [], 1⟩] .z [stopL], .mk 3 [48, 45] [120] [] [] .z [stopL], .mk 3 [51, 45] [120] [] [] .z [stopL], .mk 3 [51, 43] [120] [] [] .z [stopL]]
theorem n0p : nameL 0 true = [48, 43] := by simp [nameL, Lib.itoa, Lib.decDigits]
theorem n0m : nameL 0 false = [48, 45] := by simp [nameL, Lib.itoa, Lib.decDigits]
theorem n3p : nameL 3 true = [51, 43] := by simp [nameL, Lib.itoa, Lib.decDigits]
theorem n3m : nameL 3 false = [51, 45] := by simp [nameL, Lib.itoa, Lib.decDigits]
theorem ep0p : epL [48, 43] = some (0, true) := epL_some.2 ⟨by decide, n0p.symm⟩
theorem ep0m : epL [48, 45] = some (0, false) := epL_some.2 ⟨by decide, n0m.symm⟩
theorem ep3p : epL [51, 43] = some (3, true) := epL_some.2 ⟨by decide, n3p.symm⟩
theorem ep3m : epL [51, 45] = some (3, false) := epL_some.2 ⟨by decide, n3m.symm⟩
theorem thA_pr : thA.map threadL = prA := by
  have h (t : Th) (c : Str) (k : t.ch.toNat ≠ 9) (hc : nameL t.ch.toNat t.p = c) : chanL t = c := by rw [chanL_n (by omega), hc]
  have h0 := h ⟨0, true, 0, 0⟩ _ (by decide) n0p
  have h1 := h ⟨0, false, 1, 0⟩ _ (by decide) n0m
  have h2 := h ⟨3, false, 1, 0⟩ _ (by decide) n3m
  have h3 := h ⟨3, true, 1, 0⟩ _ (by decide) n3p
  have k0 : threadL ⟨0, true, 0, 0⟩ = .mk 2 [48, 43] [] [] [⟨2, [], 1⟩] .z [stopL] := by rw [threadL, if_pos (by decide), h0]
  have k1 : threadL ⟨0, false, 1, 0⟩ = .mk 3 [48, 45] [120] [] [] .z [stopL] := by rw [threadL, if_neg (by decide), if_pos (by decide), h1]
  have k2 : threadL ⟨3, false, 1, 0⟩ = .mk 3 [51, 45] [120] [] [] .z [stopL] := by rw [threadL, if_neg (by decide), if_pos (by decide), h2]
  have k3 : threadL ⟨3, true, 1, 0⟩ = .mk 3 [51, 43] [120] [] [] .z [stopL] := by rw [threadL, if_neg (by decide), if_pos (by decide), h3]
  show [_, _, _, _] = _
  rw [k0, k1, k2, k3]; rfl
theorem listA : listL prA = [⟨0, 1, 0, true⟩] := by
  simp [listL, pairsL, prA, List.range, List.range.loop, rxAt, meetL, fitL, Pr.chan, Pr.kind, Pr.labels, ep0p, ep0m, ep3p, ep3m, n0p, n0m, n3p, n3m, epK, epP]
theorem clashA : clashL prA = [(2, 3)] := by
  simp [clashL, pairsL, prA, List.range, List.range.loop, clAt, meetL, fitL, Pr.chan, Pr.kind, Pr.labels, ep0p, ep0m, ep3p, ep3m, n0p, n0m, n3p, n3m, epK, epP]
theorem waitA : waitL prA = [2, 3] := by
  rw [waitL, listA]; decide
theorem hasA : ∀ x ∈ prA, hasL x := by
  rw [← thA_pr]; intro x hx; obtain ⟨t, _, rfl⟩ := List.mem_map.1 hx; exact threadL_hasL t
theorem chanL_len (t : Th) : (chanL t).length ≤ 2147483647 := by
  unfold chanL
  split
  · decide
  · have h := Lib.itoa_length_le t.ch.toNat (by omega) (by have := UInt8.toNat_lt t.ch; omega)
    rw [nameL, List.length_append]; simp only [List.length_cons, List.length_nil]; omega
theorem threadL_chan (t : Th) : (threadL t).chan = chanL t := by
  unfold threadL; split
  · rfl
  · split
    · rfl
    · split <;> rfl
theorem chanT (l : List Th) : ∀ x ∈ l.map threadL, x.chan.length ≤ 2147483647 := by
  intro x hx; obtain ⟨t, _, rfl⟩ := List.mem_map.1 hx; rw [threadL_chan]; exact chanL_len t
theorem chanA : ∀ x ∈ prA, x.chan.length ≤ 2147483647 := by rw [← thA_pr]; exact chanT thA
theorem pickA : pickR [⟨0, 1, 0, true⟩] (-5) = ⟨0, 1, 0, true⟩ := rfl
end Go.Duo

namespace Go.Duo
open Go
section
variable {l : List Pr}
end
end Go.Duo

namespace Go.Duo
open Go
section
variable {α β : Type}
end
end Go.Duo
