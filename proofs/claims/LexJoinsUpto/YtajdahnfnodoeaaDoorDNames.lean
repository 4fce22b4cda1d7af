/-
  Names of endpoints, in plain Lean: how they are written and read.
-/
import Derived.Test.YtajdahnfnodoeaaDoorDData
import Derived.Lib.ParseIntB
import Derived.Lib.ItoaMem
import Derived.Lib.ItoaLen
set_option linter.all false
namespace Go.Duo
open Go

def nameL (k : Int) (p : Bool) : Str := Lib.itoa k ++ [if p then 43 else 45]
def dig (c : UInt8) : Bool := decide (48 ≤ c.toNat) && decide (c.toNat ≤ 57)
def foldD (n : Nat) (l : Str) : Nat := l.foldl (fun n c => 10 * n + (c.toNat - 48)) n

theorem decDigits_dig (u : Nat) : ∀ c ∈ Lib.decDigits u, dig c = true := by
  induction u using Nat.strongRecOn with
  | ind u ih =>
    intro c hc
    rw [Lib.decDigits] at hc
    split at hc
    · rename_i h
      have : c = UInt8.ofNat (48 + u) := by simpa using hc
      subst this
      simp only [dig, Bool.and_eq_true, decide_eq_true_eq, UInt8.toNat_ofNat']
      omega
    · rename_i h
      rcases List.mem_append.1 hc with hc | hc
      · exact ih _ (by omega) c hc
      · have : c = UInt8.ofNat (48 + u % 10) := by simpa using hc
        subst this
        simp only [dig, Bool.and_eq_true, decide_eq_true_eq, UInt8.toNat_ofNat']
        omega
theorem foldD_append (n : Nat) (a b : Str) : foldD n (a ++ b) = foldD (foldD n a) b := List.foldl_append
theorem foldD_dec (u : Nat) : foldD 0 (Lib.decDigits u) = u := by
  induction u using Nat.strongRecOn with
  | ind u ih =>
    rw [Lib.decDigits]
    split
    · rename_i h
      simp only [foldD, List.foldl, UInt8.toNat_ofNat']
      omega
    · rename_i h
      rw [foldD_append, ih _ (by omega)]
      simp only [foldD, List.foldl, UInt8.toNat_ofNat']
      omega
theorem foldD_ge (l : Str) : ∀ n, n ≤ foldD n l := by
  induction l with
  | nil => exact fun n => Nat.le_refl n
  | cons c l ih => intro n; exact Nat.le_trans (by omega) (ih (10 * n + (c.toNat - 48)))
theorem foldD_cons (n : Nat) (c : UInt8) (l : Str) : foldD n (c :: l) = foldD (10 * n + (c.toNat - 48)) l := by unfold foldD; rw [List.foldl_cons]
theorem parseUintM_step {M acc : Nat} {c : UInt8} {l : Str} (hc : 48 ≤ c.toNat ∧ c.toNat ≤ 57) (h1 : ¬ 1844674407370955162 ≤ acc) (h2 : ¬ M < acc * 10 + (c.toNat - 48)) : Lib.parseUintM M acc (c :: l) = Lib.parseUintM M (acc * 10 + (c.toNat - 48)) l := by
  simp [Lib.parseUintM, hc, h1, h2]
theorem parseUintM_dig (M : Nat) (hM : M ≤ 4294967295) (l : Str) : ∀ (acc : Nat), (∀ c ∈ l, dig c = true) → foldD acc l ≤ M → Lib.parseUintM M acc l = .ok (foldD acc l) := by
  induction l with
  | nil => intro acc _ _; rfl
  | cons c l ih =>
    intro acc hd hf
    have hc := hd c (List.mem_cons_self ..)
    simp only [dig, Bool.and_eq_true, decide_eq_true_eq] at hc
    rw [foldD_cons] at hf
    have h1 := foldD_ge l (10 * acc + (c.toNat - 48))
    have h2 := ih _ (fun c hc => hd c (List.mem_cons_of_mem _ hc)) hf
    have h3 : ¬ 1844674407370955162 ≤ acc := by omega
    rw [parseUintM_step hc h3 (by omega), foldD_cons, Nat.mul_comm acc 10]
    exact h2
theorem parseUintM_ok (M : Nat) : ∀ (l : Str) (acc u : Nat), acc ≤ M → Lib.parseUintM M acc l = .ok u → u ≤ M := by
  intro l
  induction l with
  | nil => intro acc u h h'; rw [Lib.parseUintM] at h'; cases h'; exact h
  | cons c l ih =>
    intro acc u h h'
    rw [Lib.parseUintM] at h'
    split at h'
    · split at h'
      · cases h'
      · split at h'
        · cases h'
        · exact ih _ _ (by omega) h'
    · cases h'
theorem decDigits_cons (u : Nat) : ∃ c l, Lib.decDigits u = c :: l ∧ dig c = true := by
  cases h : Lib.decDigits u with
  | nil => have := Lib.decDigits_length u; rw [h] at this; have h2 := Lib.nDigits_pos u; simp at this; omega
  | cons c l => exact ⟨c, l, rfl, decDigits_dig u c (by rw [h]; exact List.mem_cons_self ..)⟩
theorem parseIntB_plain {c : UInt8} {r : Str} {u : Nat} (h1 : ¬ (c.toNat = 43 ∨ c.toNat = 45)) (h2 : Lib.parseUintB 32 (c :: r) = .ok u) (h3 : u ≤ 2147483647) : Lib.parseIntB 32 (c :: r) = .ok (u : Int) := by
  have h4 : ¬ c.toNat = 45 := fun h => h1 (.inr h)
  have h5 : (if c.toNat = 43 ∨ c.toNat = 45 then r else c :: r) = c :: r := if_neg h1
  unfold Lib.parseIntB
  simp only [h5, h2]
  simp only [h4, not_false_eq_true, true_and, false_and, if_false]
  exact if_neg (by omega)
theorem parseIntB_itoa (k : Nat) (h : k ≤ 2147483647) : Lib.parseIntB 32 (Lib.itoa k) = .ok (k : Int) := by
  rw [Lib.itoa_nonneg]
  obtain ⟨c, l, hcl, hc⟩ := decDigits_cons k
  have hp : Lib.parseUintB 32 (Lib.decDigits k) = .ok k := by
    rw [Lib.parseUintB, if_neg (by rw [hcl]; simp), parseUintM_dig _ (by decide) _ _ (decDigits_dig k) (by rw [foldD_dec]; omega), foldD_dec]
  simp only [dig, Bool.and_eq_true, decide_eq_true_eq] at hc
  rw [hcl] at hp ⊢
  exact parseIntB_plain (by omega) hp h
theorem parseIntB_ok {s : Str} {k : Int} (h : Lib.parseIntB 32 s = .ok k) : k ≤ 2147483647 := by
  cases s with
  | nil => cases h
  | cons c r =>
    simp only [Lib.parseIntB] at h
    split at h
    · cases h
    · cases h
    · rename_i u hu
      split at h
      · cases h
      · split at h
        · cases h
        · rename_i h1 h2
          cases h
          split
          · omega
          · rename_i h3; have : ¬ 2147483648 ≤ u := fun h4 => h1 ⟨h3, by simpa using h4⟩; omega

theorem nameL_ne_nil (k : Int) (p : Bool) : nameL k p ≠ [] := by simp [nameL]
theorem nameL_dropLast (k : Int) (p : Bool) : (nameL k p).dropLast = Lib.itoa k := by simp [nameL]
theorem nameL_last (k : Int) (p : Bool) : (nameL k p).getLast? = some (if p then 43 else 45) := by simp [nameL]
theorem itoa_inj {a b : Nat} (h : Lib.itoa a = Lib.itoa b) : a = b := by
  rw [Lib.itoa_nonneg, Lib.itoa_nonneg] at h
  rw [← foldD_dec a, ← foldD_dec b, h]
theorem nameL_inj {a b : Nat} {p q : Bool} (h : nameL a p = nameL b q) : a = b ∧ p = q := by
  have h1 := congrArg List.dropLast h
  rw [nameL_dropLast, nameL_dropLast] at h1
  have h2 := congrArg List.getLast? h
  rw [nameL_last, nameL_last] at h2
  refine ⟨itoa_inj h1, ?_⟩
  cases p <;> cases q <;> simp_all

/-- The endpoint that a name is. -/
def epL (s : Str) : Option (Nat × Bool) :=
  if foldD 0 s.dropLast ≤ 2147483647 ∧ s = nameL (foldD 0 s.dropLast) (decide (s.getLast? = some 43)) then some (foldD 0 s.dropLast, decide (s.getLast? = some 43)) else none
theorem epL_some {s : Str} {k : Nat} {p : Bool} : epL s = some (k, p) ↔ k ≤ 2147483647 ∧ s = nameL k p := by
  unfold epL
  constructor
  · intro h
    split at h
    · rename_i hh; cases h; exact hh
    · cases h
  · rintro ⟨hk, rfl⟩
    have h1 : foldD 0 (nameL k p).dropLast = k := by rw [nameL_dropLast, Lib.itoa_nonneg, foldD_dec]
    have h2 : decide ((nameL (k : Int) p).getLast? = some 43) = p := by rw [nameL_last]; cases p <;> decide
    rw [h1, h2, if_pos ⟨hk, rfl⟩]
theorem epL_none {s : Str} : epL s = none ↔ ∀ (k : Nat) (p : Bool), k ≤ 2147483647 → s ≠ nameL k p := by
  constructor
  · intro h k p hk hs
    rw [epL_some.2 ⟨hk, hs⟩] at h; cases h
  · intro h
    cases h' : epL s with
    | none => rfl
    | some x => obtain ⟨k, p⟩ := x; have := epL_some.1 h'; exact absurd this.2 (h k p this.1)
def epV (s : Str) : V := match epL s with
  | some (k, p) => .tuple [.int .i64 k, .bool p, .bool true]
  | none => .tuple [.int .i64 0, .bool false, .bool false]

theorem snoc (s : Str) (h : s ≠ []) : ∃ a c, s = a ++ [c] := ⟨s.dropLast, s.getLast h, (List.dropLast_concat_getLast h).symm⟩
/-- As the program reads it. -/
theorem epL_prog_some {a : Str} {c : UInt8} {k : Int} (h1 : Lib.parseIntB 32 a = .ok k) (h2 : nameL k (decide ([c] = [43])) = a ++ [c]) (h3 : 0 ≤ k) : epV (a ++ [c]) = .tuple [.int .i64 k, .bool (decide ([c] = [43])), .bool true] := by
  obtain ⟨n, rfl⟩ := Int.eq_ofNat_of_zero_le h3
  have := parseIntB_ok h1
  unfold epV
  rw [epL_some.2 ⟨by omega, h2.symm⟩]
theorem epL_prog_none {a : Str} {c : UInt8} (h : ∀ k : Int, Lib.parseIntB 32 a = .ok k → nameL k (decide ([c] = [43])) = a ++ [c] → k < 0) : epV (a ++ [c]) = .tuple [.int .i64 0, .bool false, .bool false] := by
  unfold epV
  cases h' : epL (a ++ [c]) with
  | none => rfl
  | some x =>
    obtain ⟨k, p⟩ := x
    obtain ⟨hk, hs⟩ := epL_some.1 h'
    have ha : a = Lib.itoa k := by rw [← nameL_dropLast k p, ← hs]; simp
    have hc : some c = some (if p then (43 : UInt8) else 45) := by rw [← nameL_last k p, ← hs]; simp
    have hp : decide ([c] = [43]) = p := by cases hc; cases p <;> decide
    have h1 := h k (by rw [ha]; exact parseIntB_itoa k hk) (by rw [hp]; exact hs.symm)
    omega
theorem epL_nil : epL [] = none := epL_none.2 fun k p _ h => nameL_ne_nil k p h.symm
/-- As the reference reads it. -/
theorem epV_ref_none {s : Str} (h : ∀ (k : Nat) (p : Bool), k ≤ 2147483647 → s ≠ nameL k p) : epV s = .tuple [.int .i64 0, .bool false, .bool false] := by
  unfold epV; rw [epL_none.2 h]
theorem epV_ref_some {s : Str} {k : Nat} (hk : k ≤ 2147483647) (p : Bool) (hs : s = nameL k p) : epV s = .tuple [.int .i64 k, .bool p, .bool true] := by
  unfold epV; rw [epL_some.2 ⟨hk, hs⟩]
theorem itoa_len31 {k : Nat} (hk : k ≤ 2147483647) : 1 ≤ (Lib.itoa k).length ∧ (Lib.itoa k).length ≤ 10 := by
  rw [Lib.itoa_nonneg, Lib.decDigits_length]
  refine ⟨Lib.nDigits_pos k, ?_⟩
  rcases Nat.lt_or_ge 10 (Lib.nDigits k) with h | h
  · exfalso
    have h1 := Lib.nDigits_pos k
    have : ∀ n u, 10 ^ n ≤ u ∨ Lib.nDigits u ≤ n ∨ n = 0 := by
      intro n
      induction n with
      | zero => intro u; exact .inr (.inr rfl)
      | succ n ih =>
        intro u
        by_cases hu : u < 10
        · rw [Lib.nDigits_small hu]; exact .inr (.inl (by omega))
        · rw [Lib.nDigits_big hu]
          rcases ih (u / 10) with h | h | h
          · refine .inl ?_; rw [Nat.pow_succ]; omega
          · exact .inr (.inl (by omega))
          · subst h; exact .inl (by omega)
    rcases this 10 k with h | h | h <;> omega
  · exact h
theorem itoa_min : Lib.itoa (-9223372036854775808) = [45, 57, 50, 50, 51, 51, 55, 50, 48, 51, 54, 56, 53, 52, 55, 55, 53, 56, 48, 56] := by
  rw [show (-9223372036854775808 : Int) = -((9223372036854775808 : Nat) : Int) from rfl, Lib.itoa_neg _ (by decide)]
  simp [Lib.decDigits]
theorem itoa_minus {n : Int} (h : n < 0) : [45] ++ Lib.itoa (0 - n) = Lib.itoa n := by
  obtain ⟨m, hm⟩ : ∃ m : Nat, n = -(m : Int) := ⟨n.natAbs, by omega⟩
  subst hm
  rw [Lib.itoa_neg m (by omega), show (0 - -(m : Int)) = (m : Int) by omega, Lib.itoa_nonneg]; rfl
theorem itoa_small {n : Int} (h0 : 0 ≤ n) (h : n < 10) : ((([48, 49, 50, 51, 52, 53, 54, 55, 56, 57] : Str).take (n % 10 + 1).toNat).drop (n % 10).toNat) = Lib.itoa n := by
  obtain ⟨m, rfl⟩ := Int.eq_ofNat_of_zero_le h0
  rw [Lib.itoa_nonneg]
  have : m < 10 := by omega
  rcases m with _ | _ | _ | _ | _ | _ | _ | _ | _ | _ | m <;> first | omega | (rw [Lib.decDigits, dif_pos (by decide)]; rfl)
theorem itoa_big {n : Int} (h : 10 ≤ n) : Lib.itoa (n / 10) ++ ((([48, 49, 50, 51, 52, 53, 54, 55, 56, 57] : Str).take (n % 10 + 1).toNat).drop (n % 10).toNat) = Lib.itoa n := by
  have h1 := itoa_small (n := n % 10) (by omega) (by omega)
  rw [show n % 10 % 10 = n % 10 by omega] at h1
  rw [h1]
  obtain ⟨m, rfl⟩ := Int.eq_ofNat_of_zero_le (show 0 ≤ n by omega)
  rw [show ((m : Int) / 10) = ((m / 10 : Nat) : Int) by omega, show ((m : Int) % 10) = ((m % 10 : Nat) : Int) by omega, Lib.itoa_nonneg, Lib.itoa_nonneg, Lib.itoa_nonneg]
  conv => rhs; rw [Lib.decDigits, dif_neg (by omega)]
  rw [Lib.decDigits_one (show m % 10 < 10 by omega)]
/-- The place of the first one, or -1. -/
def idxL (l : List Str) (c : Str) : Int := if c ∈ l then ((l.takeWhile fun x => !decide (x = c)).length : Nat) else -1
theorem idxL_ge (l : List Str) (c : Str) : decide (0 ≤ idxL l c) = decide (c ∈ l) := by
  unfold idxL; split <;> simp_all
theorem notin_step {l : List Str} {c : Str} {i : Nat} (h : c ∉ l.take i) (hlt : i < l.length) (hq : ¬ l[i] = c) : c ∉ l.take (i + 1) := by
  rw [List.take_add_one, List.getElem?_eq_getElem hlt]
  simp only [Option.toList, List.mem_append, List.mem_singleton]
  rintro (h' | h')
  · exact h h'
  · exact hq h'.symm
theorem idxL_none {l : List Str} {c : Str} (h : c ∉ l) : idxL l c = -1 := if_neg h
theorem takeWhile_first {α : Type} (p : α → Bool) : ∀ (a : List α) (x : α) (b : List α), (∀ y ∈ a, p y = true) → p x = false → (a ++ x :: b).takeWhile p = a := by
  intro a
  induction a with
  | nil => intro x b _ h; simp [h]
  | cons y a ih => intro x b h1 h2; rw [List.cons_append, List.takeWhile_cons, if_pos (h1 y (List.mem_cons_self ..)), ih x b (fun z hz => h1 z (List.mem_cons_of_mem _ hz)) h2]
theorem idxL_at {l : List Str} {c : Str} {i : Nat} (h : c ∉ l.take i) (hlt : i < l.length) (hq : l[i] = c) : idxL l c = i := by
  unfold idxL
  rw [if_pos (hq ▸ List.getElem_mem hlt)]
  have : l.takeWhile (fun x => !decide (x = c)) = l.take i := by
    conv => lhs; rw [← List.take_append_drop i l, List.drop_eq_getElem_cons hlt]
    refine takeWhile_first _ _ _ _ (fun y hy => ?_) (by simp [hq])
    have : ¬ y = c := fun h' => h (h' ▸ hy)
    simp [this]
  rw [this, List.length_take]; omega
theorem foldD_lt : ∀ (l : Str) (n : Nat), (∀ c ∈ l, dig c = true) → foldD n l + 1 ≤ (n + 1) * 10 ^ l.length := by
  intro l
  induction l with
  | nil => intro n _; simp [foldD]
  | cons c l ih =>
    intro n h
    have hc := h c (List.mem_cons_self ..)
    simp only [dig, Bool.and_eq_true, decide_eq_true_eq] at hc
    have h1 := ih (10 * n + (c.toNat - 48)) (fun c hc => h c (List.mem_cons_of_mem _ hc))
    rw [foldD_cons, List.length_cons, Nat.pow_succ]
    have h2 : 10 * n + (c.toNat - 48) + 1 ≤ 10 * (n + 1) := by omega
    have h3 := Nat.mul_le_mul_right (10 ^ l.length) h2
    calc foldD (10 * n + (c.toNat - 48)) l + 1 ≤ (10 * n + (c.toNat - 48) + 1) * 10 ^ l.length := h1
      _ ≤ 10 * (n + 1) * 10 ^ l.length := h3
      _ = (n + 1) * (10 ^ l.length * 10) := by rw [Nat.mul_comm 10 (n + 1), Nat.mul_assoc, Nat.mul_comm 10]
theorem foldD_bound {l : Str} (h : ∀ c ∈ l, dig c = true) (hl : l.length ≤ 10) : foldD 0 l ≤ 9999999999 := by
  have h1 := foldD_lt l 0 h
  have h2 : 10 ^ l.length ≤ 10 ^ 10 := Nat.pow_le_pow_right (by decide) hl
  omega
theorem foldD_take {s : Str} {i : Nat} (h : i < s.length) : foldD 0 (s.take (i + 1)) = 10 * foldD 0 (s.take i) + (s[i].toNat - 48) := by
  rw [List.take_add_one, List.getElem?_eq_getElem h, foldD_append]; simp only [Option.toList, foldD_cons]; rfl
theorem dig_take {s : Str} {i : Nat} (h : i < s.length) (h1 : ∀ c ∈ s.take i, dig c = true) (h2 : 48 ≤ s[i].toNat) (h3 : s[i].toNat ≤ 57) : ∀ c ∈ s.take (i + 1), dig c = true := by
  rw [List.take_add_one, List.getElem?_eq_getElem h]
  intro c hc
  rcases List.mem_append.1 hc with hc | hc
  · exact h1 c hc
  · have : c = s[i] := by simpa using hc
    subst this; simp [dig, h2, h3]
theorem nameL_len {k : Nat} (hk : k ≤ 2147483647) (p : Bool) : 2 ≤ (nameL k p).length ∧ (nameL k p).length ≤ 11 := by
  have := itoa_len31 hk
  simp only [nameL, List.length_append, List.length_cons, List.length_nil]; omega
theorem ref_short {s : Str} (h : s.length < 2 ∨ 11 < s.length) : epV s = .tuple [.int .i64 0, .bool false, .bool false] := epV_ref_none fun k p hk hs => by
  subst hs; have := nameL_len hk p; omega
theorem ref_nodig {s : Str} {i : Nat} (h : i < s.length) (h1 : i + 1 < s.length) (h2 : s[i].toNat < 48 ∨ 57 < s[i].toNat) : epV s = .tuple [.int .i64 0, .bool false, .bool false] := epV_ref_none fun k p hk hs => by
  have h3 : s[i] ∈ s.dropLast := by rw [List.mem_iff_getElem]; exact ⟨i, by rw [List.length_dropLast]; omega, by rw [List.getElem_dropLast]⟩
  have h4 : dig s[i] = true := decDigits_dig k _ (by rw [← Lib.itoa_nonneg, ← nameL_dropLast k p, ← hs]; exact h3)
  simp only [dig, Bool.and_eq_true, decide_eq_true_eq] at h4; omega
theorem ref_noname {s : Str} (h : 2147483647 < foldD 0 (s.take (s.length - 1)) ∨ (¬ s = nameL (foldD 0 (s.take (s.length - 1)) : Nat) true ∧ ¬ s = nameL (foldD 0 (s.take (s.length - 1)) : Nat) false)) : epV s = .tuple [.int .i64 0, .bool false, .bool false] := epV_ref_none fun k p hk hs => by
  have h1 : foldD 0 (s.take (s.length - 1)) = k := by rw [← List.dropLast_eq_take, hs, nameL_dropLast, Lib.itoa_nonneg, foldD_dec]
  rw [h1] at h
  rcases h with h | h
  · omega
  · cases p
    · exact h.2 hs
    · exact h.1 hs
theorem ref_name {s : Str} {n : Nat} (h : n ≤ 2147483647) (h1 : s.length - 1 < s.length) (h2 : s = nameL n true ∨ s = nameL n false) : epV s = .tuple [.int .i64 n, .bool (decide ((s[s.length - 1].toNat : Int) = 43)), .bool true] := by
  have h3 : s[s.length - 1]? = s.getLast? := by rw [List.getLast?_eq_getElem?]
  rw [List.getElem?_eq_getElem h1] at h3
  rcases h2 with h2 | h2
  · rw [epV_ref_some h true h2]
    have h4 : s.getLast? = some 43 := by rw [h2]; exact nameL_last n true
    rw [h4] at h3; have h5 : s[s.length - 1] = 43 := by simpa using h3
    rw [h5]; rfl
  · rw [epV_ref_some h false h2]
    have h4 : s.getLast? = some 45 := by rw [h2]; exact nameL_last n false
    rw [h4] at h3; have h5 : s[s.length - 1] = 45 := by simpa using h3
    rw [h5]; rfl
def dualV (s : Str) : V := match epL s with
  | some (k, p) => .tuple [.str (nameL k (!p)), .bool true]
  | none => .tuple [.str [], .bool false]
def epK (s : Str) : Int := match epL s with | some (k, _) => k | none => 0
def epP (s : Str) : Bool := match epL s with | some (_, p) => p | none => false
def epO (s : Str) : Bool := (epL s).isSome
theorem epV_eq (s : Str) : epV s = .tuple [.int .i64 (epK s), .bool (epP s), .bool (epO s)] := by unfold epV epK epP epO; cases epL s <;> rfl
theorem epK_lt (s : Str) : 0 ≤ epK s ∧ epK s ≤ 2147483647 := by
  unfold epK
  cases h : epL s with
  | none => simp
  | some x => obtain ⟨k, p⟩ := x; have := (epL_some.1 h).1; simp only; omega
def dualN (s : Str) : Str := if epO s = true then nameL (epK s) (!(epP s)) else []
theorem dualV_eq (s : Str) : dualV s = .tuple [.str (dualN s), .bool (epO s)] := by unfold dualV dualN epO epK epP; cases epL s <;> rfl
theorem dualV_no {s : Str} (h : epO s = false) : dualV s = .tuple [.str [], .bool false] := by rw [dualV_eq, dualN, h]; rfl
theorem dualV_yes {s : Str} (h : epO s = true) : dualV s = .tuple [.str (nameL (epK s) (!(epP s))), .bool true] := by rw [dualV_eq, dualN, h]; rfl
end Go.Duo
