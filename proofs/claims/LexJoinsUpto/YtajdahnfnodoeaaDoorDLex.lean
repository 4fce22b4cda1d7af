/-
  Tokens: what the lexers compute, in plain Lean.
-/
import Derived.Test.YtajdahnfnodoeaaDoorDNames
set_option linter.all false
namespace Go.Duo
open Go
def letB (c : UInt8) : Bool := (decide (65 ≤ c.toNat) && decide (c.toNat ≤ 90)) || (decide (97 ≤ c.toNat) && decide (c.toNat ≤ 122)) || decide (c.toNat = 95)
def wordB (c : UInt8) : Bool := letB c || dig c
def blankB (c : UInt8) : Bool := decide (c = 32) || decide (c = 9) || decide (c = 10) || decide (c = 13)
def signL : Str := [33, 63, 46, 40, 41, 123, 125, 60, 62, 44, 58, 59, 124, 38, 43, 61]
def signB (c : UInt8) : Bool := decide (c ∈ signL)
structure Tok where
  kind : Int
  text : Str
  n : Int
  at_ : Int
  deriving DecidableEq
abbrev LexR := Except (Int × Int) (List Tok)

/-! ### The token at the head -/
def numN : Str → Nat
  | [] => 0
  | c :: r => if c = 45 then (match r with
      | [] => 0
      | d :: r => if dig d = true ∧ d ≠ 48 then 2 + (r.takeWhile dig).length else 0)
    else if c = 48 then 1 else if dig c = true then 1 + (r.takeWhile dig).length else 0
def tokN : Str → Nat
  | [] => 0
  | c :: r => if letB c = true then 1 + (r.takeWhile wordB).length else if numN (c :: r) ≠ 0 then numN (c :: r) else if signB c = true then 1 else 0
def tokK : Str → Int
  | [] => 0
  | c :: r => if letB c = true then 1 else if numN (c :: r) ≠ 0 then 2 else if signB c = true then 3 else 0
/-- The number of a token, or none if it is too large. -/
def tokV (k : Int) (u : Str) : Option Int := if k = 2 then (match Lib.parseIntB 64 u with | .ok n => some n | _ => none) else some 0

/-! ### All tokens -/
def lexM : Nat → Bool → Nat → Str → LexR
  | 0, _, _, _ => .ok []
  | _ + 1, _, _, [] => .ok []
  | m + 1, true, a, c :: s => if c = 10 then lexM m false (a + 1) s else lexM m true (a + 1) s
  | m + 1, false, a, c :: s => if blankB c = true then lexM m false (a + 1) s else if c = 35 then lexM m true (a + 1) s else
      if tokN (c :: s) = 0 then .error (1, a) else match tokV (tokK (c :: s)) ((c :: s).take (tokN (c :: s))) with
        | none => .error (2, a)
        | some v => (lexM m false (a + tokN (c :: s)) ((c :: s).drop (tokN (c :: s)))).map (⟨tokK (c :: s), (c :: s).take (tokN (c :: s)), v, a⟩ :: ·)
def lexL (b : Bool) (a : Nat) (s : Str) : LexR := lexM s.length b a s
theorem numN_le (s : Str) : numN s ≤ s.length := by
  unfold numN
  split
  · simp
  · rename_i c r
    split
    · split
      · omega
      · rename_i d r
        split
        · have := (List.takeWhile_prefix dig (l := r)).length_le; simp only [List.length_cons]; omega
        · omega
    · split
      · simp
      · split
        · have := (List.takeWhile_prefix dig (l := r)).length_le; simp only [List.length_cons]; omega
        · omega
theorem tokN_le (s : Str) : tokN s ≤ s.length := by
  unfold tokN
  split
  · simp
  · rename_i c r
    have h1 := numN_le (c :: r)
    have h2 := (List.takeWhile_prefix wordB (l := r)).length_le
    simp only [List.length_cons] at h1 ⊢
    split
    · omega
    · split
      · exact h1
      · split <;> omega
theorem lexM_more : ∀ (m n : Nat) (b : Bool) (a : Nat) (s : Str), s.length ≤ m → s.length ≤ n → lexM m b a s = lexM n b a s := by
  intro m
  induction m with
  | zero =>
    intro n b a s h _
    have hs : s = [] := List.eq_nil_of_length_eq_zero (by omega)
    subst hs
    cases n <;> cases b <;> simp [lexM]
  | succ m ih =>
    intro n b a s h h'
    cases s with
    | nil => cases n <;> cases b <;> simp [lexM]
    | cons c s =>
      simp only [List.length_cons] at h h'
      obtain ⟨n, rfl⟩ : ∃ k, n = k + 1 := ⟨n - 1, by omega⟩
      cases b with
      | true => simp only [lexM]; rw [ih n false _ _ (by omega) (by omega), ih n true _ _ (by omega) (by omega)]
      | false =>
        simp only [lexM]
        rw [ih n false (a + 1) s (by omega) (by omega), ih n true (a + 1) s (by omega) (by omega)]
        by_cases h0 : tokN (c :: s) = 0
        · simp only [h0, if_true]
        · rw [ih n false (a + tokN (c :: s)) _ (by rw [List.length_drop, List.length_cons]; omega) (by rw [List.length_drop, List.length_cons]; omega)]
theorem lexL_nil (b : Bool) (a : Nat) : lexL b a [] = .ok [] := by cases b <;> rfl
theorem lexL_note {a : Nat} {c : UInt8} {s : Str} (h : ¬ c = 10) : lexL true a (c :: s) = lexL true (a + 1) s := by
  unfold lexL; simp only [List.length_cons, lexM]; rw [if_neg h]
theorem lexL_noteEnd {a : Nat} {s : Str} : lexL true a (10 :: s) = lexL false (a + 1) s := by
  unfold lexL; simp only [List.length_cons, lexM]; rw [if_pos trivial]
theorem lexL_blank {a : Nat} {c : UInt8} {s : Str} (h : blankB c = true) : lexL false a (c :: s) = lexL false (a + 1) s := by
  unfold lexL; simp only [List.length_cons, lexM]; rw [if_pos h]
theorem lexL_hash {a : Nat} {s : Str} : lexL false a (35 :: s) = lexL true (a + 1) s := by
  unfold lexL; simp only [List.length_cons, lexM]; rw [if_neg (by decide), if_pos trivial]
theorem lexL_bad {a : Nat} {c : UInt8} {s : Str} (h : blankB c = false) (h' : ¬ c = 35) (h0 : tokN (c :: s) = 0) : lexL false a (c :: s) = .error (1, a) := by
  unfold lexL; simp only [List.length_cons, lexM]; rw [if_neg (by rw [h]; simp), if_neg h', if_pos h0]
theorem lexL_big {a : Nat} {c : UInt8} {s : Str} (h : blankB c = false) (h' : ¬ c = 35) (h0 : ¬ tokN (c :: s) = 0) (hv : tokV (tokK (c :: s)) ((c :: s).take (tokN (c :: s))) = none) : lexL false a (c :: s) = .error (2, a) := by
  unfold lexL; simp only [List.length_cons, lexM]; rw [if_neg (by rw [h]; simp), if_neg h', if_neg h0, hv]
theorem lexL_tok {a : Nat} {c : UInt8} {s : Str} {v : Int} (h : blankB c = false) (h' : ¬ c = 35) (h0 : ¬ tokN (c :: s) = 0) (hv : tokV (tokK (c :: s)) ((c :: s).take (tokN (c :: s))) = some v) :
    lexL false a (c :: s) = (lexL false (a + tokN (c :: s)) ((c :: s).drop (tokN (c :: s)))).map (⟨tokK (c :: s), (c :: s).take (tokN (c :: s)), v, a⟩ :: ·) := by
  have e := lexM_more s.length ((c :: s).drop (tokN (c :: s))).length false (a + tokN (c :: s)) ((c :: s).drop (tokN (c :: s))) (by rw [List.length_drop, List.length_cons]; omega) (Nat.le_refl _)
  unfold lexL
  conv => lhs; rw [List.length_cons]; unfold lexM
  rw [if_neg (by rw [h]; simp), if_neg h', if_neg h0, hv, e]
/-- A newline that ends a note may be read once more. -/
theorem lexL_line {a : Nat} {s : Str} : lexL true a (10 :: s) = lexL false a (10 :: s) := by rw [lexL_noteEnd, lexL_blank (by decide)]

/-! ### At a place of the text -/
def lexA (s : Str) (b : Bool) (a : Nat) : LexR := lexL b a (s.drop a)
section
variable {s : Str} {a : Nat}
theorem lexA_end {b : Bool} (h : s.length ≤ a) : lexA s b a = .ok [] := by unfold lexA; rw [List.drop_eq_nil_of_le h, lexL_nil]
theorem drop_at (h : a < s.length) : s.drop a = s[a] :: s.drop (a + 1) := List.drop_eq_getElem_cons h
theorem lexA_note (h : a < s.length) (hc : ¬ s[a] = 10) : lexA s true a = lexA s true (a + 1) := by unfold lexA; rw [drop_at h, lexL_note hc]
theorem lexA_line (h : a < s.length) (hc : s[a] = 10) : lexA s true a = lexA s false a := by unfold lexA; rw [drop_at h, hc, lexL_line]
theorem lexA_blank (h : a < s.length) (hc : blankB s[a] = true) : lexA s false a = lexA s false (a + 1) := by unfold lexA; rw [drop_at h, lexL_blank hc]
theorem lexA_hash (h : a < s.length) (hc : s[a] = 35) : lexA s false a = lexA s true a := by
  unfold lexA; rw [drop_at h, hc, lexL_hash, lexL_note (by decide)]
theorem lexA_bad (h : a < s.length) (hb : blankB s[a] = false) (hh : ¬ s[a] = 35) (h0 : tokN (s.drop a) = 0) : lexA s false a = .error (1, a) := by
  unfold lexA; rw [drop_at h] at h0 ⊢; exact lexL_bad hb hh h0
theorem lexA_big (h : a < s.length) (hb : blankB s[a] = false) (hh : ¬ s[a] = 35) (h0 : ¬ tokN (s.drop a) = 0) (hv : tokV (tokK (s.drop a)) ((s.drop a).take (tokN (s.drop a))) = none) : lexA s false a = .error (2, a) := by
  unfold lexA; rw [drop_at h] at h0 hv ⊢; exact lexL_big hb hh h0 hv
theorem lexA_tok {v : Int} (h : a < s.length) (hb : blankB s[a] = false) (hh : ¬ s[a] = 35) (h0 : ¬ tokN (s.drop a) = 0) (hv : tokV (tokK (s.drop a)) ((s.drop a).take (tokN (s.drop a))) = some v) :
    lexA s false a = (lexA s false (a + tokN (s.drop a))).map (⟨tokK (s.drop a), (s.drop a).take (tokN (s.drop a)), v, a⟩ :: ·) := by
  unfold lexA
  rw [← List.drop_drop]
  rw [drop_at h] at h0 hv ⊢
  exact lexL_tok hb hh h0 hv
end

/-! ### Texts that are tokens, as the reference sees them -/
def isWord : Str → Bool
  | [] => false
  | c :: r => letB c && r.all wordB
def isNum (s : Str) : Bool := decide (s = [48]) || (match (if s.head? = some 45 then s.tail else s) with
  | [] => false
  | c :: r => decide (c ≠ 48) && (dig c && r.all dig))
def kindL (s : Str) : Int := if isWord s = true then 1 else if isNum s = true then 2 else match s with
  | [c] => if signB c = true then 3 else 0
  | _ => 0
theorem all_take (p : UInt8 → Bool) : ∀ (r : Str) (j : Nat), j ≤ r.length → (r.take j).all p = decide (j ≤ (r.takeWhile p).length)
  | [], j, h => by simp at h; subst h; simp
  | c :: r, 0, _ => by simp
  | c :: r, j + 1, h => by
    simp only [List.take_succ_cons, List.all_cons, List.takeWhile_cons]
    cases hp : p c with
    | false => simp
    | true => simp only [Bool.true_and, if_true, List.length_cons, Nat.add_le_add_iff_right]; exact all_take p r j (by simpa using h)
theorem u8_all (p : UInt8 → Bool) (h : ((List.range 256).all fun n => p (UInt8.ofNat n)) = true) (c : UInt8) : p c = true := by
  have h1 := List.all_eq_true.1 h c.toNat (List.mem_range.2 (UInt8.toNat_lt c))
  rwa [UInt8.ofNat_toNat] at h1
theorem let_not {c : UInt8} (h : letB c = true) : dig c = false ∧ c ≠ 45 ∧ c ≠ 48 ∧ signB c = false ∧ c ≠ 35 ∧ blankB c = false := by
  have := u8_all (fun c => !letB c || decide (dig c = false ∧ c ≠ 45 ∧ c ≠ 48 ∧ signB c = false ∧ c ≠ 35 ∧ blankB c = false)) (by decide +kernel) c
  rw [h] at this; simpa using this
theorem dig_not {c : UInt8} (h : dig c = true) : letB c = false ∧ c ≠ 45 ∧ signB c = false ∧ c ≠ 35 ∧ blankB c = false := by
  have := u8_all (fun c => !dig c || decide (letB c = false ∧ c ≠ 45 ∧ signB c = false ∧ c ≠ 35 ∧ blankB c = false)) (by decide +kernel) c
  rw [h] at this; simpa using this
theorem sign_not {c : UInt8} (h : signB c = true) : letB c = false ∧ dig c = false ∧ c ≠ 45 ∧ c ≠ 48 ∧ c ≠ 35 ∧ blankB c = false := by
  have := u8_all (fun c => !signB c || decide (letB c = false ∧ dig c = false ∧ c ≠ 45 ∧ c ≠ 48 ∧ c ≠ 35 ∧ blankB c = false)) (by decide +kernel) c
  rw [h] at this; simpa using this
/-! ### Beginnings of texts that are tokens -/
theorem kind_nil : kindL [] = 0 := by simp [kindL, isWord, isNum]
/-- How far the beginnings are tokens. -/
def preOK (t : Str) (k : Nat) : Bool := decide (1 ≤ k) && decide (k ≤ tokN t) && !(decide (k = 1) && decide (t.head? = some 45))
theorem isNum_dig {c : UInt8} {r : Str} (h : dig c = true) (h48 : c ≠ 48) : isNum (c :: r) = r.all dig := by
  unfold isNum
  have hc := (dig_not h).2.1
  rw [List.head?_cons, if_neg (by simpa using hc)]
  simp only [h48, ne_eq, not_false_eq_true, decide_true, h, Bool.true_and]
  have : ¬ (c :: r) = [48] := by simp; intro h; exact absurd h h48
  simp [this]
theorem isNum_zero {r : Str} : isNum (48 :: r) = decide (r = []) := by
  unfold isNum
  rw [List.head?_cons, if_neg (by decide)]
  simp
theorem isNum_minus {r : Str} : isNum (45 :: r) = (match r with | [] => false | c :: r => decide (c ≠ 48) && (dig c && r.all dig)) := by
  unfold isNum
  rw [List.head?_cons, if_pos rfl]
  cases r <;> simp
theorem isNum_other {c : UInt8} {r : Str} (h : dig c = false) (h45 : c ≠ 45) : isNum (c :: r) = false := by
  unfold isNum
  rw [List.head?_cons, if_neg (by simpa using h45)]
  have : c ≠ 48 := by rintro rfl; exact absurd h (by decide)
  simp [h, this]
theorem isWord_other {c : UInt8} {r : Str} (h : letB c = false) : isWord (c :: r) = false := by simp [isWord, h]
theorem kind_word {c : UInt8} {r : Str} (h : letB c = true) : kindL (c :: r) = if r.all wordB = true then 1 else 0 := by
  obtain ⟨h1, h2, h3, h4, _⟩ := let_not h
  unfold kindL
  rw [isNum_other h1 h2]
  simp only [isWord, h, Bool.true_and]
  split
  · rfl
  · rename_i hh
    rw [if_neg (by simp)]
    cases r with
    | nil => simp at hh
    | cons d r => rfl
theorem kind_dig {c : UInt8} {r : Str} (h : dig c = true) (h48 : c ≠ 48) : kindL (c :: r) = if r.all dig = true then 2 else 0 := by
  obtain ⟨h1, h2, h3, _⟩ := dig_not h
  unfold kindL
  rw [isWord_other h1, if_neg (by simp), isNum_dig h h48]
  split
  · rfl
  · rename_i hh
    cases r with
    | nil => simp at hh
    | cons d r => rfl
theorem kind_zero {r : Str} : kindL (48 :: r) = if r = [] then 2 else 0 := by
  unfold kindL
  rw [isWord_other (by decide), if_neg (by simp), isNum_zero]
  cases r with
  | nil => rfl
  | cons d r => simp
theorem kind_minus {r : Str} : kindL (45 :: r) = if (match r with | [] => false | c :: r => decide (c ≠ 48) && (dig c && r.all dig)) = true then 2 else 0 := by
  unfold kindL
  rw [isWord_other (by decide), if_neg (by simp), isNum_minus]
  cases r with
  | nil => simp [signB, signL]
  | cons d r => split <;> rfl
theorem kind_other {c : UInt8} {r : Str} (h1 : letB c = false) (h2 : dig c = false) (h3 : c ≠ 45) : kindL (c :: r) = if r = [] ∧ signB c = true then 3 else 0 := by
  unfold kindL
  rw [isWord_other h1, if_neg (by simp), isNum_other h2 h3, if_neg (by simp)]
  cases r with
  | nil => simp
  | cons d r => simp
theorem kind_take {t : Str} {k : Nat} (h1 : 1 ≤ k) (hk : k ≤ t.length) : (0 < kindL (t.take k)) = (preOK t k = true) := by
  cases t with
  | nil => simp at hk; omega
  | cons c r =>
    obtain ⟨j, rfl⟩ : ∃ j, k = j + 1 := ⟨k - 1, by omega⟩
    simp only [List.length_cons, Nat.add_le_add_iff_right] at hk
    rw [List.take_succ_cons]
    unfold preOK
    simp only [List.head?_cons, Option.some.injEq, Nat.le_add_left, decide_true, Bool.true_and, Nat.add_eq_right]
    by_cases hl : letB c = true
    · obtain ⟨e1, e2, _⟩ := let_not hl
      rw [kind_word hl, all_take wordB r j hk]
      simp only [tokN, hl, if_true, e2, decide_false, Bool.and_false, Bool.not_false, Bool.and_true, decide_eq_true_eq]
      by_cases hj : j ≤ (r.takeWhile wordB).length
      · simp [hj]; omega
      · simp [hj]; omega
    · have hl : letB c = false := by simpa using hl
      by_cases hm : c = 45
      · subst hm
        cases r with
        | nil => simp at hk; subst hk; simp [kind_minus]
        | cons d r =>
          cases j with
          | zero => simp [kind_minus]
          | succ j =>
            simp only [List.length_cons, Nat.add_le_add_iff_right] at hk
            rw [List.take_succ_cons, kind_minus]
            simp only [all_take dig r j hk]
            have hs : signB 45 = false := by decide
            simp only [tokN, show letB 45 = false from by decide, Bool.false_eq_true, if_false, numN, if_true, hs]
            by_cases hd : dig d = true ∧ d ≠ 48
            · by_cases hj : j ≤ (r.takeWhile dig).length
              · simp [hd, hj]; omega
              · simp [hd, hj]; omega
            · have : (decide (d ≠ 48) && (dig d && decide (j ≤ (r.takeWhile dig).length))) = false := by
                cases hdd : dig d with
                | false => simp
                | true => simp [hdd] at hd; simp [hd]
              simp only [this]
              simp [hd]
      · by_cases hz : c = 48
        · subst hz
          rw [kind_zero]
          simp only [tokN, show letB 48 = false from by decide, Bool.false_eq_true, if_false, numN, if_true]
          by_cases hj : j = 0
          · subst hj; simp
          · have : ¬ r.take j = [] := by
              intro h
              have := congrArg List.length h
              rw [List.length_take, List.length_nil] at this
              omega
            simp [this, hj]
        · by_cases hd : dig c = true
          · rw [kind_dig hd hz, all_take dig r j hk]
            simp only [tokN, hl, Bool.false_eq_true, if_false, numN, hm, hz, hd, if_true]
            by_cases hj : j ≤ (r.takeWhile dig).length
            · simp [hj]; omega
            · simp [hj]; omega
          · have hd : dig c = false := by simpa using hd
            rw [kind_other hl hd hm]
            simp only [tokN, hl, Bool.false_eq_true, if_false, numN, hm, hz, hd]
            by_cases hs : signB c = true
            · by_cases hj : j = 0
              · subst hj; simp [hs]
              · have : ¬ r.take j = [] := by
                  intro h
                  have := congrArg List.length h
                  rw [List.length_take, List.length_nil] at this
                  omega
                simp [hs, this, hj]
            · simp [hs]
theorem kind_tok {t : Str} (h : ¬ tokN t = 0) : kindL (t.take (tokN t)) = tokK t := by
  cases t with
  | nil => exact absurd rfl h
  | cons c r =>
    obtain ⟨j, hj⟩ : ∃ j, tokN (c :: r) = j + 1 := ⟨tokN (c :: r) - 1, by omega⟩
    rw [hj, List.take_succ_cons]
    have htw : ∀ p : UInt8 → Bool, (r.take (r.takeWhile p).length).all p = true := fun p => by rw [all_take p r _ (List.takeWhile_prefix p).length_le]; simp
    by_cases hl : letB c = true
    · simp only [tokN, hl, if_true] at hj
      have : j = (r.takeWhile wordB).length := by omega
      subst this
      rw [kind_word hl, if_pos (htw _)]
      simp [tokK, hl]
    · have hl : letB c = false := by simpa using hl
      by_cases hm : c = 45
      · subst hm
        cases r with
        | nil => simp [tokN, numN, signB, signL, letB] at h
        | cons d r =>
          simp only [tokN, show letB 45 = false from by decide, Bool.false_eq_true, if_false, numN, if_true, show signB 45 = false from by decide] at hj h
          by_cases hd : dig d = true ∧ d ≠ 48
          · have hne : ¬ 2 + (r.takeWhile dig).length = 0 := by omega
            simp only [hd, if_true, ne_eq, hne, not_false_eq_true, and_self] at hj
            have : j = (r.takeWhile dig).length + 1 := by omega
            subst this
            have hh := htw
            have ht2 : (r.take (r.takeWhile dig).length).all dig = true := by rw [all_take dig r _ (List.takeWhile_prefix dig).length_le]; simp
            rw [List.take_succ_cons, kind_minus]
            simp [hd, ht2, tokK, numN, show letB 45 = false from by decide]
          · simp [hd] at h
      · by_cases hz : c = 48
        · subst hz
          simp only [tokN, show letB 48 = false from by decide, Bool.false_eq_true, if_false, numN, if_true, hm] at hj
          simp at hj
          subst hj
          simp [kind_zero, tokK, numN, show letB 48 = false from by decide]
        · by_cases hd : dig c = true
          · simp only [tokN, hl, Bool.false_eq_true, if_false, numN, hm, hz, hd, if_true] at hj
            have : j = (r.takeWhile dig).length := by split at hj <;> omega
            subst this
            rw [kind_dig hd hz, if_pos (htw _)]
            simp [tokK, hl, numN, hm, hz, hd]
          · have hd : dig c = false := by simpa using hd
            simp only [tokN, hl, Bool.false_eq_true, if_false, numN, hm, hz, hd] at hj h
            by_cases hs : signB c = true
            · simp [hs] at hj
              subst hj
              rw [kind_other hl hd hm]
              simp [hs, tokK, hl, numN, hm, hz, hd]
            · simp [hs] at h
end Go.Duo
