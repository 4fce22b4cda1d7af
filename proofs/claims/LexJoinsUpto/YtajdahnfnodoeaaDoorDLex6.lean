/-
  The tokens of two texts with a line feed between them.
-/
import Derived.Test.YtajdahnfnodoeaaDoorDLex3
set_option linter.all false
namespace Go.Duo
open Go
theorem tw_stop {p : UInt8 → Bool} {z : UInt8} (hz : p z = false) (u : Str) : ∀ r : Str, (r ++ z :: u).takeWhile p = r.takeWhile p
  | [] => by rw [List.nil_append, List.takeWhile_cons_of_neg (by rw [hz]; simp)]; rfl
  | c :: r => by
    rw [List.cons_append, List.takeWhile_cons, List.takeWhile_cons, tw_stop hz u r]
theorem num_stop {z : UInt8} (hz : dig z = false) (u : Str) (c : UInt8) (r : Str) : numN (c :: (r ++ z :: u)) = numN (c :: r) := by
  unfold numN
  simp only
  split
  · cases r with
    | nil => simp [hz]
    | cons d r => simp only [List.cons_append]; rw [tw_stop hz u r]
  · rw [tw_stop hz u r]
theorem tok_stop {z : UInt8} (hz : wordB z = false) (u : Str) (c : UInt8) (r : Str) : tokN (c :: (r ++ z :: u)) = tokN (c :: r) ∧ tokK (c :: (r ++ z :: u)) = tokK (c :: r) := by
  have hd : dig z = false := by
    cases h : dig z with
    | false => rfl
    | true => rw [wordB, h, Bool.or_true] at hz; cases hz
  unfold tokN tokK
  simp only
  rw [num_stop hd u c r, tw_stop hz u r]
  exact ⟨rfl, rfl⟩
def joinR (x : LexR) (y : LexR) : LexR := match x with
  | .error e => .error e
  | .ok l => y.map (l ++ ·)
theorem joinR_cons (t : Tok) (x y : LexR) : joinR (x.map (t :: ·)) y = (joinR x y).map (t :: ·) := by
  cases x with
  | error e => rfl
  | ok l => cases y <;> rfl
theorem joinR_nil (y : LexR) : joinR (.ok []) y = y := by cases y <;> simp [joinR, Except.map]
/-- A line feed behind a text. -/
theorem lexL_lf (u : Str) : ∀ (m : Nat) (b : Bool) (a : Nat) (s : Str), s.length ≤ m → lexL b a (s ++ 10 :: u) = joinR (lexL b a s) (lexL false (a + s.length + 1) u) := by
  intro m
  induction m with
  | zero =>
    intro b a s h
    obtain rfl := List.eq_nil_of_length_eq_zero (by omega : s.length = 0)
    rw [List.nil_append, lexL_nil, joinR_nil, List.length_nil, Nat.add_zero]
    cases b with
    | false => exact lexL_blank (by decide)
    | true => exact lexL_noteEnd
  | succ m ih =>
    intro b a s h
    cases s with
    | nil =>
      rw [List.nil_append, lexL_nil, joinR_nil, List.length_nil, Nat.add_zero]
      cases b with
      | false => exact lexL_blank (by decide)
      | true => exact lexL_noteEnd
    | cons c r =>
      rw [List.length_cons] at h
      have e1 : a + (c :: r).length + 1 = a + 1 + r.length + 1 := by rw [List.length_cons]; omega
      rw [List.cons_append]
      cases b with
      | true =>
        by_cases hc : c = 10
        · subst hc
          rw [lexL_noteEnd, lexL_noteEnd, ih false (a + 1) r (by omega), e1]
        · rw [lexL_note hc, lexL_note hc, ih true (a + 1) r (by omega), e1]
      | false =>
        by_cases hb : blankB c = true
        · rw [lexL_blank hb, lexL_blank hb, ih false (a + 1) r (by omega), e1]
        · have hb : blankB c = false := by simpa using hb
          by_cases hh : c = 35
          · subst hh
            rw [lexL_hash, lexL_hash, ih true (a + 1) r (by omega), e1]
          · obtain ⟨ht, hk⟩ := tok_stop (z := 10) (by decide) u c r
            by_cases h0 : tokN (c :: r) = 0
            · rw [lexL_bad hb hh h0, lexL_bad hb hh (by rw [ht]; exact h0)]; rfl
            · have hle := tokN_le (c :: r)
              have htake : (c :: (r ++ 10 :: u)).take (tokN (c :: r)) = (c :: r).take (tokN (c :: r)) := by
                rw [← List.cons_append, List.take_append_of_le_length hle]
              have hdrop : (c :: (r ++ 10 :: u)).drop (tokN (c :: r)) = (c :: r).drop (tokN (c :: r)) ++ 10 :: u := by
                rw [← List.cons_append, List.drop_append_of_le_length hle]
              cases hv : tokV (tokK (c :: r)) ((c :: r).take (tokN (c :: r))) with
              | none => rw [lexL_big hb hh h0 hv, lexL_big hb hh (by rw [ht]; exact h0) (by rw [ht, hk, htake]; exact hv)]; rfl
              | some v =>
                rw [lexL_tok hb hh h0 hv, lexL_tok hb hh (by rw [ht]; exact h0) (by rw [ht, hk, htake]; exact hv), ht, hk, htake, hdrop, joinR_cons]
                rw [ih false _ _ (by rw [List.length_drop, List.length_cons]; omega)]
                congr 2
                rw [List.length_drop]; congr 1; omega
def shT (k : Nat) (t : Tok) : Tok := { t with at_ := t.at_ + k }
def shR (k : Nat) : LexR → LexR
  | .error (e, p) => .error (e, p + k)
  | .ok l => .ok (l.map (shT k))
theorem shR_cons (k : Nat) (t : Tok) (x : LexR) : shR k (x.map (t :: ·)) = (shR k x).map (shT k t :: ·) := by
  cases x <;> rfl
theorem lexL_shift (k : Nat) : ∀ (m : Nat) (b : Bool) (a : Nat) (s : Str), s.length ≤ m → lexL b (a + k) s = shR k (lexL b a s) := by
  intro m
  induction m with
  | zero =>
    intro b a s h
    obtain rfl := List.eq_nil_of_length_eq_zero (by omega : s.length = 0)
    rw [lexL_nil, lexL_nil]; rfl
  | succ m ih =>
    intro b a s h
    cases s with
    | nil => rw [lexL_nil, lexL_nil]; rfl
    | cons c r =>
      rw [List.length_cons] at h
      have e1 : a + k + 1 = a + 1 + k := by omega
      cases b with
      | true =>
        by_cases hc : c = 10
        · subst hc
          rw [lexL_noteEnd, lexL_noteEnd, e1, ih false (a + 1) r (by omega)]
        · rw [lexL_note hc, lexL_note hc, e1, ih true (a + 1) r (by omega)]
      | false =>
        by_cases hb : blankB c = true
        · rw [lexL_blank hb, lexL_blank hb, e1, ih false (a + 1) r (by omega)]
        · have hb : blankB c = false := by simpa using hb
          by_cases hh : c = 35
          · subst hh
            rw [lexL_hash, lexL_hash, e1, ih true (a + 1) r (by omega)]
          · by_cases h0 : tokN (c :: r) = 0
            · rw [lexL_bad hb hh h0, lexL_bad hb hh h0]; simp [shR]
            · cases hv : tokV (tokK (c :: r)) ((c :: r).take (tokN (c :: r))) with
              | none => rw [lexL_big hb hh h0 hv, lexL_big hb hh h0 hv]; simp [shR]
              | some v =>
                rw [lexL_tok hb hh h0 hv, lexL_tok hb hh h0 hv, shR_cons]
                rw [show a + k + tokN (c :: r) = a + tokN (c :: r) + k from by omega, ih false _ _ (by rw [List.length_drop, List.length_cons]; omega)]
                simp [shT]
theorem lexL_err : ∀ (m : Nat) (b : Bool) (a : Nat) (s : Str) (e p : Int), s.length ≤ m → lexL b a s = .error (e, p) → ¬ e = 0 ∧ (a : Int) ≤ p ∧ p ≤ (a + s.length : Nat) := by
  intro m
  induction m with
  | zero =>
    intro b a s e p h he
    obtain rfl := List.eq_nil_of_length_eq_zero (by omega : s.length = 0)
    rw [lexL_nil] at he; cases he
  | succ m ih =>
    intro b a s e p h he
    cases s with
    | nil => rw [lexL_nil] at he; cases he
    | cons c r =>
      rw [List.length_cons] at h
      have step : ∀ b', lexL b' (a + 1) r = .error (e, p) → ¬ e = 0 ∧ (a : Int) ≤ p ∧ p ≤ (a + (c :: r).length : Nat) := fun b' hx => by
        obtain ⟨h1, h2, h3⟩ := ih b' (a + 1) r e p (by omega) hx
        rw [List.length_cons]
        exact ⟨h1, by omega, by omega⟩
      cases b with
      | true =>
        by_cases hc : c = 10
        · subst hc
          rw [lexL_noteEnd] at he; exact step _ he
        · rw [lexL_note hc] at he; exact step _ he
      | false =>
        by_cases hb : blankB c = true
        · rw [lexL_blank hb] at he; exact step _ he
        · have hb : blankB c = false := by simpa using hb
          by_cases hh : c = 35
          · subst hh
            rw [lexL_hash] at he; exact step _ he
          · by_cases h0 : tokN (c :: r) = 0
            · rw [lexL_bad hb hh h0] at he
              simp only [Except.error.injEq, Prod.mk.injEq] at he
              obtain ⟨rfl, rfl⟩ := he
              exact ⟨by decide, by omega, by omega⟩
            · cases hv : tokV (tokK (c :: r)) ((c :: r).take (tokN (c :: r))) with
              | none =>
                rw [lexL_big hb hh h0 hv] at he
                simp only [Except.error.injEq, Prod.mk.injEq] at he
                obtain ⟨rfl, rfl⟩ := he
                exact ⟨by decide, by omega, by omega⟩
              | some v =>
                rw [lexL_tok hb hh h0 hv] at he
                have hle := tokN_le (c :: r)
                cases hx : lexL false (a + tokN (c :: r)) ((c :: r).drop (tokN (c :: r))) with
                | ok l => rw [hx] at he; cases he
                | error z =>
                  rw [hx] at he
                  simp only [Except.map, Except.error.injEq] at he
                  subst he
                  obtain ⟨h1, h2, h3⟩ := ih false _ _ e p (by rw [List.length_drop, List.length_cons]; omega) hx
                  rw [List.length_drop] at h3
                  exact ⟨h1, by omega, by omega⟩
theorem lexT_small {s : Str} (h : s.length ≤ 65536) : lexT s = match lexL false 0 s with
  | .ok l => (l, 0, 0)
  | .error x => ([], x.1, x.2) := by
  unfold lexT; rw [if_neg (by omega)]; unfold lexA; rw [List.drop_zero]; cases lexL false 0 s <;> rfl
theorem key_sh (k : Nat) (l : List Tok) : (l.map (shT k)).map (keyT false) = l.map (keyT false) := by
  rw [List.map_map]; rfl
/-- What is known of the tokens of two texts with a line feed between them. -/
theorem pairs {a b : Str} (ha : a.length ≤ 3000) (hb : b.length ≤ 3000) :
    (¬ tkE a = 0 → tkE (a ++ 10 :: b) = tkE a ∧ tkP (a ++ 10 :: b) = tkP a) ∧
    (tkE a = 0 → ¬ tkE b = 0 → tkE (a ++ 10 :: b) = tkE b ∧ tkP (a ++ 10 :: b) = tkP b + a.length + 1 ∧ 0 ≤ tkP b ∧ tkP b ≤ 3000) ∧
    (tkE a = 0 → tkE b = 0 → tkE (a ++ 10 :: b) = 0 ∧ tkP (a ++ 10 :: b) = 0 ∧ sameL false (tkL a ++ tkL b) (tkL (a ++ 10 :: b)) = true) := by
  have h1 := lexL_lf b a.length false 0 a (Nat.le_refl _)
  have h2 := lexL_shift (a.length + 1) b.length false 0 b (Nat.le_refl _)
  rw [show 0 + a.length + 1 = 0 + (a.length + 1) from by omega, h2] at h1
  unfold tkE tkP tkL
  rw [lexT_small (s := a) (by omega), lexT_small (s := b) (by omega), lexT_small (s := a ++ 10 :: b) (by rw [List.length_append, List.length_cons]; omega), h1]
  cases hx : lexL false 0 a with
  | error x =>
    obtain ⟨e, p⟩ := x
    obtain ⟨h3, _, _⟩ := lexL_err a.length false 0 a e p (Nat.le_refl _) hx
    exact ⟨fun _ => ⟨rfl, rfl⟩, fun h => absurd h h3, fun h => absurd h h3⟩
  | ok l =>
    refine ⟨fun h => absurd rfl h, fun _ => ?_, fun _ => ?_⟩
    · cases hy : lexL false 0 b with
      | error y =>
        obtain ⟨e, p⟩ := y
        obtain ⟨h3, h4, h5⟩ := lexL_err b.length false 0 b e p (Nat.le_refl _) hy
        intro _
        refine ⟨rfl, ?_, by simpa using h4, by simp only; omega⟩
        show p + ((a.length + 1 : Nat) : Int) = p + a.length + 1
        omega
      | ok l2 => intro h; exact absurd rfl h
    · cases hy : lexL false 0 b with
      | error y =>
        obtain ⟨e, p⟩ := y
        obtain ⟨h3, h4, h5⟩ := lexL_err b.length false 0 b e p (Nat.le_refl _) hy
        intro h; exact absurd h h3
      | ok l2 =>
        intro _
        refine ⟨rfl, rfl, ?_⟩
        show sameL false (l ++ l2) (l ++ l2.map (shT (a.length + 1))) = true
        unfold sameL
        rw [decide_eq_true_eq, List.map_append, List.map_append, key_sh]
theorem tkP_le {b : Str} (hb : b.length ≤ 3000) : 0 ≤ tkP b ∧ tkP b ≤ 3000 := by
  unfold tkP
  rw [lexT_small (s := b) (by omega)]
  cases hy : lexL false 0 b with
  | error y =>
    obtain ⟨e, p⟩ := y
    obtain ⟨h3, h4, h5⟩ := lexL_err b.length false 0 b e p (Nat.le_refl _) hy
    exact ⟨by simpa using h4, by simp only; omega⟩
  | ok l => exact ⟨by simp, by simp⟩
theorem encK_all (l : List Tok) : ((l.map encK).all fun e => e.cells.length == 4) = true := by
  simp [encK, V.cells]
end Go.Duo
