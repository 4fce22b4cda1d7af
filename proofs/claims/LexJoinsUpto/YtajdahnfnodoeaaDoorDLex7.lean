/-
  Tokens, joined by blanks, are the same tokens.
-/
import Derived.Test.YtajdahnfnodoeaaDoorDLex4
import Derived.Test.YtajdahnfnodoeaaDoorDLex6
set_option linter.all false
namespace Go.Duo
open Go
theorem take_tw (p : UInt8 → Bool) : ∀ r : Str, r.take (r.takeWhile p).length = r.takeWhile p
  | [] => rfl
  | c :: r => by
    rw [List.takeWhile_cons]
    split
    · rw [List.length_cons, List.take_succ_cons, take_tw p r]
    · rfl
theorem tw_idem (p : UInt8 → Bool) : ∀ r : Str, (r.takeWhile p).takeWhile p = r.takeWhile p
  | [] => rfl
  | c :: r => by
    by_cases h : p c = true
    · rw [List.takeWhile_cons_of_pos h, List.takeWhile_cons_of_pos h, tw_idem p r]
    · rw [List.takeWhile_cons_of_neg h]; rfl
theorem tok_take {c : UInt8} {r : Str} (h0 : ¬ tokN (c :: r) = 0) : tokN ((c :: r).take (tokN (c :: r))) = tokN (c :: r) ∧ tokK ((c :: r).take (tokN (c :: r))) = tokK (c :: r) := by
  by_cases hl : letB c = true
  · have e : tokN (c :: r) = (r.takeWhile wordB).length + 1 := by simp only [tokN, hl, if_true]; omega
    rw [e, List.take_succ_cons, take_tw]
    simp only [tokN, tokK, hl, if_true, tw_idem]; exact ⟨by omega, trivial⟩
  · have hl : letB c = false := by simpa using hl
    by_cases hn : numN (c :: r) = 0
    · by_cases hs : signB c = true
      · have e : tokN (c :: r) = 1 := by simp [tokN, hl, hn, hs]
        have hn1 : numN [c] = 0 := by
          obtain ⟨_, h2, h3, h4, _⟩ := sign_not hs
          simp [numN, h3, h4, h2]
        rw [e, List.take_succ_cons, List.take_zero]
        simp [tokN, tokK, hl, hn, hs, hn1]
      · exact absurd (by simp [tokN, hl, hn, hs]) h0
    · have e : tokN (c :: r) = numN (c :: r) := by simp [tokN, hl, hn]
      have key : numN ((c :: r).take (numN (c :: r))) = numN (c :: r) := by
        by_cases hm : c = 45
        · subst hm
          cases r with
          | nil => rfl
          | cons d r =>
            by_cases hd : dig d = true ∧ d ≠ 48
            · have e2 : numN (45 :: d :: r) = (r.takeWhile dig).length + 1 + 1 := by simp only [numN, if_true, hd, and_self, ne_eq, not_false_eq_true]; omega
              rw [e2, List.take_succ_cons, List.take_succ_cons, take_tw]
              simp only [numN, if_true, hd, and_self, ne_eq, not_false_eq_true, tw_idem]; omega
            · exact absurd (by simp only [numN, if_true]; rw [if_neg hd]) hn
        · by_cases hz : c = 48
          · subst hz
            have e2 : numN (48 :: r) = 1 := by simp [numN]
            rw [e2]; rfl
          · by_cases hd : dig c = true
            · have e2 : numN (c :: r) = (r.takeWhile dig).length + 1 := by simp only [numN, hm, hz, hd, if_false, if_true]; omega
              rw [e2, List.take_succ_cons, take_tw]
              simp only [numN, hm, hz, hd, if_false, if_true, tw_idem]; omega
            · exact absurd (by simp [numN, hm, hz, hd]) hn
      rw [e]
      obtain ⟨k, hk⟩ : ∃ k, numN (c :: r) = k + 1 := ⟨numN (c :: r) - 1, by omega⟩
      rw [hk] at key ⊢
      rw [List.take_succ_cons] at key ⊢
      have hnk : ¬ numN (c :: r.take k) = 0 := by omega
      constructor
      · simp only [tokN, hl, Bool.false_eq_true, if_false, ne_eq, hnk, not_false_eq_true, if_true]; exact key
      · simp only [tokK, hl, Bool.false_eq_true, if_false, ne_eq, hnk, hn, not_false_eq_true, if_true]
structure tkOK (t : Tok) : Prop where
  head : ∃ c r, t.text = c :: r ∧ blankB c = false ∧ ¬ c = 35
  n : tokN t.text = t.text.length
  k : tokK t.text = t.kind
  v : tokV t.kind t.text = some t.n
theorem toks_ok : ∀ (m : Nat) (b : Bool) (a : Nat) (s : Str) (l : List Tok), s.length ≤ m → lexL b a s = .ok l → ∀ t ∈ l, tkOK t := by
  intro m
  induction m with
  | zero =>
    intro b a s l h hl
    obtain rfl := List.eq_nil_of_length_eq_zero (by omega : s.length = 0)
    rw [lexL_nil] at hl
    simp only [Except.ok.injEq] at hl; subst hl
    intro t ht; cases ht
  | succ m ih =>
    intro b a s l h hl
    cases s with
    | nil =>
      rw [lexL_nil] at hl
      simp only [Except.ok.injEq] at hl; subst hl
      intro t ht; cases ht
    | cons c r =>
      rw [List.length_cons] at h
      cases b with
      | true =>
        by_cases hc : c = 10
        · subst hc
          rw [lexL_noteEnd] at hl; exact ih _ _ r l (by omega) hl
        · rw [lexL_note hc] at hl; exact ih _ _ r l (by omega) hl
      | false =>
        by_cases hb : blankB c = true
        · rw [lexL_blank hb] at hl; exact ih _ _ r l (by omega) hl
        · have hb : blankB c = false := by simpa using hb
          by_cases hh : c = 35
          · subst hh
            rw [lexL_hash] at hl; exact ih _ _ r l (by omega) hl
          · by_cases h0 : tokN (c :: r) = 0
            · rw [lexL_bad hb hh h0] at hl; cases hl
            · cases hv : tokV (tokK (c :: r)) ((c :: r).take (tokN (c :: r))) with
              | none => rw [lexL_big hb hh h0 hv] at hl; cases hl
              | some v =>
                rw [lexL_tok hb hh h0 hv] at hl
                have hle := tokN_le (c :: r)
                cases hx : lexL false (a + tokN (c :: r)) ((c :: r).drop (tokN (c :: r))) with
                | error z => rw [hx] at hl; cases hl
                | ok l' =>
                  rw [hx] at hl
                  simp only [Except.map, Except.ok.injEq] at hl
                  subst hl
                  intro t ht
                  rcases List.mem_cons.1 ht with rfl | ht
                  · obtain ⟨h1, h2⟩ := tok_take h0
                    obtain ⟨k, hk⟩ : ∃ k, tokN (c :: r) = k + 1 := ⟨tokN (c :: r) - 1, by omega⟩
                    refine ⟨⟨c, r.take k, by simp only [hk, List.take_succ_cons], hb, hh⟩, ?_, h2, hv⟩
                    simp only
                    rw [h1, List.length_take, Nat.min_eq_left hle]
                  · exact ih _ _ _ l' (by rw [List.length_drop, List.length_cons]; omega) hx t ht
theorem relex : ∀ (l : List Tok), (∀ t ∈ l, tkOK t) → ∀ a : Nat, ∃ l', lexL false a (Lib.join (txts l) [32]) = .ok l' ∧ l'.map (keyT false) = l.map (keyT false) := by
  intro l
  induction l with
  | nil => intro _ a; exact ⟨[], by simp [txts, Lib.join_nil, lexL_nil], rfl⟩
  | cons t l ih =>
    intro hall a
    obtain ⟨⟨c, r, hc, hb, hh⟩, hn, hk, hv⟩ := hall t (List.mem_cons_self ..)
    have h0 : ¬ tokN (c :: r) = 0 := by rw [← hc, hn, hc]; simp
    cases l with
    | nil =>
      have hj : Lib.join (txts [t]) [32] = c :: r := by rw [← hc]; simp [txts, Lib.join_one]
      rw [hj]
      have hlen : tokN (c :: r) = (c :: r).length := by rw [← hc]; exact hn
      rw [lexL_tok (v := t.n) hb hh h0 (by rw [hlen, List.take_length, ← hc, hk]; exact hv), hlen, List.drop_length, lexL_nil, List.take_length]
      refine ⟨_, rfl, ?_⟩
      simp only [List.map_cons, List.map_nil, keyT]
      rw [← hc, hk]; rfl
    | cons t2 l =>
      obtain ⟨l', h1, h2⟩ := ih (fun x hx => hall x (List.mem_cons_of_mem _ hx)) (a + (c :: r).length + 1)
      have hj : Lib.join (txts (t :: t2 :: l)) [32] = c :: (r ++ 32 :: Lib.join (txts (t2 :: l)) [32]) := by
        rw [← List.cons_append, ← hc]
        simp only [txts, List.map_cons]
        rw [Lib.join_cons, Lib.join_cons]
        simp [Lib.joinTail]
      rw [hj]
      obtain ⟨ht, hk2⟩ := tok_stop (z := 32) (by decide) (Lib.join (txts (t2 :: l)) [32]) c r
      have hlen : tokN (c :: r) = (c :: r).length := by rw [← hc]; exact hn
      have htake : (c :: (r ++ 32 :: Lib.join (txts (t2 :: l)) [32])).take (c :: r).length = c :: r := by rw [← List.cons_append, List.take_left]
      have hdrop : (c :: (r ++ 32 :: Lib.join (txts (t2 :: l)) [32])).drop (c :: r).length = 32 :: Lib.join (txts (t2 :: l)) [32] := by rw [← List.cons_append, List.drop_left]
      rw [lexL_tok (v := t.n) hb hh (by rw [ht]; exact h0) (by rw [ht, hk2, hlen, htake, ← hc, hk]; exact hv), ht, hlen, htake, hdrop, lexL_blank (by decide), h1]
      refine ⟨_, rfl, ?_⟩
      rw [List.map_cons, List.map_cons, h2]
      congr 1
      simp only [keyT]
      rw [hk2, ← hc, hk]; rfl
def jlen : List Pk → Nat
  | [] => 0
  | x :: r => x.2.1.length + 1 + jlen r
theorem jlen_le (s : Str) : ∀ (pl : List Pk) (f : Nat), posOK s f pl → f ≤ s.length → jlen pl ≤ 2 * (s.length - f)
  | [], _, _, _ => by simp [jlen]
  | x :: r, f, h, hf => by
    obtain ⟨h1, h2, h3, h4, h5⟩ := h
    have := jlen_le s r _ h5 h3
    simp only [jlen]; omega
theorem join_jlen : ∀ (pl : List Pk), (Lib.join (txts (pl.map mkQ)) [32]).length ≤ jlen pl
  | [] => by simp [txts, Lib.join_nil]
  | [x] => by simp [txts, Lib.join_one, jlen, mkQ]
  | x :: y :: r => by
    have h := join_jlen (y :: r)
    simp only [txts, List.map_cons] at h ⊢
    rw [Lib.join_cons] at h ⊢
    simp only [Lib.joinTail, List.map_cons, List.flatten_cons, List.length_append, jlen, mkQ, List.length_cons, List.length_nil] at h ⊢
    omega
/-- The tokens of a text, joined and read again. -/
theorem joins {s : Str} (hs : s.length ≤ 3000) (he : tkE s = 0) : (Lib.join (txts (tkL s)) [32]).length ≤ 6000 ∧ tkE (Lib.join (txts (tkL s)) [32]) = 0 ∧ tkP (Lib.join (txts (tkL s)) [32]) = 0 ∧ sameL false (tkL s) (tkL (Lib.join (txts (tkL s)) [32])) = true := by
  obtain ⟨pl, hpl, hpo⟩ := tkL_pos s
  have hl1 := jlen_le s pl 0 hpo (Nat.zero_le _)
  have hl2 := join_jlen pl
  rw [← hpl] at hl2
  have hl : (Lib.join (txts (tkL s)) [32]).length ≤ 6000 := by omega
  have hok : ∀ t ∈ tkL s, tkOK t := by
    unfold tkE at he
    unfold tkL
    rw [lexT_small (s := s) (by omega)] at he ⊢
    cases hx : lexL false 0 s with
    | error x => intro t ht; cases ht
    | ok l => exact toks_ok s.length false 0 s l (Nat.le_refl _) hx
  obtain ⟨l', h1, h2⟩ := relex (tkL s) hok 0
  have h3 : lexT (Lib.join (txts (tkL s)) [32]) = (l', 0, 0) := by rw [lexT_small (by omega), h1]
  refine ⟨hl, ?_, ?_, ?_⟩
  · unfold tkE; rw [h3]
  · unfold tkP; rw [h3]
  · have h4 : tkL (Lib.join (txts (tkL s)) [32]) = l' := congrArg (·.1) h3
    rw [h4]; unfold sameL; rw [decide_eq_true_eq, h2]
theorem join_small {s : Str} (hs : s.length ≤ 3000) : (Lib.join (txts (tkL s)) [32]).length ≤ 6000 := by
  obtain ⟨pl, hpl, hpo⟩ := tkL_pos s
  have hl1 := jlen_le s pl 0 hpo (Nat.zero_le _)
  have hl2 := join_jlen pl
  rw [← hpl] at hl2
  omega
end Go.Duo
