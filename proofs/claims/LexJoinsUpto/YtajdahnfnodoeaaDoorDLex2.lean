/-
  Tokens: spans, skips, numbers; how the lexers go on.
-/
import Derived.Test.YtajdahnfnodoeaaDoorDLex
import Derived.Test.YtajdahnfnodoeaaDoorDShelf
import Derived.Test.YtajdahnfnodoeaaDoorDKit
set_option linter.all false
namespace Go.Duo
open Go
/-- How many bytes at the head are blanks and notes (b: within a note). -/
def skN : Bool → Str → Nat
  | _, [] => 0
  | true, c :: s => if c = 10 then 1 + skN false s else 1 + skN true s
  | false, c :: s => if blankB c = true then 1 + skN false s else if c = 35 then 1 + skN true s else 0
theorem skN_le : ∀ (b : Bool) (s : Str), skN b s ≤ s.length
  | b, [] => by cases b <;> simp [skN]
  | true, c :: s => by
    have h1 := skN_le true s
    have h2 := skN_le false s
    simp only [skN, List.length_cons]; split <;> omega
  | false, c :: s => by
    have h1 := skN_le true s
    have h2 := skN_le false s
    simp only [skN, List.length_cons]; split
    · omega
    · split <;> omega
theorem lexL_skip : ∀ (b : Bool) (s : Str) (a : Nat), lexL b a s = lexL false (a + skN b s) (s.drop (skN b s))
  | b, [], a => by simp [lexL_nil]
  | true, c :: s, a => by
    simp only [skN]
    by_cases h : c = 10
    · subst h
      rw [lexL_noteEnd, if_pos rfl, lexL_skip false s (a + 1), Nat.add_comm 1, List.drop_succ_cons, ← Nat.add_assoc, Nat.add_right_comm]
    · rw [lexL_note h, if_neg h, lexL_skip true s (a + 1), Nat.add_comm 1, List.drop_succ_cons, ← Nat.add_assoc, Nat.add_right_comm]
  | false, c :: s, a => by
    simp only [skN]
    by_cases h : blankB c = true
    · rw [lexL_blank h, if_pos h, lexL_skip false s (a + 1), Nat.add_comm 1, List.drop_succ_cons, ← Nat.add_assoc, Nat.add_right_comm]
    · rw [if_neg h]
      by_cases h' : c = 35
      · subst h'
        rw [lexL_hash, if_pos rfl, lexL_skip true s (a + 1), Nat.add_comm 1, List.drop_succ_cons, ← Nat.add_assoc, Nat.add_right_comm]
      · rw [if_neg h']; rfl
/-- Behind blanks and notes there is the end, or the head of a token. -/
theorem skN_head : ∀ (b : Bool) (s : Str), (s.drop (skN b s)) = [] ∨ ∃ c r, s.drop (skN b s) = c :: r ∧ blankB c = false ∧ ¬ c = 35
  | b, [] => by simp
  | true, c :: s => by
    simp only [skN]
    by_cases h : c = 10
    · rw [if_pos h, Nat.add_comm, List.drop_succ_cons]; exact skN_head false s
    · rw [if_neg h, Nat.add_comm, List.drop_succ_cons]; exact skN_head true s
  | false, c :: s => by
    simp only [skN]
    by_cases h : blankB c = true
    · rw [if_pos h, Nat.add_comm, List.drop_succ_cons]; exact skN_head false s
    · rw [if_neg h]
      by_cases h' : c = 35
      · rw [if_pos h', Nat.add_comm, List.drop_succ_cons]; exact skN_head true s
      · rw [if_neg h']; exact .inr ⟨c, s, rfl, by simpa using h, h'⟩
def skA (s : Str) (a : Nat) : Nat := a + skN false (s.drop a)
section
variable {s : Str} {a : Nat}
theorem lexA_skA (s : Str) (a : Nat) : lexA s false a = lexA s false (skA s a) := by
  unfold lexA skA
  rw [lexL_skip false (s.drop a) a, List.drop_drop]
theorem skA_le (h : a ≤ s.length) : a ≤ skA s a ∧ skA s a ≤ s.length := by
  have := skN_le false (s.drop a)
  rw [List.length_drop] at this
  unfold skA; omega
theorem skA_head (h : skA s a < s.length) : blankB s[skA s a] = false ∧ ¬ s[skA s a] = 35 := by
  have h1 := skN_head false (s.drop a)
  rw [List.drop_drop] at h1
  change s.drop (skA s a) = [] ∨ ∃ c r, s.drop (skA s a) = c :: r ∧ _ at h1
  rw [drop_at h] at h1
  rcases h1 with h1 | ⟨c, r, h1, h2, h3⟩
  · cases h1
  · simp only [List.cons.injEq] at h1
    rw [h1.1]; exact ⟨h2, h3⟩
theorem skN_step_blank (h : a < s.length) (hb : blankB s[a] = true) : skN false (s.drop a) = 1 + skN false (s.drop (a + 1)) := by rw [drop_at h, skN, if_pos hb]
theorem skA_blank (h : a < s.length) (hb : blankB s[a] = true) : skA s a = skA s (a + 1) := by unfold skA; rw [skN_step_blank h hb]; omega
theorem skN_note (s : Str) : skN true s = (s.takeWhile fun c => decide (c ≠ 10)).length + skN false (s.drop (s.takeWhile fun c => decide (c ≠ 10)).length) := by
  induction s with
  | nil => simp [skN]
  | cons c s ih =>
    by_cases h : c = 10
    · subst h; simp [skN, blankB]
    · simp only [skN]
      rw [if_neg h, List.takeWhile_cons_of_pos (by simpa using h), List.length_cons, List.drop_succ_cons, ih]
      omega
/-- Where the bytes end that are like that. -/
def spA (p : UInt8 → Bool) (s : Str) (a : Nat) : Nat := a + ((s.drop a).takeWhile p).length
theorem spA_le (p : UInt8 → Bool) (h : a ≤ s.length) : a ≤ spA p s a ∧ spA p s a ≤ s.length := by
  have := (List.takeWhile_prefix p (l := s.drop a)).length_le
  rw [List.length_drop] at this
  unfold spA; omega
theorem spA_yes {p : UInt8 → Bool} (h : a < s.length) (hp : p s[a] = true) : spA p s a = spA p s (a + 1) := by
  unfold spA; rw [drop_at h, List.takeWhile_cons_of_pos hp, List.length_cons]; omega
theorem spA_no {p : UInt8 → Bool} (h : a < s.length) (hp : p s[a] = false) : spA p s a = a := by
  unfold spA; rw [drop_at h, List.takeWhile_cons_of_neg (by rw [hp]; simp)]; rfl
theorem spA_end {p : UInt8 → Bool} (h : s.length ≤ a) : spA p s a = a := by unfold spA; rw [List.drop_eq_nil_of_le h]; rfl
theorem skA_note (h : a < s.length) (hc : s[a] = 35) : skA s a = skA s (spA (fun c => decide (c ≠ 10)) s a) := by
  unfold skA spA
  have e : skN false (s.drop a) = skN true (s.drop a) := by
    rw [drop_at h, hc, skN, skN, if_neg (by decide), if_pos rfl, if_neg (by decide)]
  rw [e, skN_note, List.drop_drop]; omega
theorem skA_stop (h : a < s.length) (hb : blankB s[a] = false) (hc : ¬ s[a] = 35) : skA s a = a := by
  unfold skA; rw [drop_at h, skN, if_neg (by rw [hb]; simp), if_neg hc]; rfl
theorem skA_end (h : s.length ≤ a) : skA s a = a := by unfold skA; rw [List.drop_eq_nil_of_le h]; rfl
/-- Where the number ends. -/
def nuA (s : Str) (a : Nat) : Nat := a + numN (s.drop a)
theorem nuA_le (h : a ≤ s.length) : a ≤ nuA s a ∧ nuA s a ≤ s.length := by
  have := numN_le (s.drop a)
  rw [List.length_drop] at this
  unfold nuA; omega
theorem nuA_short (h : a < s.length) (hm : s[a] = 45) (h1 : s.length ≤ a + 1) : nuA s a = a := by
  unfold nuA; rw [drop_at h, hm, List.drop_eq_nil_of_le h1]; simp [numN]
theorem nuA_minus (h : a < s.length) (hm : s[a] = 45) (h1 : a + 1 < s.length) : nuA s a = if dig s[a + 1] = true ∧ s[a + 1] ≠ 48 then spA dig s (a + 1) else a := by
  unfold nuA spA; rw [drop_at h, hm, drop_at h1]
  simp only [numN, if_true]
  split
  · rename_i hd; rw [List.takeWhile_cons_of_pos hd.1, List.length_cons]; omega
  · rfl
theorem nuA_zero (h : a < s.length) (hz : s[a] = 48) : nuA s a = a + 1 := by
  unfold nuA; rw [drop_at h, hz]; simp [numN]
theorem nuA_plain (h : a < s.length) (hm : ¬ s[a] = 45) (hz : ¬ s[a] = 48) : nuA s a = if dig s[a] = true then spA dig s a else a := by
  unfold nuA spA; rw [drop_at h]
  simp only [numN, if_neg hm, if_neg hz]
  split
  · rename_i hd; rw [List.takeWhile_cons_of_pos hd, List.length_cons]; omega
  · rfl
theorem nuA_all (h : a < s.length) : nuA s a = if s[a] = 45 then (if h1 : a + 1 < s.length then (if dig s[a + 1] = true ∧ ¬ s[a + 1] = 48 then spA dig s (a + 1) else a) else a) else if s[a] = 48 then a + 1 else if dig s[a] = true then spA dig s a else a := by
  split
  · split
    · exact nuA_minus h (by assumption) (by assumption)
    · exact nuA_short h (by assumption) (by omega)
  · split
    · exact nuA_zero h (by assumption)
    · exact nuA_plain h (by assumption) (by assumption)
theorem tok_word (h : a < s.length) (hl : letB s[a] = true) : a + tokN (s.drop a) = spA wordB s a ∧ tokK (s.drop a) = 1 ∧ ¬ tokN (s.drop a) = 0 := by
  unfold spA
  have hw : wordB s[a] = true := by simp [wordB, hl]
  rw [drop_at h, List.takeWhile_cons_of_pos hw]
  simp only [tokN, tokK, hl, if_true, List.length_cons, true_and]; omega
theorem tok_num (h : a < s.length) (hl : letB s[a] = false) (hn : a < nuA s a) : a + tokN (s.drop a) = nuA s a ∧ tokK (s.drop a) = 2 ∧ ¬ tokN (s.drop a) = 0 := by
  unfold nuA at hn ⊢
  rw [drop_at h] at hn ⊢
  have h0 : ¬ numN (s[a] :: s.drop (a + 1)) = 0 := by omega
  simp only [tokN, tokK, hl, Bool.false_eq_true, if_false, ne_eq, h0, not_false_eq_true, if_true, true_and]
theorem tok_sign (h : a < s.length) (hl : letB s[a] = false) (hn : ¬ a < nuA s a) (hs : signB s[a] = true) : tokN (s.drop a) = 1 ∧ tokK (s.drop a) = 3 := by
  unfold nuA at hn
  rw [drop_at h] at hn ⊢
  have h0 : numN (s[a] :: s.drop (a + 1)) = 0 := by omega
  simp only [tokN, tokK, hl, Bool.false_eq_true, if_false, ne_eq, h0, not_true_eq_false, hs, if_true, and_self]
theorem tok_none (h : a < s.length) (hl : letB s[a] = false) (hn : ¬ a < nuA s a) (hs : signB s[a] = false) : tokN (s.drop a) = 0 ∧ tokK (s.drop a) = 0 := by
  unfold nuA at hn
  rw [drop_at h] at hn ⊢
  have h0 : numN (s[a] :: s.drop (a + 1)) = 0 := by omega
  simp only [tokN, tokK, hl, Bool.false_eq_true, if_false, ne_eq, h0, not_true_eq_false, hs, and_self]
end
/-- The index of a byte, or -1. -/
def idxB (l : Str) (c : UInt8) : Int := if c ∈ l then ((l.takeWhile fun x => !decide (x = c)).length : Nat) else -1
theorem idxB_ge (l : Str) (c : UInt8) : decide (0 ≤ idxB l c) = decide (c ∈ l) := by
  unfold idxB
  by_cases h : c ∈ l
  · rw [if_pos h]; simp [h]
  · rw [if_neg h]; simp [h]
theorem blank_in (c : UInt8) : decide (c ∈ ([32, 9, 10, 13] : Str)) = blankB c := by
  simp only [List.mem_cons, List.not_mem_nil, or_false, Bool.decide_or, blankB, Bool.or_assoc]
theorem sign_in (c : UInt8) : decide (c ∈ signL) = signB c := rfl
end Go.Duo
namespace Go.Duo
open Go
def Tok.zero : Tok := ⟨0, [], 0, 0⟩
def encK (t : Tok) : V := .agg [.int .i64 t.kind, .str t.text, .int .i64 t.n, .int .i64 t.at_]
theorem encK_cells (t : Tok) : (encK t).cells = [.int .i64 t.kind, .str t.text, .int .i64 t.n, .int .i64 t.at_] := rfl
/-- What is read at a place: a token, or a fault. -/
def rdL (s : Str) (a : Nat) : Tok × Int :=
  if tokN (s.drop a) = 0 then (Tok.zero, 1) else match tokV (tokK (s.drop a)) ((s.drop a).take (tokN (s.drop a))) with
    | none => (Tok.zero, 2)
    | some v => (⟨tokK (s.drop a), (s.drop a).take (tokN (s.drop a)), v, a⟩, 0)
section
variable {s : Str} {a : Nat}
theorem slice_tok {e : Nat} (h : a + tokN (s.drop a) = e) : (s.take e).drop a = (s.drop a).take (tokN (s.drop a)) := by
  rw [List.drop_take]; congr 1; omega
theorem rd_word (h : a < s.length) (hl : letB s[a] = true) : rdL s a = (⟨1, (s.take (spA wordB s a)).drop a, 0, a⟩, 0) := by
  obtain ⟨h1, h2, h3⟩ := tok_word h hl
  unfold rdL; rw [if_neg h3, slice_tok h1, h2]; simp [tokV]
theorem rd_num {n : Int} (h : a < s.length) (hl : letB s[a] = false) (hn : a < nuA s a) (hv : Lib.parseIntB 64 ((s.take (nuA s a)).drop a) = .ok n) : rdL s a = (⟨2, (s.take (nuA s a)).drop a, n, a⟩, 0) := by
  obtain ⟨h1, h2, h3⟩ := tok_num h hl hn
  rw [slice_tok h1] at hv ⊢
  unfold rdL; rw [if_neg h3, h2]; simp only [tokV, if_true, hv]
theorem rd_big (h : a < s.length) (hl : letB s[a] = false) (hn : a < nuA s a) (hv : ∀ n, ¬ Lib.parseIntB 64 ((s.take (nuA s a)).drop a) = .ok n) : rdL s a = (Tok.zero, 2) := by
  obtain ⟨h1, h2, h3⟩ := tok_num h hl hn
  rw [slice_tok h1] at hv
  have hn : tokV 2 ((s.drop a).take (tokN (s.drop a))) = none := by
    unfold tokV
    rw [if_pos rfl]
    cases hh : Lib.parseIntB 64 ((s.drop a).take (tokN (s.drop a))) <;> first | rfl | exact absurd hh (hv _)
  unfold rdL; rw [if_neg h3, h2, hn]
theorem rd_sign (h : a < s.length) (hl : letB s[a] = false) (hn : ¬ a < nuA s a) (hs : signB s[a] = true) : rdL s a = (⟨3, (s.take (a + 1)).drop a, 0, a⟩, 0) := by
  obtain ⟨h1, h2⟩ := tok_sign h hl hn hs
  rw [slice_tok (e := a + 1) (by omega)]
  unfold rdL; rw [if_neg (by omega), h2, h1]; simp [tokV]
theorem rd_none (h : a < s.length) (hl : letB s[a] = false) (hn : ¬ a < nuA s a) (hs : signB s[a] = false) : rdL s a = (Tok.zero, 1) := by
  unfold rdL; rw [if_pos (tok_none h hl hn hs).1]
theorem drop1 (h : a < s.length) : (s.take (a + 1)).drop a = [s[a]] := by
  rw [List.drop_take, show a + 1 - a = 1 from by omega, drop_at h]; rfl
end
theorem u8_45 (c : UInt8) : ((c.toNat : Int) = 45) = (c = 45) := propext ⟨fun h => UInt8.toNat.inj (by simpa using (show c.toNat = 45 by omega)), fun h => by rw [h]; rfl⟩
theorem u8_48 (c : UInt8) : ((c.toNat : Int) = 48) = (c = 48) := propext ⟨fun h => UInt8.toNat.inj (by simpa using (show c.toNat = 48 by omega)), fun h => by rw [h]; rfl⟩
theorem u8_35 (c : UInt8) : ((c.toNat : Int) = 35) = (c = 35) := propext ⟨fun h => UInt8.toNat.inj (by simpa using (show c.toNat = 35 by omega)), fun h => by rw [h]; rfl⟩
theorem u8_10 (c : UInt8) : ((c.toNat : Int) = 10) = (c = 10) := propext ⟨fun h => UInt8.toNat.inj (by simpa using (show c.toNat = 10 by omega)), fun h => by rw [h]; rfl⟩
theorem u8_43 (c : UInt8) : ((c.toNat : Int) = 43) = (c = 43) := propext ⟨fun h => UInt8.toNat.inj (by simpa using (show c.toNat = 43 by omega)), fun h => by rw [h]; rfl⟩
theorem u8_eq (c d : UInt8) : ((c.toNat : Int) = (d.toNat : Int)) = (c = d) := propext ⟨fun h => UInt8.toNat.inj (by omega), fun h => by rw [h]⟩
def encF (e a : Int) : V := .agg [.int .i64 e, .int .i64 a]
theorem encF_cells (e a : Int) : (encF e a).cells = [.int .i64 e, .int .i64 a] := rfl
/-- What is handed to the loop, from a place on. -/
def yF (s : Str) : Nat → Nat → List (Tok × Int × Int)
  | 0, _ => []
  | m + 1, a => if a < s.length then (if (rdL s a).2 = 0 then ((rdL s a).1, 0, 0) :: yF s m (skA s (a + (rdL s a).1.text.length)) else [((rdL s a).1, (rdL s a).2, (a : Int))]) else []
def allL (s : Str) : List (Tok × Int × Int) := yF s (s.length + 1) (skA s 0)
def encY (x : Tok × Int × Int) : List V := [encK x.1, encF x.2.1 x.2.2]
def resF : List (Tok × Int × Int) → LexR
  | [] => .ok []
  | (t, e, p) :: l => if e = 0 then (resF l).map (t :: ·) else .error (e, p)
section
variable {s : Str} {a : Nat}
theorem rd_len (h : a < s.length) : a + (rdL s a).1.text.length ≤ s.length := by
  unfold rdL
  have := tokN_le (s.drop a)
  rw [List.length_drop] at this
  split
  · simp [Tok.zero]; omega
  · split
    · simp [Tok.zero]; omega
    · simp only [List.length_take, List.length_drop]; omega
theorem rd_pos (h : (rdL s a).2 = 0) : 0 < (rdL s a).1.text.length := by
  unfold rdL at h ⊢
  have := tokN_le (s.drop a)
  split
  · rename_i h0; rw [if_pos h0] at h; cases h
  · rename_i h0
    rw [if_neg h0] at h
    split
    · rename_i hv; rw [hv] at h; cases h
    · simp only [List.length_take]; omega
theorem rd_lex (h : a < s.length) (hb : blankB s[a] = false) (hh : ¬ s[a] = 35) : lexA s false a = if (rdL s a).2 = 0 then (lexA s false (a + (rdL s a).1.text.length)).map ((rdL s a).1 :: ·) else .error ((rdL s a).2, (a : Int)) := by
  have hle := tokN_le (s.drop a)
  by_cases h0 : tokN (s.drop a) = 0
  · rw [lexA_bad h hb hh h0]; unfold rdL; rw [if_pos h0]; rfl
  · cases hv : tokV (tokK (s.drop a)) ((s.drop a).take (tokN (s.drop a))) with
    | none => rw [lexA_big h hb hh h0 hv]; unfold rdL; rw [if_neg h0, hv]; rfl
    | some v =>
      rw [lexA_tok h hb hh h0 hv]
      unfold rdL
      rw [if_neg h0, hv]
      simp only [if_true, List.length_take, Nat.min_eq_left hle]
theorem yF_res : ∀ (m a : Nat), s.length < m + a → (∀ h : a < s.length, blankB s[a] = false ∧ ¬ s[a] = 35) → resF (yF s m a) = lexA s false a := by
  intro m
  induction m with
  | zero => intro a h _; rw [lexA_end (by omega)]; rfl
  | succ m ih =>
    intro a hm hhd
    unfold yF
    by_cases h : a < s.length
    · rw [if_pos h, rd_lex h (hhd h).1 (hhd h).2]
      by_cases h0 : (rdL s a).2 = 0
      · rw [if_pos h0, if_pos h0]
        have h1 := rd_pos h0
        have h2 := rd_len h
        have h3 := skA_le (s := s) (a := a + (rdL s a).1.text.length) h2
        simp only [resF, if_true]
        rw [ih _ (by omega) (fun hh => skA_head hh), ← lexA_skA]
      · rw [if_neg h0, if_neg h0]; simp only [resF, if_neg h0]
    · rw [if_neg h, lexA_end (by omega)]; rfl
theorem allL_res (s : Str) : resF (allL s) = lexA s false 0 := by
  unfold allL
  rw [yF_res (s.length + 1) (skA s 0) (by have := skA_le (s := s) (a := 0) (Nat.zero_le _); omega) (fun h => skA_head h), ← lexA_skA]
end
def KW : List Str := [[100, 101, 102], [109, 97, 105, 110], [115, 116, 111, 112], [110, 101, 119], [105, 110, 116], [98, 111, 111, 108], [101, 110, 100], [114, 101, 99], [116, 114, 117, 101], [102, 97, 108, 115, 101]]
def nameB (s : Str) : Bool := isWord s && !decide (s ∈ KW)
theorem strnil (s : Str) : (s = []) = (s.length = 0) := propext ⟨fun h => by rw [h]; rfl, List.eq_nil_of_length_eq_zero⟩
theorem nameB_nil : nameB [] = false := by simp [nameB, isWord]
theorem isWord_at {s : Str} (h : 0 < s.length) : isWord s = (letB s[0] && decide (spA wordB s 0 = s.length)) := by
  cases s with
  | nil => simp at h
  | cons c r =>
    simp only [isWord, List.getElem_cons_zero, spA, List.drop_zero, Nat.zero_add, List.length_cons]
    by_cases hc : letB c = true
    · rw [List.takeWhile_cons_of_pos (by simp [wordB, hc])]
      have := all_take wordB r r.length (Nat.le_refl _)
      rw [List.take_length] at this
      rw [this]
      have h2 := (List.takeWhile_prefix wordB (l := r)).length_le
      congr 1
      refine decide_eq_decide.2 ?_
      simp only [List.length_cons]; omega
    · simp [hc]
theorem all_ok {s : Str} {a i m : Nat} (hd : (allL s).drop i = yF s m a) (hm : s.length < m + a) (h : a < s.length) (h0 : (rdL s a).2 = 0) :
    (allL s)[i]? = some ((rdL s a).1, 0, 0) ∧ (allL s).drop (i + 1) = yF s (m - 1) (skA s (a + (rdL s a).1.text.length)) ∧ s.length < m - 1 + skA s (a + (rdL s a).1.text.length) ∧ skA s (a + (rdL s a).1.text.length) ≤ s.length ∧ a < skA s (a + (rdL s a).1.text.length) ∧ i + 1 ≤ (allL s).length := by
  obtain ⟨k, rfl⟩ : ∃ k, m = k + 1 := ⟨m - 1, by omega⟩
  have h1 := rd_pos h0
  have h2 := rd_len h
  have h3 := skA_le (s := s) (a := a + (rdL s a).1.text.length) h2
  rw [yF, if_pos h, if_pos h0] at hd
  have hg : (allL s)[i]? = some ((rdL s a).1, 0, 0) := by
    have := congrArg (·[0]?) hd
    simpa [List.getElem?_drop] using this
  refine ⟨hg, ?_, by omega, h3.2, by omega, (List.getElem?_eq_some_iff.1 hg).1⟩
  rw [← List.drop_drop, hd]; rfl
theorem all_bad {s : Str} {a i m : Nat} (hd : (allL s).drop i = yF s m a) (hm : s.length < m + a) (h : a < s.length) (h0 : ¬ (rdL s a).2 = 0) :
    (allL s)[i]? = some ((rdL s a).1, (rdL s a).2, (a : Int)) ∧ (allL s).length = i + 1 := by
  obtain ⟨k, rfl⟩ : ∃ k, m = k + 1 := ⟨m - 1, by omega⟩
  rw [yF, if_pos h, if_neg h0] at hd
  have hg : (allL s)[i]? = some ((rdL s a).1, (rdL s a).2, (a : Int)) := by
    have := congrArg (·[0]?) hd
    simpa [List.getElem?_drop] using this
  refine ⟨hg, ?_⟩
  have := congrArg List.length hd
  rw [List.length_drop] at this
  simp only [List.length_cons, List.length_nil] at this
  omega
theorem all_end {s : Str} {a i m : Nat} (hd : (allL s).drop i = yF s m a) (hi : i ≤ (allL s).length) (h : ¬ a < s.length) : (allL s).length = i := by
  have hn : yF s m a = [] := by
    cases m with
    | zero => rfl
    | succ m => rw [yF, if_neg h]
  rw [hn] at hd
  have := congrArg List.length hd
  rw [List.length_drop] at this
  simp only [List.length_nil] at this
  omega
theorem pure_pair (k n a e b : Int) (t : Str) : ∀ v ∈ ([.agg [.int .i64 k, .str t, .int .i64 n, .int .i64 a], .agg [.int .i64 e, .int .i64 b]] : List V), PureV v := by
  intro v hv
  simp only [List.mem_cons, List.not_mem_nil, or_false] at hv
  rcases hv with rfl | rfl
  · refine PureV.agg fun c hc => ?_
    simp only [List.mem_cons, List.not_mem_nil, or_false] at hc
    rcases hc with rfl | rfl | rfl | rfl
    · exact PureV.int _ _
    · exact PureV.str _
    · exact PureV.int _ _
    · exact PureV.int _ _
  · refine PureV.agg fun c hc => ?_
    simp only [List.mem_cons, List.not_mem_nil, or_false] at hc
    rcases hc with rfl | rfl <;> exact PureV.int _ _
theorem yld_one {x : O} {l : List O} (h : ∀ o ∈ l, o.isYld = false) : ∀ (j : Nat) (o : O), (x :: l)[j]? = some o → j ≠ 0 → o.isYld = false := by
  intro j o ho hj
  cases j with
  | zero => exact absurd rfl hj
  | succ j => exact h o (List.mem_of_getElem? (by simpa using ho))
/-- What lex.Tokens returns. -/
def lexT (s : Str) : List Tok × Int × Int := if 65536 < s.length then ([], 2, 65536) else match lexA s false 0 with
  | .ok l => (l, 0, 0)
  | .error x => ([], x.1, x.2)
def encTk (x : List Tok × Int × Int) : V := .tuple [.sl (x.1.map encK) none, .agg [.int .i64 x.2.1, .int .i64 x.2.2]]
theorem resF_bad : ∀ {l : List (Tok × Int × Int)} {n : Nat} {y : Tok × Int × Int}, (∀ x ∈ l.take n, x.2.1 = 0) → l[n]? = some y → ¬ y.2.1 = 0 → resF l = .error (y.2.1, y.2.2) := by
  intro l
  induction l with
  | nil => intro n y _ h; simp at h
  | cons x l ih =>
    intro n y hall hy h0
    cases n with
    | zero =>
      obtain rfl : x = y := by simpa using hy
      obtain ⟨t, e, p⟩ := x
      exact if_neg h0
    | succ n =>
      have hx : x.2.1 = 0 := hall x (by simp)
      obtain ⟨t, e, p⟩ := x
      simp only [resF]
      rw [if_pos hx, ih (n := n) (fun z hz => hall z (by rw [List.take_succ_cons]; exact List.mem_cons_of_mem _ hz)) (by simpa using hy) h0]; rfl
theorem resF_all : ∀ {l : List (Tok × Int × Int)}, (∀ x ∈ l, x.2.1 = 0) → resF l = .ok (l.map (·.1)) := by
  intro l
  induction l with
  | nil => intro _; rfl
  | cons x l ih =>
    intro hall
    have hx : x.2.1 = 0 := hall x (by simp)
    obtain ⟨t, e, p⟩ := x
    simp only [resF]
    rw [if_pos hx, ih (fun z hz => hall z (by simp [hz]))]; rfl
theorem take_step {α : Type} {l : List α} {n : Nat} {y : α} (h : l[n]? = some y) : l.take (n + 1) = l.take n ++ [y] := by rw [List.take_succ, h]; rfl
theorem encY_at {l : List (Tok × Int × Int)} {n : Nat} {x : List V} (h : (l.map encY)[n]? = some x) : ∃ y, l[n]? = some y ∧ x = encY y := by
  rw [List.getElem?_map] at h
  cases hy : l[n]? with
  | none => rw [hy] at h; cases h
  | some y => rw [hy] at h; simp only [Option.map_some, Option.some.injEq] at h; exact ⟨y, rfl, h.symm⟩
theorem lexT_big {s : Str} (h : 65536 < s.length) : lexT s = ([], 2, 65536) := if_pos h
theorem lexT_bad {s : Str} (h : s.length ≤ 65536) {n : Nat} {y : Tok × Int × Int} (hall : ∀ x ∈ (allL s).take n, x.2.1 = 0) (hy : (allL s)[n]? = some y) (h0 : ¬ y.2.1 = 0) : lexT s = ([], y.2.1, y.2.2) := by
  unfold lexT; rw [if_neg (by omega), ← allL_res, resF_bad hall hy h0]
theorem lexT_ok {s : Str} (h : s.length ≤ 65536) (hall : ∀ x ∈ allL s, x.2.1 = 0) : lexT s = ((allL s).map (·.1), 0, 0) := by
  unfold lexT; rw [if_neg (by omega), ← allL_res, resF_all hall]
theorem nil_tup (st : List O) (x : V) : V.le st (.tuple [.nil, x]) (.tuple [.sl [] none, x]) := by
  refine V.le_tuple rfl fun i c d hc hd => ?_
  rcases i with _ | _ | i
  · simp at hc hd; subst hc hd; exact V.le_nil _
  · simp at hc hd; subst hc hd; exact V.le_refl _ _
  · simp at hc
theorem yF_len (s : Str) : ∀ (m a : Nat), (yF s m a).length ≤ m
  | 0, _ => by simp [yF]
  | m + 1, a => by
    unfold yF
    split
    · split
      · rw [List.length_cons]; have := yF_len s m (skA s (a + (rdL s a).1.text.length)); omega
      · simp
    · simp
theorem take_len (s : Str) (n : Nat) : (List.take n (allL s)).length ≤ s.length + 1 := by
  have := yF_len s (s.length + 1) (skA s 0)
  rw [List.length_take]; unfold allL; omega
theorem take_at {α : Type} {l : List α} {i : Nat} (h : i < l.length) : l.take (i + 1) = l.take i ++ [l[i]] := by rw [List.take_append_getElem]
def txts (l : List Tok) : List Str := l.map (·.text)
theorem txts_enc (l : List Tok) : (l.map fun t => V.str t.text) = (txts l).map .str := by simp only [txts, List.map_map]; rfl
end Go.Duo
