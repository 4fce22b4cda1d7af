/-
  Where tokens stand; numbers as tokens.
-/
import Derived.Test.YtajdahnfnodoeaaDoorDLex3
import Derived.Lib.ItoaMem
import Derived.Lib.ItoaLen
set_option linter.all false
namespace Go.Duo
open Go
abbrev Pk := Int × Str × Int × Nat
def mkQ (x : Pk) : Tok := ⟨x.1, x.2.1, x.2.2.1, x.2.2.2⟩
def encQ (x : Pk) : V := .agg [.int .i64 x.1, .str x.2.1, .int .i64 x.2.2.1, .int .i64 (x.2.2.2 : Nat)]
theorem encQ_cells (x : Pk) : (encQ x).cells = [.int .i64 x.1, .str x.2.1, .int .i64 x.2.2.1, .int .i64 (x.2.2.2 : Nat)] := rfl
theorem enc_mkQ (l : List Pk) : (l.map mkQ).map encK = l.map encQ := by rw [List.map_map]; rfl
def posOK (s : Str) : Nat → List Pk → Prop
  | _, [] => True
  | f, x :: r => f ≤ x.2.2.2 ∧ 0 < x.2.1.length ∧ x.2.2.2 + x.2.1.length ≤ s.length ∧ (s.take (x.2.2.2 + x.2.1.length)).drop x.2.2.2 = x.2.1 ∧ posOK s (x.2.2.2 + x.2.1.length) r
theorem posOK_le {s : Str} {f g : Nat} {l : List Pk} (h : posOK s f l) (hg : g ≤ f) : posOK s g l := by
  cases l with
  | nil => trivial
  | cons x r => exact ⟨Nat.le_trans hg h.1, h.2⟩
theorem pos_at {s : Str} {f i : Nat} {l : List Pk} (h : posOK s f (l.drop i)) (hi : i < l.length) :
    f ≤ l[i].2.2.2 ∧ 0 < l[i].2.1.length ∧ l[i].2.2.2 + l[i].2.1.length ≤ s.length ∧ (s.take (l[i].2.2.2 + l[i].2.1.length)).drop l[i].2.2.2 = l[i].2.1 ∧ posOK s (l[i].2.2.2 + l[i].2.1.length) (l.drop (i + 1)) := by
  rw [List.drop_eq_getElem_cons hi] at h
  exact h
theorem rd_at {s : Str} {a : Nat} (h : (rdL s a).2 = 0) : (rdL s a).1.at_ = a ∧ (s.take (a + (rdL s a).1.text.length)).drop a = (rdL s a).1.text := by
  unfold rdL at h ⊢
  have hle := tokN_le (s.drop a)
  split
  · rename_i h0; rw [if_pos h0] at h; cases h
  · rename_i h0
    rw [if_neg h0] at h
    split
    · rename_i hv; rw [hv] at h; cases h
    · rename_i v hv
      refine ⟨rfl, ?_⟩
      simp only [List.length_take, Nat.min_eq_left hle]
      exact txA_eq s a
theorem pos_lex (s : Str) : ∀ (m a : Nat) (l : List Tok), s.length < m + a → lexA s false a = .ok l → ∃ pl : List Pk, l = pl.map mkQ ∧ posOK s a pl := by
  intro m
  induction m with
  | zero =>
    intro a l h hl
    rw [lexA_end (by omega)] at hl
    simp only [Except.ok.injEq] at hl; subst hl
    exact ⟨[], rfl, trivial⟩
  | succ m ih =>
    intro a l h hl
    rcases Nat.lt_or_ge a s.length with ha | ha
    · have hk := skA_le (s := s) (a := a) (by omega)
      rw [lexA_skA] at hl
      rcases Nat.lt_or_ge (skA s a) s.length with hb | hb
      · have hhd := skA_head hb
        rw [rd_lex hb hhd.1 hhd.2] at hl
        by_cases h0 : (rdL s (skA s a)).2 = 0
        · rw [if_pos h0] at hl
          have h1 := rd_pos h0
          have h2 := rd_len hb
          obtain ⟨h3, h4⟩ := rd_at h0
          cases hx : lexA s false (skA s a + (rdL s (skA s a)).1.text.length) with
          | error z => rw [hx] at hl; cases hl
          | ok l' =>
            rw [hx] at hl
            simp only [Except.map, Except.ok.injEq] at hl
            subst hl
            obtain ⟨pl, rfl, hp⟩ := ih _ l' (by omega) hx
            refine ⟨((rdL s (skA s a)).1.kind, (rdL s (skA s a)).1.text, (rdL s (skA s a)).1.n, skA s a) :: pl, ?_, hk.1, h1, h2, h4, hp⟩
            rw [List.map_cons]
            congr 1
            unfold mkQ
            simp only
            rw [← h3]
        · rw [if_neg h0] at hl; cases hl
      · rw [lexA_end hb] at hl
        simp only [Except.ok.injEq] at hl; subst hl
        exact ⟨[], rfl, trivial⟩
    · rw [lexA_end ha] at hl
      simp only [Except.ok.injEq] at hl; subst hl
      exact ⟨[], rfl, trivial⟩
theorem tkL_pos (s : Str) : ∃ pl : List Pk, tkL s = pl.map mkQ ∧ posOK s 0 pl := by
  unfold tkL lexT
  split
  · exact ⟨[], rfl, trivial⟩
  · split
    · rename_i l hl
      exact pos_lex s (s.length + 1) 0 l (by omega) hl
    · exact ⟨[], rfl, trivial⟩
end Go.Duo
