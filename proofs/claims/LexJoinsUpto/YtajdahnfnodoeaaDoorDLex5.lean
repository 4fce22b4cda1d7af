/-
  The decimal text of a number is one token.
-/
import Derived.Test.YtajdahnfnodoeaaDoorDLex4
set_option linter.all false
namespace Go.Duo
open Go
theorem dslice {m : Nat} (h : m < 10) : List.drop m (48 :: List.take m [49, 50, 51, 52, 53, 54, 55, 56, 57]) = [UInt8.ofNat (48 + m)] := by
  have : ∀ k : Fin 10, List.drop k.1 (48 :: List.take k.1 [49, 50, 51, 52, 53, 54, 55, 56, 57]) = [UInt8.ofNat (48 + k.1)] := by decide
  exact this ⟨m, h⟩
theorem sub_neg0 (u : Int) : (0 : Int) - -u = u := by omega
theorem mod10 (n : Nat) : ((n : Int) % 10) = ((n % 10 : Nat) : Int) := by omega
theorem div10 (n : Nat) : ((n : Int) / 10) = ((n / 10 : Nat) : Int) := by omega
theorem dec_step {a : Nat} (h : 9 < a) : Lib.decDigits a = Lib.decDigits (a / 10) ++ [UInt8.ofNat (48 + a % 10)] := by
  conv => lhs; rw [Lib.decDigits]
  rw [dif_neg (by omega)]
theorem dec_last {a : Nat} (h : a ≤ 9) : Lib.decDigits a = [UInt8.ofNat (48 + a)] := by
  rw [Lib.decDigits, dif_pos (by omega)]
theorem dec_len {n : Nat} (h : n ≤ 9223372036854775808) : (Lib.decDigits n).length ≤ 21 := by
  rcases Nat.lt_or_ge n 9223372036854775808 with h' | h'
  · have := Lib.itoa_length_le (n : Int) (by omega) (by omega)
    rwa [Lib.itoa_nonneg] at this
  · have e : n = 9223372036854775808 := by omega
    subst e; decide +kernel
theorem dec_head {u : Nat} (h : 1 ≤ u) : ∃ c l, Lib.decDigits u = c :: l ∧ dig c = true ∧ c ≠ 48 := by
  induction u using Nat.strongRecOn with
  | ind u ih =>
    rcases Nat.lt_or_ge 9 u with h9 | h9
    · obtain ⟨c, l, hl, hc, hn⟩ := ih (u / 10) (by omega) (by omega)
      exact ⟨c, l ++ [UInt8.ofNat (48 + u % 10)], by rw [dec_step h9, hl]; rfl, hc, hn⟩
    · refine ⟨_, [], dec_last h9, ?_, ?_⟩
      · simp only [dig, Bool.and_eq_true, decide_eq_true_eq, UInt8.toNat_ofNat']; omega
      · intro he
        have := congrArg UInt8.toNat he
        simp only [UInt8.toNat_ofNat'] at this
        have e48 : (48 : UInt8).toNat = 48 := rfl
        omega
theorem tw_app {p : UInt8 → Bool} {l r : Str} (h : ∀ c ∈ l, p c = true) (hr : r.takeWhile p = []) : (l ++ r).takeWhile p = l := by
  induction l with
  | nil => simpa using hr
  | cons c l ih => rw [List.cons_append, List.takeWhile_cons_of_pos (h c (List.mem_cons_self ..)), ih (fun d hd => h d (List.mem_cons_of_mem _ hd))]
theorem itoa_tok {n : Int} {r : Str} (hr : r.takeWhile dig = []) : ∃ c l, Lib.itoa n = c :: l ∧ blankB c = false ∧ ¬ c = 35 ∧ tokN (Lib.itoa n ++ r) = (Lib.itoa n).length ∧ tokK (Lib.itoa n ++ r) = 2 := by
  have key : ∀ c l, letB c = false → numN (c :: (l ++ r)) = (c :: l).length → tokN (c :: l ++ r) = (c :: l).length ∧ tokK (c :: l ++ r) = 2 := by
    intro c l h1 h2
    rw [List.cons_append]
    refine ⟨?_, ?_⟩ <;> simp [tokN, tokK, h1, h2]
  rcases Int.lt_or_le n 0 with hn | hn
  · obtain ⟨u, rfl⟩ : ∃ u : Nat, n = -(u : Int) := ⟨n.natAbs, by omega⟩
    have hu : 1 ≤ u := by omega
    rw [Lib.itoa_neg u hu]
    obtain ⟨c, l, hl, hc, h48⟩ := dec_head hu
    refine ⟨45, Lib.decDigits u, rfl, by decide, by decide, ?_⟩
    refine key 45 _ (by decide) ?_
    have hall : ∀ d ∈ l, dig d = true := fun d hd => decDigits_dig u d (by rw [hl]; exact List.mem_cons_of_mem _ hd)
    rw [hl, List.cons_append]
    simp only [numN, if_true, hc, ne_eq, h48, not_false_eq_true, and_self, tw_app hall hr, List.length_cons]
    omega
  · obtain ⟨u, rfl⟩ : ∃ u : Nat, n = (u : Int) := ⟨n.natAbs, by omega⟩
    rw [Lib.itoa_nonneg]
    rcases Nat.eq_zero_or_pos u with h0 | h0
    · subst h0
      refine ⟨48, [], by rw [dec_last (by omega)]; rfl, by decide, by decide, ?_⟩
      rw [dec_last (by omega)]
      exact key 48 [] (by decide) (by simp [numN])
    · obtain ⟨c, l, hl, hc, h48⟩ := dec_head h0
      obtain ⟨h1, h2, h3, h4, h5⟩ := dig_not hc
      refine ⟨c, l, hl, h5, h4, ?_⟩
      rw [hl]
      refine key c l h1 ?_
      have hall : ∀ d ∈ l, dig d = true := fun d hd => decDigits_dig u d (by rw [hl]; exact List.mem_cons_of_mem _ hd)
      simp only [numN, h2, if_false, h48, hc, if_true, tw_app hall hr, List.length_cons]
      omega
theorem parse_itoa {n : Int} (h1 : -9223372036854775808 ≤ n) (h2 : n ≤ 9223372036854775807) : Lib.parseIntB 64 (Lib.itoa n) = .ok n := by
  rcases Int.lt_or_le n 0 with hn | hn
  · obtain ⟨u, rfl⟩ : ∃ u : Nat, n = -(u : Int) := ⟨n.natAbs, by omega⟩
    have hu : 1 ≤ u := by omega
    rw [Lib.itoa_neg u hu, Lib.parseIntB_minus, parseB_dig _ (by obtain ⟨c, l, hl, _⟩ := dec_head hu; rw [hl]; simp) (List.all_eq_true.2 (decDigits_dig u)), foldD_dec, if_pos (by omega)]
    simp only [Lib.signedC]; rw [if_neg (by simp; omega)]
  · obtain ⟨u, rfl⟩ : ∃ u : Nat, n = (u : Int) := ⟨n.natAbs, by omega⟩
    rw [Lib.itoa_nonneg]
    obtain ⟨c, l, hl, hc⟩ := decDigits_cons u
    have hp := parseB_dig (Lib.decDigits u) (by rw [hl]; simp) (List.all_eq_true.2 (decDigits_dig u))
    rw [foldD_dec, if_pos (by omega)] at hp
    simp only [dig, Bool.and_eq_true, decide_eq_true_eq] at hc
    rw [hl] at hp ⊢
    rw [Lib.parseIntB_plain 64 c l (by omega) (by omega), hp]
    simp only [Lib.signlessC]; rw [if_neg (by simp; omega)]
theorem lex_itoa {n : Int} (h1 : -9223372036854775808 ≤ n) (h2 : n ≤ 9223372036854775807) {r : Str} (hr : r.takeWhile dig = []) :
    lexA (Lib.itoa n ++ r) false 0 = (lexA (Lib.itoa n ++ r) false (Lib.itoa n).length).map (⟨2, Lib.itoa n, n, 0⟩ :: ·) := by
  obtain ⟨c, l, hl, hb, hh, ht, hk⟩ := itoa_tok (n := n) hr
  have hp := parse_itoa h1 h2
  have hlen : 0 < (Lib.itoa n ++ r).length := by rw [hl]; simp
  have hc : (Lib.itoa n ++ r)[0] = c := by simp [hl]
  have htk : ((Lib.itoa n ++ r).drop 0).take (tokN ((Lib.itoa n ++ r).drop 0)) = Lib.itoa n := by rw [List.drop_zero, ht, List.take_left]
  have := lexA_tok (s := Lib.itoa n ++ r) (a := 0) (v := n) hlen (by rw [hc]; exact hb) (by rw [hc]; exact hh) (by rw [List.drop_zero, ht, hl]; simp) (by rw [htk, List.drop_zero, hk]; unfold tokV; rw [if_pos rfl, hp])
  rw [htk, List.drop_zero, hk, ht, Nat.zero_add] at this
  exact this
theorem itoa_len21 {n : Int} (h1 : -9223372036854775808 ≤ n) (h2 : n ≤ 9223372036854775807) : (Lib.itoa n).length ≤ 21 := Lib.itoa_length_le n h1 h2
theorem lexT_num {n : Int} (h1 : -9223372036854775808 ≤ n) (h2 : n ≤ 9223372036854775807) : lexT (Lib.itoa n) = ([⟨2, Lib.itoa n, n, 0⟩], 0, 0) := by
  have h := lex_itoa h1 h2 (r := []) rfl
  rw [List.append_nil, lexA_end (Nat.le_refl _)] at h
  have hl := itoa_len21 h1 h2
  unfold lexT; rw [if_neg (by omega), h]; rfl
theorem lexT_numx {n : Int} (h1 : -9223372036854775808 ≤ n) (h2 : n ≤ 9223372036854775807) : lexT (Lib.itoa n ++ [120, 49]) = ([⟨2, Lib.itoa n, n, 0⟩, ⟨1, [120, 49], 0, (Lib.itoa n).length⟩], 0, 0) := by
  have h := lex_itoa h1 h2 (r := [120, 49]) (by decide)
  have hl := itoa_len21 h1 h2
  have hlen : (Lib.itoa n).length < (Lib.itoa n ++ [120, 49]).length := by rw [List.length_append]; simp
  have hd : (Lib.itoa n ++ [120, 49]).drop (Lib.itoa n).length = [120, 49] := List.drop_left
  have hc : (Lib.itoa n ++ [120, 49])[(Lib.itoa n).length] = 120 := by
    have := drop_at hlen
    rw [hd] at this
    exact (List.cons.inj this).1.symm
  have h3 := lexA_tok (s := Lib.itoa n ++ [120, 49]) (a := (Lib.itoa n).length) (v := 0) hlen (by rw [hc]; decide) (by rw [hc]; decide) (by rw [hd]; decide) (by rw [hd]; decide)
  rw [hd, show tokN [120, 49] = 2 from by decide, show tokK [120, 49] = 1 from by decide, lexA_end (a := (Lib.itoa n).length + 2) (b := false) (by rw [List.length_append]; simp)] at h3
  rw [h3] at h
  unfold lexT; rw [if_neg (by rw [List.length_append]; simp only [List.length_cons, List.length_nil]; omega), h]; rfl
end Go.Duo
