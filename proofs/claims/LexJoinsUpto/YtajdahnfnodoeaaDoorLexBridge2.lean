/-
  The rows of tokens that a law is handed.
-/
import Derived.Test.YtajdahnfnodoeaaDoorLexBridge
set_option linter.all false
namespace Go.Proofs.YtajdahnfnodoeaaDoor
open Go Go.Duo Go.ChangeShapes Go.WideShapes Go.ChangeAt Go.RowKit
theorem c2 : Tryd.prog.cellsOf 2 = 1 := by kernel_rfl
theorem c3 : Tryd.prog.cellsOf 3 = 1 := by kernel_rfl
theorem c9 : Tryd.prog.cellsOf 9 = 1 := by kernel_rfl
theorem c39 : Tryd.prog.cellsOf 39 = 4 := by kernel_rfl
theorem has2 {n : Nat} {v : V} (h : Has Tryd.prog n 2 [v]) : ∃ k, v = .int .i64 k := by
  cases n with
  | zero => exact h.elim
  | succ n =>
    simp only [Has, Tryd.underlying2, List.cons.injEq, and_true] at h
    obtain ⟨k, rfl, _⟩ := h
    exact ⟨k, rfl⟩
theorem has3 {n : Nat} {v : V} (h : Has Tryd.prog n 3 [v]) : ∃ k, v = .int .i64 k := by
  cases n with
  | zero => exact h.elim
  | succ n =>
    simp only [Has, Tryd.underlying3, List.cons.injEq, and_true] at h
    obtain ⟨k, rfl, _⟩ := h
    exact ⟨k, rfl⟩
theorem has9 {n : Nat} {v : V} (h : Has Tryd.prog n 9 [v]) : ∃ s : Str, v = .str s := by
  cases n with
  | zero => exact h.elim
  | succ n =>
    simp only [Has, Tryd.underlying9, List.cons.injEq, and_true] at h
    obtain ⟨k, rfl, _⟩ := h
    exact ⟨k, rfl⟩
theorem four {l : List V} (h : l.length = 4) : ∃ a b c d, l = [a, b, c, d] := by
  rcases l with _ | ⟨a, _ | ⟨b, _ | ⟨c, _ | ⟨d, _ | ⟨x, l⟩⟩⟩⟩⟩ <;> simp at h
  exact ⟨a, b, c, d, rfl⟩
theorem tok_cells {n : Nat} {a b c d : V} (h : Has Tryd.prog n 39 [a, b, c, d]) : ∃ r : Tok, [a, b, c, d] = (encK r).cells := by
  cases n with
  | zero => exact h.elim
  | succ n =>
    simp only [Has, Tryd.underlying39] at h
    obtain ⟨_, hf⟩ := h
    have f1 := hf _ (List.mem_cons_self ..)
    have f2 := hf _ (List.mem_cons_of_mem _ (List.mem_cons_self ..))
    have f3 := hf _ (List.mem_cons_of_mem _ (List.mem_cons_of_mem _ (List.mem_cons_self ..)))
    have f4 := hf _ (List.mem_cons_of_mem _ (List.mem_cons_of_mem _ (List.mem_cons_of_mem _ (List.mem_cons_self ..))))
    simp only [c2, c3, c9, List.drop_zero, List.drop_succ_cons, List.take_succ_cons, List.take_zero] at f1 f2 f3 f4
    obtain ⟨n1, rfl⟩ := has3 f1
    obtain ⟨n2, rfl⟩ := has9 f2
    obtain ⟨n3, rfl⟩ := has2 f3
    obtain ⟨n4, rfl⟩ := has3 f4
    exact ⟨⟨n1, n2, n3, n4⟩, rfl⟩
theorem mk39 (r : Tok) : mkV Tryd.prog 39 (encK r).cells = encK r := by unfold mkV; rw [Tryd.underlying39]; rfl
theorem tok_rows (n : Nat) : ∀ es : List V, (∀ el ∈ es, ∃ cs, el = mkV Tryd.prog 39 cs ∧ cs.length = Tryd.prog.cellsOf 39 ∧ Has Tryd.prog n 39 cs) → ∃ l : List Tok, es = l.map encK := by
  intro es
  induction es with
  | nil => intro _; exact ⟨[], rfl⟩
  | cons el es ih =>
    intro hes
    obtain ⟨l, hl⟩ := ih fun x hx => hes x (List.mem_cons_of_mem _ hx)
    obtain ⟨cs, he, hc, hh⟩ := hes el (List.mem_cons_self ..)
    rw [c39] at hc
    obtain ⟨a, b, c, d, h4⟩ := four hc
    rw [h4] at hh he
    obtain ⟨r, hr⟩ := tok_cells hh
    rw [hr, mk39] at he
    exact ⟨r :: l, by rw [he, hl]; rfl⟩
theorem tok_of (n : Nat) (vs : List V) (h : Has Tryd.prog n 23 vs) : ∃ l : List Tok, vs = [.sl (l.map encK) none] := by
  cases n with
  | zero => exact h.elim
  | succ n =>
    simp only [Has, Tryd.underlying23] at h
    obtain ⟨es, he, _, hes⟩ := h
    obtain ⟨l, hl⟩ := tok_rows n es hes
    exact ⟨l, by rw [he, hl]⟩
theorem flat23 : ∀ n, flatT Tryd.prog n 23 = true
  | 0 => by kernel_rfl
  | 1 => by kernel_rfl
  | 2 => by kernel_rfl
  | n + 3 => by
    have h3 : flatT Tryd.prog (n + 1) 3 = true := by simp only [flatT, Tryd.underlying3]
    have h2 : flatT Tryd.prog (n + 1) 2 = true := by simp only [flatT, Tryd.underlying2]
    have h9 : flatT Tryd.prog (n + 1) 9 = true := by simp only [flatT, Tryd.underlying9]
    rw [flatT, Tryd.underlying23]
    simp only [Tryd.underlying39, Bool.and_true]
    rw [flatT, Tryd.underlying39]
    simp only [List.all_cons, List.all_nil, h2, h3, h9, Bool.true_and, Bool.and_true]
    simp only [tiled, c2, c3, c9, c39, Nat.zero_add, Nat.reduceAdd, if_true]
    first | rfl | decide | (simp; done)
end Go.Proofs.YtajdahnfnodoeaaDoor
