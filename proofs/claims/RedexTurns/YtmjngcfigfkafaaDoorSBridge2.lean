/-
  The rows of threads that a law is handed.
-/
import Derived.Test.YtmjngcfigfkafaaDoorSBridge
set_option linter.all false
namespace Go.Proofs.YtmjngcfigfkafaaDoor
open Go Go.Duo Go.ChangeShapes Go.WideShapes Go.ChangeAt Go.RowKit
theorem c5 : Tryd.prog.cellsOf 5 = 1 := by kernel_rfl
theorem c89 : Tryd.prog.cellsOf 89 = 4 := by kernel_rfl
theorem has5 {n : Nat} {v : V} (h : Has Tryd.prog n 5 [v]) : ∃ k : UInt8, v = .int .u8 k.toNat := by
  cases n with
  | zero => exact h.elim
  | succ n =>
    simp only [Has, Tryd.underlying5, List.cons.injEq, and_true] at h
    obtain ⟨k, rfl, hk⟩ := h
    have hb : 0 ≤ k ∧ k ≤ 255 := by
      simp only [Lit.wf, Bool.and_eq_true, decide_eq_true_eq] at hk
      exact ⟨hk.1, hk.2⟩
    exact ⟨UInt8.ofNat k.toNat, by rw [UInt8.toNat_ofNat']; congr 1; omega⟩
theorem th_cells {n : Nat} {a b c d : V} (h : Has Tryd.prog n 89 [a, b, c, d]) : ∃ r : Th, [a, b, c, d] = (encTh r).cells := by
  cases n with
  | zero => exact h.elim
  | succ n =>
    simp only [Has, Tryd.underlying89] at h
    obtain ⟨_, hf⟩ := h
    have f1 := hf _ (List.mem_cons_self ..)
    have f2 := hf _ (List.mem_cons_of_mem _ (List.mem_cons_self ..))
    have f3 := hf _ (List.mem_cons_of_mem _ (List.mem_cons_of_mem _ (List.mem_cons_self ..)))
    have f4 := hf _ (List.mem_cons_of_mem _ (List.mem_cons_of_mem _ (List.mem_cons_of_mem _ (List.mem_cons_self ..))))
    simp only [c5, c4, List.drop_zero, List.drop_succ_cons, List.take_succ_cons, List.take_zero] at f1 f2 f3 f4
    obtain ⟨n1, rfl⟩ := has5 f1
    obtain ⟨n2, rfl⟩ := has4 f2
    obtain ⟨n3, rfl⟩ := has5 f3
    obtain ⟨b4, rfl⟩ := has5 f4
    exact ⟨⟨n1, n2, n3, b4⟩, rfl⟩
theorem mk89 (r : Th) : mkV Tryd.prog 89 (encTh r).cells = encTh r := by unfold mkV; rw [Tryd.underlying89]; rfl
theorem th_rows (n : Nat) : ∀ es : List V, (∀ el ∈ es, ∃ cs, el = mkV Tryd.prog 89 cs ∧ cs.length = Tryd.prog.cellsOf 89 ∧ Has Tryd.prog n 89 cs) → ∃ l : List Th, es = l.map encTh := by
  intro es
  induction es with
  | nil => intro _; exact ⟨[], rfl⟩
  | cons el es ih =>
    intro hes
    obtain ⟨l, hl⟩ := ih fun x hx => hes x (List.mem_cons_of_mem _ hx)
    obtain ⟨cs, he, hc, hh⟩ := hes el (List.mem_cons_self ..)
    rw [c89] at hc
    obtain ⟨a, b, c, d, h4⟩ := four hc
    rw [h4] at hh he
    obtain ⟨r, hr⟩ := th_cells hh
    rw [hr, mk89] at he
    exact ⟨r :: l, by rw [he, hl]; rfl⟩
theorem th_of (n : Nat) (vs : List V) (h : Has Tryd.prog n 42 vs) : ∃ l : List Th, vs = [.sl (l.map encTh) none] := by
  cases n with
  | zero => exact h.elim
  | succ n =>
    simp only [Has, Tryd.underlying42] at h
    obtain ⟨es, he, _, hes⟩ := h
    obtain ⟨l, hl⟩ := th_rows n es hes
    exact ⟨l, by rw [he, hl]⟩
theorem flat42 : ∀ n, flatT Tryd.prog n 42 = true
  | 0 => by kernel_rfl
  | 1 => by kernel_rfl
  | 2 => by kernel_rfl
  | n + 3 => by
    have h3 : flatT Tryd.prog (n + 1) 5 = true := by simp only [flatT, Tryd.underlying5]
    have h4 : flatT Tryd.prog (n + 1) 4 = true := by simp only [flatT, Tryd.underlying4]
    rw [flatT, Tryd.underlying42]
    simp only [Tryd.underlying89, Bool.and_true]
    rw [flatT, Tryd.underlying89]
    simp only [List.all_cons, List.all_nil, h3, h4, Bool.true_and, Bool.and_true]
    simp only [tiled, c5, c4, c89, Nat.zero_add, Nat.reduceAdd, if_true]
    first | rfl | decide | (simp; done)
end Go.Proofs.YtmjngcfigfkafaaDoor
