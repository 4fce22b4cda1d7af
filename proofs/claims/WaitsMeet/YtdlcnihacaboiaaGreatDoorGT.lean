/-
  A part of the proof.
-/
import Derived.Test.YtdlcnihacaboiaaGreatDoorGP
set_option linter.all false
namespace Go.Duo
open Go
theorem chan_free {p : Pr} (h : preK p.kind = true) : p.chan ∈ freeS p := by
  unfold freeS
  rw [dedS_mem, usesP_eq, List.mem_append]
  refine .inl ?_
  unfold freeB outP
  simp [h]
theorem dual_ep {s : Str} (h : epO s = true) : epO (dualN s) = true ∧ dualN (dualN s) = s := by
  unfold epO at h
  cases hs : epL s with
  | none => rw [hs] at h; cases h
  | some kp =>
    obtain ⟨k, p⟩ := kp
    obtain ⟨h1, h2⟩ := epL_some.1 hs
    have e1 : dualN s = nameL k (!p) := by unfold dualN epO epK epP; rw [hs]; rfl
    have e2 : epL (nameL k (!p)) = some (k, !p) := epL_some.2 ⟨h1, rfl⟩
    rw [e1]
    refine ⟨by unfold epO; rw [e2]; rfl, ?_⟩
    unfold dualN epO epK epP
    rw [e2]
    simp [h2]
theorem meet_waits {l : List Pr} (hp : ∀ p ∈ l, preK p.kind = true) {i k : Nat} (hi : i < l.length) (hk : k < l.length) (hne : i ≠ k) (h : meetL l[i] l[k] = true) : k ∈ forW l i ∧ i ∈ forW l k := by
  rw [meetL_eq, Bool.and_eq_true, decide_eq_true_eq] at h
  obtain ⟨h1, h2⟩ := h
  obtain ⟨h3, h4⟩ := dual_ep h1
  rw [h2] at h3 h4
  refine ⟨forW_mem.2 ⟨hk, ?_⟩, forW_mem.2 ⟨hi, ?_⟩⟩
  · rw [waitB_eq hi hk, if_neg (fun e => hne e.symm), h1, h2, Bool.true_and, decide_eq_true_eq]
    exact chan_free (hp _ (List.getElem_mem hk))
  · rw [waitB_eq hk hi, if_neg hne, h3, h4, Bool.true_and, decide_eq_true_eq]
    exact chan_free (hp _ (List.getElem_mem hi))
/-- The pairs that the law asks about. -/
def meL (l : List Pr) (n : Nat) : List (Int × Int) := clashL l ++ ((listL l).take n).map fun r => (r.o, r.i)
theorem meL_0 (l : List Pr) : meL l 0 = clashL l := by simp [meL]
theorem meL_step {l : List Pr} {n : Nat} (h : n < (listL l).length) : meL l (n + 1) = meL l n ++ [((listL l)[n].o, (listL l)[n].i)] := by
  unfold meL
  rw [take_at h, List.map_append, List.append_assoc]; rfl
structure okM (l : List Pr) (d : Int × Int) : Prop where
  p1 : 0 ≤ d.1
  p2 : 0 ≤ d.2
  q1 : d.1.toNat < l.length
  q2 : d.2.toNat < l.length
  w1 : d.2.toNat ∈ forW l d.1.toNat
  w2 : d.1.toNat ∈ forW l d.2.toNat
theorem okM_of {l : List Pr} (hp : ∀ p ∈ l, preK p.kind = true) {i k : Nat} (hi : i < l.length) (hk : k < l.length) (hne : i ≠ k) (h : meetL (l.getD i .z) (l.getD k .z) = true) : okM l ((i : Int), (k : Int)) := by
  rw [getD_ltI _ _ _ hi, getD_ltI _ _ _ hk] at h
  obtain ⟨h1, h2⟩ := meet_waits hp hi hk hne h
  exact ⟨Int.natCast_nonneg i, Int.natCast_nonneg k, hi, hk, h1, h2⟩
theorem meL_ok {l : List Pr} (hp : ∀ p ∈ l, preK p.kind = true) (n : Nat) : ∀ d ∈ meL l n, okM l d := fun d hd => by
  unfold meL at hd
  rcases List.mem_append.1 hd with hd | hd
  · obtain ⟨i, k, hi, hk, he⟩ := mem_pairsL.1 hd
    unfold clAt at he
    split at he
    · rename_i hh
      cases he
      exact okM_of hp hi hk (by omega) hh.2.1
    · cases he
  · obtain ⟨r, hr, rfl⟩ := List.mem_map.1 hd
    obtain ⟨i, k, hi, hk, he⟩ := mem_pairsL.1 (List.mem_of_mem_take hr)
    unfold rxAt at he
    split at he
    · rename_i hh
      cases he
      exact okM_of hp hi hk hh.1 hh.2.1
    · cases he
theorem meL_len (l : List Pr) (n : Nat) : (meL l n).length ≤ (clashL l).length + (listL l).length := by
  unfold meL
  rw [List.length_append, List.length_map, List.length_take]
  omega
end Go.Duo
