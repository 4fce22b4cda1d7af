/-
  The fixed threads of the drawn laws' first test, reckoned.
-/
import Derived.Test.YtmjngcfigfkafaaDoorDRedex
set_option linter.all false
namespace Go.Duo
open Go

def thA : List Th := [⟨0, true, 0, 0⟩, ⟨0, false, 1, 0⟩, ⟨3, false, 1, 0⟩, ⟨3, true, 1, 0⟩]
def prA : List Pr := [.mk 2 [48, 43] [] [] [⟨2, [], 1⟩] .z [stopL], .mk 3 [48, 45] [120] [] [] .z [stopL], .mk 3 [51, 45] [120] [] [] .z [stopL], .mk 3 [51, 43] [120] [] [] .z [stopL]]
theorem n0p : nameL 0 true = [48, 43] := by simp [nameL, Lib.itoa, Lib.decDigits]
theorem n0m : nameL 0 false = [48, 45] := by simp [nameL, Lib.itoa, Lib.decDigits]
theorem n3p : nameL 3 true = [51, 43] := by simp [nameL, Lib.itoa, Lib.decDigits]
theorem n3m : nameL 3 false = [51, 45] := by simp [nameL, Lib.itoa, Lib.decDigits]
theorem ep0p : epL [48, 43] = some (0, true) := epL_some.2 ⟨by decide, n0p.symm⟩
theorem ep0m : epL [48, 45] = some (0, false) := epL_some.2 ⟨by decide, n0m.symm⟩
theorem ep3p : epL [51, 43] = some (3, true) := epL_some.2 ⟨by decide, n3p.symm⟩
theorem ep3m : epL [51, 45] = some (3, false) := epL_some.2 ⟨by decide, n3m.symm⟩
theorem thA_pr : thA.map threadL = prA := by
  have h (t : Th) (c : Str) (k : t.ch.toNat ≠ 9) (hc : nameL t.ch.toNat t.p = c) : chanL t = c := by rw [chanL_n (by omega), hc]
  have h0 := h ⟨0, true, 0, 0⟩ _ (by decide) n0p
  have h1 := h ⟨0, false, 1, 0⟩ _ (by decide) n0m
  have h2 := h ⟨3, false, 1, 0⟩ _ (by decide) n3m
  have h3 := h ⟨3, true, 1, 0⟩ _ (by decide) n3p
  have k0 : threadL ⟨0, true, 0, 0⟩ = .mk 2 [48, 43] [] [] [⟨2, [], 1⟩] .z [stopL] := by rw [threadL, if_pos (by decide), h0]
  have k1 : threadL ⟨0, false, 1, 0⟩ = .mk 3 [48, 45] [120] [] [] .z [stopL] := by rw [threadL, if_neg (by decide), if_pos (by decide), h1]
  have k2 : threadL ⟨3, false, 1, 0⟩ = .mk 3 [51, 45] [120] [] [] .z [stopL] := by rw [threadL, if_neg (by decide), if_pos (by decide), h2]
  have k3 : threadL ⟨3, true, 1, 0⟩ = .mk 3 [51, 43] [120] [] [] .z [stopL] := by rw [threadL, if_neg (by decide), if_pos (by decide), h3]
  show [_, _, _, _] = _
  rw [k0, k1, k2, k3]; rfl
theorem listA : listL prA = [⟨0, 1, 0, true⟩] := by
  simp [listL, pairsL, prA, List.range, List.range.loop, rxAt, meetL, fitL, Pr.chan, Pr.kind, Pr.labels, ep0p, ep0m, ep3p, ep3m, n0p, n0m, n3p, n3m, epK, epP]
theorem clashA : clashL prA = [(2, 3)] := by
  simp [clashL, pairsL, prA, List.range, List.range.loop, clAt, meetL, fitL, Pr.chan, Pr.kind, Pr.labels, ep0p, ep0m, ep3p, ep3m, n0p, n0m, n3p, n3m, epK, epP]
theorem waitA : waitL prA = [2, 3] := by
  rw [waitL, listA]; decide
theorem hasA : ∀ x ∈ prA, hasL x := by
  rw [← thA_pr]; intro x hx; obtain ⟨t, _, rfl⟩ := List.mem_map.1 hx; exact threadL_hasL t
theorem chanL_len (t : Th) : (chanL t).length ≤ 2147483647 := by
  unfold chanL
  split
  · decide
  · have h := Lib.itoa_length_le t.ch.toNat (by omega) (by have := UInt8.toNat_lt t.ch; omega)
    rw [nameL, List.length_append]; simp only [List.length_cons, List.length_nil]; omega
theorem threadL_chan (t : Th) : (threadL t).chan = chanL t := by
  unfold threadL; split
  · rfl
  · split
    · rfl
    · split <;> rfl
theorem chanT (l : List Th) : ∀ x ∈ l.map threadL, x.chan.length ≤ 2147483647 := by
  intro x hx; obtain ⟨t, _, rfl⟩ := List.mem_map.1 hx; rw [threadL_chan]; exact chanL_len t
theorem hasT (l : List Th) : ∀ x ∈ l.map threadL, hasL x := by
  intro x hx; obtain ⟨t, _, rfl⟩ := List.mem_map.1 hx; exact threadL_hasL t
theorem chanA : ∀ x ∈ prA, x.chan.length ≤ 2147483647 := by rw [← thA_pr]; exact chanT thA
theorem pickA : pickR [⟨0, 1, 0, true⟩] (-5) = ⟨0, 1, 0, true⟩ := rfl
end Go.Duo
