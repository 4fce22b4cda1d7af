/-
  Types and processes: what simp must know of them when it reckons regions.
-/
import Derived.Test.YtmjngcfigfkafaaDoorDBund
import Derived.Test.YtmjngcfigfkafaaDoorDS
set_option linter.all false
namespace Go.Duo
open Go
theorem encT_pureB (t : Ty) : (encT t).cells.all pureB = true := by
  obtain ⟨k, p, n, s, l, ks⟩ := t
  rw [encT_mk, c_agg]; rfl
theorem encP_pureB (p : Pr) : (encP p).cells.all pureB = true := by
  obtain ⟨k, c, v, l, a, t, ks⟩ := p
  rw [encP_mk, c_agg]
  simp [pureB, encT_pureB]
theorem encT_bareL (t : Ty) : V.bare.bareL (encT t).cells = (encT t).cells := by
  obtain ⟨k, p, n, s, l, ks⟩ := t
  rw [encT_mk, c_agg]; rfl
theorem encP_at (l : List Pr) (i : Nat) (h : i < (l.map encP).length) : (l.map encP)[i] = encP (l[i]'(by simpa using h)) := List.getElem_map ..
theorem encT_at (l : List Ty) (i : Nat) (h : i < (l.map encT).length) : (l.map encT)[i] = encT (l[i]'(by simpa using h)) := List.getElem_map ..
attribute [go_sem] PB encT_pureB encP_pureB encT_bare encP_bare encT_bareL encP_at encT_at
end Go.Duo
