/-
  A part of the proof.
-/
import Derived.Test.YtdlcnihacaboiaaGreatDoorRows
import Derived.Test.YtdlcnihacaboiaaGreatDoorSubLib
import Derived.Test.YtdlcnihacaboiaaGreatDoorGN
import Derived.Test.YtdlcnihacaboiaaGreatDoorGM
import Derived.WalkKit
import Derived.ProofKit
import Derived.OpenShut
import Derived.ShutString
import Derived.ChangeOld
import Derived.Below
import Derived.Carry
import Derived.SizedLaws
import Derived.ChangeSame
import Derived.ChangeVars
import Derived.JoinedOf
import Derived.LaidLaws
import Derived.Stop.LaidErr
import Derived.Lib.LaidTab
import Derived.RowKit
set_option linter.all false
set_option maxRecDepth 100000
namespace Go.Proofs.YtdlcnihacaboiaaGreatDoor
open Go Go.Duo Go.ChangeShapes Go.WideShapes Go.ChangeAt Go.RowKit
theorem own : ownKnob Tryz.prog.godebug = none := by kernel_rfl
theorem laidOut : laidOutB Tryz.prog = true := by kernel_rfl
theorem g3 : Tryz.prog.globalNamed "internal/strconv.uint64pow10" = some 3 := by kernel_rfl
theorem t3 : (Tryz.prog.globals[3]?).map (·.type) = some 300 := by kernel_rfl
def startS (w : World) : S := { K := fun b _ => b < w.heap.size, g := [], st := [] }
theorem whole_of {w : World} {n : String} {g : Nat} {cs : Array Value} (hg : Tryz.prog.globalNamed n = some g) (h : w.var? Tryz.prog n = some cs) : Whole w g cs.size := by
  unfold World.var? at h
  rw [hg] at h
  simp only [Option.bind_some] at h
  split at h
  · rename_i c t fr hb
    cases h
    exact ⟨_, _, _, hb, rfl⟩
  · cases h
theorem glob_pow {w : World} (h : Lib.TabIs Tryz.prog w "internal/strconv.uint64pow10" .u64 Lib.pow10Tab) :
    PR w (startS w).K (.dptr (Lib.pow10Tab.map (.int .u64))) (.pointer (some ⟨3, 0, none⟩)) ∧ (startS w).K 3 0 ∧ Whole w 3 (Lib.pow10Tab.map (V.int .u64)).length := by
  have hw := whole_of g3 h
  refine ⟨.dptr _ 3 0 (fun j => .int .u64 (Lib.pow10Tab.getD j 0)) (fun j c hj => ?_) (fun j c hj => ?_), hw.lt, ?_⟩
  · have hj' : j < Lib.pow10Tab.length := by have := (List.getElem?_eq_some_iff.1 hj).1; simpa using this
    exact ⟨by rw [Nat.zero_add]; exact h.cell g3 j hj', hw.lt⟩
  · have hj' : j < Lib.pow10Tab.length := by have := (List.getElem?_eq_some_iff.1 hj).1; simpa using this
    rw [List.getElem?_map, List.getElem?_eq_getElem hj'] at hj
    simp at hj
    subst hj
    rw [List.getD_eq_getElem?_getD, List.getElem?_eq_getElem hj']
    exact .int _ _
  · have := hw; simpa using this
theorem below_start {w w' : World} {s' : S} (h : Evolve w (startS w) w' s') : Below w.heap.size w w' :=
  ⟨h.os, h.tape, h.output, h.size, fun k hk => h.block k hk (fun ⟨i, o, _, ho, _⟩ => by simp [startS] at ho) (fun ⟨i, xs, k, l, go, F, J, Jx, ho, _⟩ => by simp [startS] at ho)⟩
def litCells : DataW Unit → Array Value
  | .agg l => (l.map fun d => match d with | .lit (.int k n) => Value.int k n | _ => .nilIface).toArray
  | _ => #[]
end Go.Proofs.YtdlcnihacaboiaaGreatDoor
