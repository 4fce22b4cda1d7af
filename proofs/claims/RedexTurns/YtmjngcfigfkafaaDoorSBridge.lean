/-
  From a row's conditions to a call of our logic, and back.
-/
import Derived.Test.YtmjngcfigfkafaaDoorRows
import Derived.Test.YtmjngcfigfkafaaDoorSLib
import Derived.Test.YtmjngcfigfkafaaDoorDTrod
import Derived.Test.YtmjngcfigfkafaaDoorDRedex
import Derived.WalkKit
import Derived.ProofKit
import Derived.OpenShut
import Derived.ShutString
import Derived.ChangeOld
import Derived.Below
import Derived.Carry
import Derived.SizedLaws
import Derived.ChangeSame
import Derived.ChangeVars
import Derived.JoinedOf
import Derived.LaidLaws
import Derived.Stop.LaidErr
import Derived.Lib.LaidTab
import Derived.RowKit
set_option linter.all false
namespace Go.Proofs.YtmjngcfigfkafaaDoor
open Go Go.Duo Go.ChangeShapes Go.WideShapes Go.ChangeAt Go.RowKit

theorem own : ownKnob Tryd.prog.godebug = none := by kernel_rfl
theorem laidOut : laidOutB Tryd.prog = true := by kernel_rfl
def laidList : List (String × DataW Unit) := Rows.redexPicksRow.laid
theorem g0 : Tryd.prog.globalNamed "strconv.ErrSyntax" = some 0 := by kernel_rfl
theorem g1 : Tryd.prog.globalNamed "strconv.ErrRange" = some 1 := by kernel_rfl
theorem g2 : Tryd.prog.globalNamed "internal/strconv.uint64pow10" = some 2 := by kernel_rfl
theorem t0 : (Tryd.prog.globals[0]?).map (·.type) = some 153 := by kernel_rfl
theorem t1 : (Tryd.prog.globals[1]?).map (·.type) = some 153 := by kernel_rfl
theorem t2 : (Tryd.prog.globals[2]?).map (·.type) = some 202 := by kernel_rfl
theorem star : "*" ++ "errors.errorString" = "*errors.errorString" := by decide
theorem row207 (u : TypeId) (h : Tryd.prog.typeName? 3 u = some "*errors.errorString") : u = 207 :=
  typeName_ptr_named (nm := "errors.errorString") (by rw [star]; kernel_rfl) (by kernel_rfl) (by decide) u (by rw [star]; exact h)

/-! ### The start -/
def startS (w : World) : S := { K := fun b _ => b < w.heap.size, g := [], st := [] }
theorem whole_of {w : World} {n : String} {g : Nat} {cs : Array Value} (hg : Tryd.prog.globalNamed n = some g) (h : w.var? Tryd.prog n = some cs) : Whole w g cs.size := by
  unfold World.var? at h
  rw [hg] at h
  simp only [Option.bind_some] at h
  split at h
  · rename_i c t fr hb
    cases h
    exact ⟨_, _, _, hb, rfl⟩
  · cases h
theorem glob_err {w : World} {n : String} {g : Nat} {text : List UInt8} {r : List (String × DataW Unit)} (hg : Tryd.prog.globalNamed n = some g) (ht : (Tryd.prog.globals[g]?).map (·.type) = some 153)
    (h : laidMet Tryd.prog ((n, .iface "*errors.errorString" (.ptr (.agg [.lit (.string text)]))) :: r) w) :
    PR w (startS w).K (.dptr [.iface 207 (.dptr [.str text])]) (.pointer (some ⟨g, 0, none⟩)) ∧ (startS w).K g 0 ∧ Whole w g 1 := by
  obtain ⟨a, s, hv, hc, hs, _⟩ := laid_sentinel h hg ht Tryd.underlying153 row207 Tryd.underlying207 Tryd.underlying209 rfl rfl Tryd.underlying9 (by kernel_rfl) (by kernel_rfl)
  have hw := whole_of hg hv
  have hcell := World.var?_cell hg hv 0
  obtain ⟨hsp, hb⟩ := cell_spot hc
  have ha : a = ⟨a.block, a.off, none⟩ := by cases a; simp only at hsp; rw [hsp]
  have hstr : PR w (startS w).K (.str text) (.string s) := by
    have := PR.str (w := w) (K := (startS w).K) text
    rw [← hs] at this ⊢
    simpa using this
  refine ⟨.dptr _ g 0 (fun _ => .iface 207 (.pointer (some a))) (fun j c hj => ?_) (fun j c hj => ?_), hw.lt, hw⟩
  · cases j with
    | zero => exact ⟨by simpa using hcell, hw.lt⟩
    | succ j => simp at hj
  · cases j with
    | zero =>
      simp at hj; subst hj
      refine .iface _ _ _ ?_
      rw [ha]
      refine .dptr _ a.block a.off (fun _ => .string s) (fun j c hj => ?_) (fun j c hj => ?_)
      · cases j with
        | zero => exact ⟨by rw [Nat.add_zero, ← ha]; exact hc, hb⟩
        | succ j => simp at hj
      · cases j with
        | zero => simp at hj; subst hj; exact hstr
        | succ j => simp at hj
    | succ j => simp at hj
theorem glob_pow {w : World} (h : Lib.TabIs Tryd.prog w "internal/strconv.uint64pow10" .u64 Lib.pow10Tab) :
    PR w (startS w).K (.dptr (Lib.pow10Tab.map (.int .u64))) (.pointer (some ⟨2, 0, none⟩)) ∧ (startS w).K 2 0 ∧ Whole w 2 (Lib.pow10Tab.map (V.int .u64)).length := by
  have hw := whole_of g2 h
  refine ⟨.dptr _ 2 0 (fun j => .int .u64 (Lib.pow10Tab.getD j 0)) (fun j c hj => ?_) (fun j c hj => ?_), hw.lt, ?_⟩
  · have hj' : j < Lib.pow10Tab.length := by have := (List.getElem?_eq_some_iff.1 hj).1; simpa using this
    exact ⟨by rw [Nat.zero_add]; exact h.cell g2 j hj', hw.lt⟩
  · have hj' : j < Lib.pow10Tab.length := by have := (List.getElem?_eq_some_iff.1 hj).1; simpa using this
    rw [List.getElem?_map, List.getElem?_eq_getElem hj'] at hj
    simp at hj
    subst hj
    rw [List.getD_eq_getElem?_getD, List.getElem?_eq_getElem hj']
    exact .int _ _
  · have := hw; simpa using this
theorem start {w : World} (h : laidMet Tryd.prog laidList w) : Sim Tryd.prog Tryd.gl w (startS w) where
  len := rfl
  obj := fun i o g ho => by simp [startS] at ho
  inj := fun i j b ⟨o, _, ho, _⟩ => by simp [startS] at ho
  kout := fun i b o ob ⟨o', _, ho, _⟩ => by simp [startS] at ho
  kin := fun b o h => h
  fgn := fun b ⟨i, xs, k, l, go, F, J, Jx, ho, _⟩ => by simp [startS] at ho
  glob := fun g => by
    have h3 : laidMet Tryd.prog _ w := h.tail.tail.tail
    match g with
    | 0 => exact .inr (glob_err g0 t0 h3.tail)
    | 1 => exact .inr (glob_err g1 t1 h3)
    | 2 => exact .inr (glob_pow (Lib.tabIs_of_head g2 t2 Tryd.underlying202 Tryd.underlying176 (by kernel_rfl) (by kernel_rfl) h.tail.tail))
    | n + 3 => exact .inl rfl
theorem below_start {w w' : World} {s' : S} (h : Evolve w (startS w) w' s') : Below w.heap.size w w' :=
  ⟨h.os, h.tape, h.output, h.size, fun k hk => h.block k hk (fun ⟨i, o, _, ho, _⟩ => by simp [startS] at ho) (fun ⟨i, xs, k, l, go, F, J, Jx, ho, _⟩ => by simp [startS] at ho)⟩
/-- A law that hands back true, as the kit's own contract. -/
theorem run_law {k : FuncId} {args : List V} {xs : List Value} {w : World} (h : Duo.Call Tryd.prog Tryd.gl k args [] (fun v st' => v = .bool true ∧ st' = [])) (hL : laidMet Tryd.prog laidList w) (hx : args.length = xs.length ∧ ∀ (i : Nat) (c : V) (x : Value), args[i]? = some c → xs[i]? = some x → PR w (startS w).K c x) :
    Calls Tryd.prog k xs.toArray w fun e w' => e = .returned (.bool true) ∧ Below w.heap.size w w' := by
  have h1 := callsIn_wide.1 (h w (startS w) xs rfl (start hL) ⟨hx.1, fun i c x hc hx' => .pure _ _ (hx.2 i c x hc hx')⟩)
  refine h1.mono ?_
  rintro e w' ⟨v, x, s', rfl, _, hE, hr, rfl, _⟩
  exact ⟨by rw [hr.bool_inv], below_start hE⟩
theorem c68 : Tryd.prog.cellsOf 68 = 4 := by kernel_rfl
theorem c3 : Tryd.prog.cellsOf 3 = 1 := by kernel_rfl
theorem c4 : Tryd.prog.cellsOf 4 = 1 := by kernel_rfl
theorem has3 {n : Nat} {v : V} (h : Has Tryd.prog n 3 [v]) : ∃ k, v = .int .i64 k := by
  cases n with
  | zero => exact h.elim
  | succ n =>
    simp only [Has, Tryd.underlying3, List.cons.injEq, and_true] at h
    obtain ⟨k, rfl, _⟩ := h
    exact ⟨k, rfl⟩
theorem has4 {n : Nat} {v : V} (h : Has Tryd.prog n 4 [v]) : ∃ b, v = .bool b := by
  cases n with
  | zero => exact h.elim
  | succ n =>
    simp only [Has, Tryd.underlying4, List.cons.injEq, and_true] at h
    exact h
theorem rx_cells {n : Nat} {a b c d : V} (h : Has Tryd.prog n 68 [a, b, c, d]) : ∃ r : Rx, [a, b, c, d] = (encR r).cells := by
  cases n with
  | zero => exact h.elim
  | succ n =>
    simp only [Has, Tryd.underlying68] at h
    obtain ⟨_, hf⟩ := h
    have f1 := hf _ (List.mem_cons_self ..)
    have f2 := hf _ (List.mem_cons_of_mem _ (List.mem_cons_self ..))
    have f3 := hf _ (List.mem_cons_of_mem _ (List.mem_cons_of_mem _ (List.mem_cons_self ..)))
    have f4 := hf _ (List.mem_cons_of_mem _ (List.mem_cons_of_mem _ (List.mem_cons_of_mem _ (List.mem_cons_self ..))))
    simp only [c3, c4, List.drop_zero, List.drop_succ_cons, List.take_succ_cons, List.take_zero] at f1 f2 f3 f4
    obtain ⟨n1, rfl⟩ := has3 f1
    obtain ⟨n2, rfl⟩ := has3 f2
    obtain ⟨n3, rfl⟩ := has3 f3
    obtain ⟨b4, rfl⟩ := has4 f4
    exact ⟨⟨n1, n2, n3, b4⟩, rfl⟩
theorem four {l : List V} (h : l.length = 4) : ∃ a b c d, l = [a, b, c, d] := by
  rcases l with _ | ⟨a, _ | ⟨b, _ | ⟨c, _ | ⟨d, _ | ⟨x, l⟩⟩⟩⟩⟩ <;> simp at h
  exact ⟨a, b, c, d, rfl⟩
theorem mk68 (r : Rx) : mkV Tryd.prog 68 (encR r).cells = encR r := by unfold mkV; rw [Tryd.underlying68]; rfl
theorem rx_rows (n : Nat) : ∀ es : List V, (∀ el ∈ es, ∃ cs, el = mkV Tryd.prog 68 cs ∧ cs.length = Tryd.prog.cellsOf 68 ∧ Has Tryd.prog n 68 cs) → ∃ l : List Rx, es = l.map encR := by
  intro es
  induction es with
  | nil => intro _; exact ⟨[], rfl⟩
  | cons el es ih =>
    intro hes
    obtain ⟨l, hl⟩ := ih fun x hx => hes x (List.mem_cons_of_mem _ hx)
    obtain ⟨cs, he, hc, hh⟩ := hes el (List.mem_cons_self ..)
    rw [c68] at hc
    obtain ⟨a, b, c, d, h4⟩ := four hc
    rw [h4] at hh he
    obtain ⟨r, hr⟩ := rx_cells hh
    rw [hr, mk68] at he
    exact ⟨r :: l, by rw [he, hl]; rfl⟩
theorem rx_of (n : Nat) (vs : List V) (h : Has Tryd.prog n 47 vs) : ∃ l : List Rx, vs = [.sl (l.map encR) none] := by
  cases n with
  | zero => exact h.elim
  | succ n =>
    simp only [Has, Tryd.underlying47] at h
    obtain ⟨es, he, _, hes⟩ := h
    obtain ⟨l, hl⟩ := rx_rows n es hes
    exact ⟨l, by rw [he, hl]⟩
theorem flat47 : ∀ n, flatT Tryd.prog n 47 = true
  | 0 => by kernel_rfl
  | 1 => by kernel_rfl
  | 2 => by kernel_rfl
  | n + 3 => by
    have h3 : flatT Tryd.prog (n + 1) 3 = true := by simp only [flatT, Tryd.underlying3]
    have h4 : flatT Tryd.prog (n + 1) 4 = true := by simp only [flatT, Tryd.underlying4]
    have ht : ∀ fs : List Field, tiled Tryd.prog 0 fs = tiled Tryd.prog 0 fs := fun _ => rfl
    rw [flatT, Tryd.underlying47]
    simp only [Tryd.underlying68, Bool.and_true]
    rw [flatT, Tryd.underlying68]
    simp only [List.all_cons, List.all_nil, h3, h4, Bool.true_and, Bool.and_true]
    simp only [tiled, c3, c4, c68, Nat.zero_add, Nat.reduceAdd, if_true]
    first | rfl | decide | (simp; done)

/-! ### One start that fits -/
noncomputable def low : Nat := (World.holding Tryd.prog default ⟨#[], #[], []⟩).heap.size
abbrev synS : ByteArray := { data := #[105, 110, 118, 97, 108, 105, 100, 32, 115, 121, 110, 116, 97, 120] }
abbrev rngS : ByteArray := { data := #[118, 97, 108, 117, 101, 32, 111, 117, 116, 32, 111, 102, 32, 114, 97, 110, 103, 101] }
def litCells : DataW Unit → Array Value
  | .agg l => (l.map fun d => match d with | .lit (.int k n) => Value.int k n | _ => .nilIface).toArray
  | _ => #[]
noncomputable def laidWorld (os : Os) : World :=
  let w0 := World.holding Tryd.prog os ⟨#[.cells #[.string synS] 209, .cells #[.string rngS] 209], #[], []⟩
  { w0 with heap := ((((w0.heap.modify 0 fun
      | .cells _ t frozen => .cells #[.iface 207 (.pointer (some ⟨low, 0, none⟩))] t frozen
      | o => o).modify 1 fun
      | .cells _ t frozen => .cells #[.iface 207 (.pointer (some ⟨low + 1, 0, none⟩))] t frozen
      | o => o).modify 2 fun
      | .cells _ t frozen => .cells (litCells Rows.laid_internal_strconv_uint64pow10) t frozen
      | o => o).modify 3 fun
      | .cells _ t frozen => .cells (litCells Rows.laid_math_bits_deBruijn32tab) t frozen
      | o => o).modify 4 fun
      | .cells _ t frozen => .cells (litCells Rows.laid_math_bits_deBruijn64tab) t frozen
      | o => o }
theorem laidWorld_met (os : Os) (args : Array Value) : laidMet Tryd.prog laidList ((laidWorld os).forCall (fun _ _ => 0) ⟨#[], args, []⟩).memory :=
  laidMet_of_run' 8 (by kernel_rfl) (by kernel_rfl)
end Go.Proofs.YtmjngcfigfkafaaDoor
