/-
  A part of the proof.
-/
import Derived.Test.YtmjngcfigfkafaaDoorRows
import Derived.Test.YtmjngcfigfkafaaDoorLib
import Derived.Test.YtmjngcfigfkafaaDoorDTrod
import Derived.Test.YtmjngcfigfkafaaDoorData
import Derived.WalkKit
import Derived.ProofKit
import Derived.OpenShut
import Derived.ShutString
import Derived.ChangeOld
import Derived.Below
import Derived.Carry
import Derived.SizedLaws
import Derived.ChangeSame
import Derived.ChangeVars
import Derived.JoinedOf
import Derived.LaidLaws
import Derived.Stop.LaidErr
import Derived.Lib.LaidTab
import Derived.RowKit
import Derived.Test.YtmjngcfigfkafaaDoorDat2
set_option linter.all false
namespace Go.Proofs.YtmjngcfigfkafaaDoor
open Go Go.Duo Go.ChangeShapes Go.WideShapes Go.ChangeAt Go.RowKit
theorem own : ownKnob Tryd.prog.godebug = none := by kernel_rfl
theorem laidOut : laidOutB Tryd.prog = true := by kernel_rfl
def laidList : List (String × DataW Unit) := Rows.redexPicksRow.laid
theorem g0 : Tryd.prog.globalNamed "strconv.ErrSyntax" = some 0 := by kernel_rfl
theorem g1 : Tryd.prog.globalNamed "strconv.ErrRange" = some 1 := by kernel_rfl
theorem g2 : Tryd.prog.globalNamed "internal/strconv.uint64pow10" = some 2 := by kernel_rfl
theorem t0 : (Tryd.prog.globals[0]?).map (·.type) = some 153 := by kernel_rfl
theorem t1 : (Tryd.prog.globals[1]?).map (·.type) = some 153 := by kernel_rfl
theorem t2 : (Tryd.prog.globals[2]?).map (·.type) = some 202 := by kernel_rfl
theorem star : "*" ++ "errors.errorString" = "*errors.errorString" := by decide
theorem row207 (u : TypeId) (h : Tryd.prog.typeName? 3 u = some "*errors.errorString") : u = 207 :=
  typeName_ptr_named (nm := "errors.errorString") (by rw [star]; kernel_rfl) (by kernel_rfl) (by decide) u (by rw [star]; exact h)
def startS (w : World) : S := { K := fun b _ => b < w.heap.size, g := [], st := [] }
theorem whole_of {w : World} {n : String} {g : Nat} {cs : Array Value} (hg : Tryd.prog.globalNamed n = some g) (h : w.var? Tryd.prog n = some cs) : Whole w g cs.size := by
  unfold World.var? at h
  rw [hg] at h
  simp only [Option.bind_some] at h
  split at h
  · rename_i c t fr hb
    cases h
    exact ⟨_, _, _, hb, rfl⟩
  · cases h
theorem glob_err {w : World} {n : String} {g : Nat} {text : List UInt8} {r : List (String × DataW Unit)} (hg : Tryd.prog.globalNamed n = some g) (ht : (Tryd.prog.globals[g]?).map (·.type) = some 153)
    (h : laidMet Tryd.prog ((n, .iface "*errors.errorString" (.ptr (.agg [.lit (.string text)]))) :: r) w) :
    PR w (startS w).K (.dptr [.iface 207 (.dptr [.str text])]) (.pointer (some ⟨g, 0, none⟩)) ∧ (startS w).K g 0 ∧ Whole w g 1 := by
  obtain ⟨a, s, hv, hc, hs, _⟩ := laid_sentinel h hg ht Tryd.underlying153 row207 Tryd.underlying207 Tryd.underlying209 rfl rfl Tryd.underlying9 (by kernel_rfl) (by kernel_rfl)
  have hw := whole_of hg hv
  have hcell := World.var?_cell hg hv 0
  obtain ⟨hsp, hb⟩ := cell_spot hc
  have ha : a = ⟨a.block, a.off, none⟩ := by cases a; simp only at hsp; rw [hsp]
  have hstr : PR w (startS w).K (.str text) (.string s) := by
    have := PR.str (w := w) (K := (startS w).K) text
    rw [← hs] at this ⊢
    simpa using this
  refine ⟨.dptr _ g 0 (fun _ => .iface 207 (.pointer (some a))) (fun j c hj => ?_) (fun j c hj => ?_), hw.lt, hw⟩
  · cases j with
    | zero => exact ⟨by simpa using hcell, hw.lt⟩
    | succ j => simp at hj
  · cases j with
    | zero =>
      simp at hj; subst hj
      refine .iface _ _ _ ?_
      rw [ha]
      refine .dptr _ a.block a.off (fun _ => .string s) (fun j c hj => ?_) (fun j c hj => ?_)
      · cases j with
        | zero => exact ⟨by rw [Nat.add_zero, ← ha]; exact hc, hb⟩
        | succ j => simp at hj
      · cases j with
        | zero => simp at hj; subst hj; exact hstr
        | succ j => simp at hj
    | succ j => simp at hj
theorem glob_pow {w : World} (h : Lib.TabIs Tryd.prog w "internal/strconv.uint64pow10" .u64 Lib.pow10Tab) :
    PR w (startS w).K (.dptr (Lib.pow10Tab.map (.int .u64))) (.pointer (some ⟨2, 0, none⟩)) ∧ (startS w).K 2 0 ∧ Whole w 2 (Lib.pow10Tab.map (V.int .u64)).length := by
  have hw := whole_of g2 h
  refine ⟨.dptr _ 2 0 (fun j => .int .u64 (Lib.pow10Tab.getD j 0)) (fun j c hj => ?_) (fun j c hj => ?_), hw.lt, ?_⟩
  · have hj' : j < Lib.pow10Tab.length := by have := (List.getElem?_eq_some_iff.1 hj).1; simpa using this
    exact ⟨by rw [Nat.zero_add]; exact h.cell g2 j hj', hw.lt⟩
  · have hj' : j < Lib.pow10Tab.length := by have := (List.getElem?_eq_some_iff.1 hj).1; simpa using this
    rw [List.getElem?_map, List.getElem?_eq_getElem hj'] at hj
    simp at hj
    subst hj
    rw [List.getD_eq_getElem?_getD, List.getElem?_eq_getElem hj']
    exact .int _ _
  · have := hw; simpa using this
theorem start {w : World} (h : laidMet Tryd.prog laidList w) : Sim Tryd.prog Tryd.gl w (startS w) where
  len := rfl
  obj := fun i o g ho => by simp [startS] at ho
  inj := fun i j b ⟨o, _, ho, _⟩ => by simp [startS] at ho
  kout := fun i b o ob ⟨o', _, ho, _⟩ => by simp [startS] at ho
  kin := fun b o h => h
  fgn := fun b ⟨i, xs, k, l, go, F, J, Jx, ho, _⟩ => by simp [startS] at ho
  glob := fun g => by
    have h3 : laidMet Tryd.prog _ w := h.tail.tail.tail
    match g with
    | 0 => exact .inr (glob_err g0 t0 h3.tail)
    | 1 => exact .inr (glob_err g1 t1 h3)
    | 2 => exact .inr (glob_pow (Lib.tabIs_of_head g2 t2 Tryd.underlying202 Tryd.underlying176 (by kernel_rfl) (by kernel_rfl) h.tail.tail))
    | n + 3 => exact .inl rfl
theorem below_start {w w' : World} {s' : S} (h : Evolve w (startS w) w' s') : Below w.heap.size w w' :=
  ⟨h.os, h.tape, h.output, h.size, fun k hk => h.block k hk (fun ⟨i, o, _, ho, _⟩ => by simp [startS] at ho) (fun ⟨i, xs, k, l, go, F, J, Jx, ho, _⟩ => by simp [startS] at ho)⟩
/-- A law that hands back true, as the kit's own contract. -/
theorem run_law {k : FuncId} {args : List V} {xs : List Value} {w : World} (h : Duo.Call Tryd.prog Tryd.gl k args [] (fun v st' => v = .bool true ∧ st' = [])) (hL : laidMet Tryd.prog laidList w) (hx : args.length = xs.length ∧ ∀ (i : Nat) (c : V) (x : Value), args[i]? = some c → xs[i]? = some x → PR w (startS w).K c x) :
    Calls Tryd.prog k xs.toArray w fun e w' => e = .returned (.bool true) ∧ Below w.heap.size w w' := by
  have h1 := callsIn_wide.1 (h w (startS w) xs rfl (start hL) ⟨hx.1, fun i c x hc hx' => .pure _ _ (hx.2 i c x hc hx')⟩)
  refine h1.mono ?_
  rintro e w' ⟨v, x, s', rfl, _, hE, hr, rfl, _⟩
  exact ⟨by rw [hr.bool_inv], below_start hE⟩
theorem c3 : Tryd.prog.cellsOf 3 = 1 := by kernel_rfl
theorem c4 : Tryd.prog.cellsOf 4 = 1 := by kernel_rfl
noncomputable def low : Nat := (World.holding Tryd.prog default ⟨#[], #[], []⟩).heap.size
abbrev synS : ByteArray := { data := #[105, 110, 118, 97, 108, 105, 100, 32, 115, 121, 110, 116, 97, 120] }
abbrev rngS : ByteArray := { data := #[118, 97, 108, 117, 101, 32, 111, 117, 116, 32, 111, 102, 32, 114, 97, 110, 103, 101] }
def litCells : DataW Unit → Array Value
  | .agg l => (l.map fun d => match d with | .lit (.int k n) => Value.int k n | _ => .nilIface).toArray
  | _ => #[]
noncomputable def laidWorld (os : Os) : World :=
  let w0 := World.holding Tryd.prog os ⟨#[.cells #[.string synS] 209, .cells #[.string rngS] 209], #[], []⟩
  { w0 with heap := ((((w0.heap.modify 0 fun
      | .cells _ t frozen => .cells #[.iface 207 (.pointer (some ⟨low, 0, none⟩))] t frozen
      | o => o).modify 1 fun
      | .cells _ t frozen => .cells #[.iface 207 (.pointer (some ⟨low + 1, 0, none⟩))] t frozen
      | o => o).modify 2 fun
      | .cells _ t frozen => .cells (litCells Rows.laid_internal_strconv_uint64pow10) t frozen
      | o => o).modify 3 fun
      | .cells _ t frozen => .cells (litCells Rows.laid_math_bits_deBruijn32tab) t frozen
      | o => o).modify 4 fun
      | .cells _ t frozen => .cells (litCells Rows.laid_math_bits_deBruijn64tab) t frozen
      | o => o }
theorem laidWorld_met (os : Os) (args : Array Value) : laidMet Tryd.prog laidList ((laidWorld os).forCall (fun _ _ => 0) ⟨#[], args, []⟩).memory :=
  laidMet_of_run' 8 (by kernel_rfl) (by kernel_rfl)
end Go.Proofs.YtmjngcfigfkafaaDoor

namespace Go.Proofs.YtmjngcfigfkafaaDoor
open Go Go.Duo Go.ChangeShapes Go.WideShapes Go.ChangeAt Go.RowKit
theorem c5 : Tryd.prog.cellsOf 5 = 1 := by kernel_rfl
end Go.Proofs.YtmjngcfigfkafaaDoor

set_option maxRecDepth 100000
namespace Go.Proofs.YtmjngcfigfkafaaDoor
open Go Go.Duo Go.ChangeShapes Go.WideShapes Go.ChangeAt Go.RowKit
theorem wfI {n : Int} (h : (Lit.int .i64 n).wf = true) : inI n := by
  simp only [Lit.wf, Bool.and_eq_true, decide_eq_true_eq] at h
  exact ⟨h.1, h.2⟩
theorem hasI {t : TypeId} (hu : Tryd.prog.underlying t = some (.int .i64)) {n : Nat} {vs : List V} (h : Has Tryd.prog n t vs) : ∃ k, vs = [.int .i64 k] ∧ inI k := by
  cases n with
  | zero => exact h.elim
  | succ n =>
    simp only [Has, hu] at h
    obtain ⟨k, rfl, hk⟩ := h
    exact ⟨k, rfl, wfI hk⟩
theorem hasS {n : Nat} {vs : List V} (h : Has Tryd.prog n 9 vs) : ∃ s, vs = [.str s] ∧ inS s := by
  cases n with
  | zero => exact h.elim
  | succ n =>
    simp only [Has, Tryd.underlying9] at h
    obtain ⟨k, rfl, hk⟩ := h
    exact ⟨k, rfl, hk⟩
theorem rows_of {α : Type} (enc : α → V) (ok : α → Prop) {n : Nat} {t e : TypeId} (hu : Tryd.prog.underlying t = some (.slice e)) (hmk : ∀ a, mkV Tryd.prog e (enc a).cells = enc a)
    (h : ∀ cs, Has Tryd.prog n e cs → ∃ a, cs = (enc a).cells ∧ ok a) {vs : List V} (hv : Has Tryd.prog (n + 1) t vs) : ∃ l : List α, vs = [.sl (l.map enc) none] ∧ inL l ∧ ∀ x ∈ l, ok x := by
  simp only [Has, hu] at hv
  obtain ⟨es, rfl, hlen, hes⟩ := hv
  have key : ∀ es : List V, (∀ el ∈ es, ∃ cs, el = mkV Tryd.prog e cs ∧ cs.length = Tryd.prog.cellsOf e ∧ Has Tryd.prog n e cs) → ∃ l : List α, es = l.map enc ∧ ∀ x ∈ l, ok x := by
    intro es
    induction es with
    | nil => intro _; exact ⟨[], rfl, by simp⟩
    | cons el es ih =>
      intro hes
      obtain ⟨l, hl, hok⟩ := ih fun x hx => hes x (List.mem_cons_of_mem _ hx)
      obtain ⟨cs, he, _, hh⟩ := hes el (List.mem_cons_self ..)
      obtain ⟨a, rfl, ha⟩ := h cs hh
      rw [hmk] at he
      exact ⟨a :: l, by rw [he, hl]; rfl, fun x hx => by rcases List.mem_cons.1 hx with rfl | hx; exact ha; exact hok x hx⟩
  obtain ⟨l, rfl, hok⟩ := key es hes
  exact ⟨l, rfl, by unfold inL; rw [List.length_map] at hlen; exact hlen, hok⟩
theorem mk9 (s : Str) : mkV Tryd.prog 9 (V.str s).cells = V.str s := by unfold mkV; rw [Tryd.underlying9]; rfl
theorem mk26 (t : Ty) : mkV Tryd.prog 26 (encT t).cells = encT t := by unfold mkV; rw [Tryd.underlying26]; exact encT_cells t
theorem mk31 (t : Vl) : mkV Tryd.prog 31 (encV t).cells = encV t := by unfold mkV; rw [Tryd.underlying31]; rfl
theorem mk29 (t : Pr) : mkV Tryd.prog 29 (encP t).cells = encP t := by unfold mkV; rw [Tryd.underlying29]; exact encP_cells t
theorem mk117 (t : Pm) : mkV Tryd.prog 117 (encPm t).cells = encPm t := by unfold mkV; rw [Tryd.underlying117]; rfl
theorem mk114 (t : Df) : mkV Tryd.prog 114 (encDf t).cells = encDf t := by unfold mkV; rw [Tryd.underlying114]; rfl
theorem c26 : Tryd.prog.cellsOf 26 = 6 := by kernel_rfl
theorem c29 : Tryd.prog.cellsOf 29 = 12 := by kernel_rfl
theorem c31 : Tryd.prog.cellsOf 31 = 3 := by kernel_rfl
theorem c62 : Tryd.prog.cellsOf 62 = 13 := by kernel_rfl
theorem c117 : Tryd.prog.cellsOf 117 = 7 := by kernel_rfl
theorem c114 : Tryd.prog.cellsOf 114 = 14 := by kernel_rfl
theorem c1s : Tryd.prog.cellsOf 3 = 1 ∧ Tryd.prog.cellsOf 2 = 1 ∧ Tryd.prog.cellsOf 9 = 1 ∧ Tryd.prog.cellsOf 22 = 1 ∧ Tryd.prog.cellsOf 23 = 1 ∧ Tryd.prog.cellsOf 24 = 1 ∧ Tryd.prog.cellsOf 27 = 1 ∧ Tryd.prog.cellsOf 60 = 1 ∧ Tryd.prog.cellsOf 112 = 1 := by
  refine ⟨?_, ?_, ?_, ?_, ?_, ?_, ?_, ?_, ?_⟩ <;> kernel_rfl
theorem labels_of {n : Nat} {vs : List V} (h : Has Tryd.prog n 22 vs) : ∃ l : List Str, vs = [.sl (l.map .str) none] ∧ inL l ∧ ∀ x ∈ l, inS x := by
  cases n with
  | zero => exact h.elim
  | succ n => exact rows_of V.str inS Tryd.underlying22 mk9 (fun cs hc => by obtain ⟨s, rfl, hs⟩ := hasS hc; exact ⟨s, rfl, hs⟩) h
theorem six {l : List V} (h : l.length = 6) : ∃ a b c d e f, l = [a, b, c, d, e, f] := by
  rcases l with _ | ⟨a, _ | ⟨b, _ | ⟨c, _ | ⟨d, _ | ⟨e, _ | ⟨f, _ | ⟨x, l⟩⟩⟩⟩⟩⟩⟩ <;> simp at h
  exact ⟨a, b, c, d, e, f, rfl⟩
theorem three {l : List V} (h : l.length = 3) : ∃ a b c, l = [a, b, c] := by
  rcases l with _ | ⟨a, _ | ⟨b, _ | ⟨c, _ | ⟨x, l⟩⟩⟩⟩ <;> simp at h
  exact ⟨a, b, c, rfl⟩
theorem ty_of : ∀ (n : Nat) (vs : List V), (Has Tryd.prog n 26 vs → ∃ t : Ty, vs = (encT t).cells ∧ okT t) ∧ (Has Tryd.prog n 24 vs → ∃ l : List Ty, vs = [.sl (l.map encT) none] ∧ inL l ∧ ∀ t ∈ l, okT t) := by
  intro n; induction n with
  | zero => exact fun vs => ⟨fun h => h.elim, fun h => h.elim⟩
  | succ n ih =>
    intro vs
    refine ⟨fun h => ?_, fun h => rows_of encT okT Tryd.underlying24 mk26 (fun cs hc => (ih cs).1 hc) h⟩
    simp only [Has, Tryd.underlying26] at h
    obtain ⟨hl, hf⟩ := h
    rw [c26] at hl
    obtain ⟨a, b, c, d, e, f, rfl⟩ := six hl
    obtain ⟨k1, k2, k3, k4, k5, k6, k7, k8, k9⟩ := c1s
    simp only [List.mem_cons, List.not_mem_nil, or_false, forall_eq_or_imp, forall_eq, k1, k2, k3, k4, k6, List.drop_zero, List.drop_succ_cons, List.take_succ_cons, List.take_zero] at hf
    obtain ⟨f1, f2, f3, f4, f5, f6⟩ := hf
    obtain ⟨x1, e1, o1⟩ := hasI Tryd.underlying3 f1
    obtain ⟨x2, e2, o2⟩ := hasI Tryd.underlying3 f2
    obtain ⟨x3, e3, o3⟩ := hasS f3
    obtain ⟨x4, e4, o4⟩ := hasI Tryd.underlying3 f4
    obtain ⟨x5, e5, o5⟩ := labels_of f5
    obtain ⟨x6, e6, o6⟩ := (ih _).2 f6
    simp only [List.cons.injEq, and_true] at e1 e2 e3 e4 e5 e6
    subst e1 e2 e3 e4 e5 e6
    exact ⟨.mk x1 x2 x3 x4 x5 x6, by rw [encT_mk]; rfl, (okT_iff _).2 ⟨o1, o2, o3, o4, o5, o6.1, o6.2⟩⟩
theorem vl_of {n : Nat} {vs : List V} (h : Has Tryd.prog n 31 vs) : ∃ x : Vl, vs = (encV x).cells ∧ okV x := by
  cases n with
  | zero => exact h.elim
  | succ n =>
    simp only [Has, Tryd.underlying31] at h
    obtain ⟨hl, hf⟩ := h
    rw [c31] at hl
    obtain ⟨a, b, c, rfl⟩ := three hl
    obtain ⟨k1, k2, k3, k4, k5, k6, k7, k8, k9⟩ := c1s
    simp only [List.mem_cons, List.not_mem_nil, or_false, forall_eq_or_imp, forall_eq, k1, k2, k3, List.drop_zero, List.drop_succ_cons, List.take_succ_cons, List.take_zero] at hf
    obtain ⟨f1, f2, f3⟩ := hf
    obtain ⟨x1, e1, o1⟩ := hasI Tryd.underlying3 f1
    obtain ⟨x2, e2, o2⟩ := hasS f2
    obtain ⟨x3, e3, o3⟩ := hasI Tryd.underlying2 f3
    simp only [List.cons.injEq, and_true] at e1 e2 e3
    subst e1 e2 e3
    exact ⟨⟨x1, x2, x3⟩, rfl, o1, o2, o3⟩
theorem args_of {n : Nat} {vs : List V} (h : Has Tryd.prog n 23 vs) : ∃ l : List Vl, vs = [.sl (l.map encV) none] ∧ inL l ∧ ∀ x ∈ l, okV x := by
  cases n with
  | zero => exact h.elim
  | succ n => exact rows_of encV okV Tryd.underlying23 mk31 (fun cs hc => vl_of hc) h
theorem pr_of : ∀ (n : Nat) (vs : List V), (Has Tryd.prog n 29 vs → ∃ t : Pr, vs = (encP t).cells ∧ okP t) ∧ (Has Tryd.prog n 27 vs → ∃ l : List Pr, vs = [.sl (l.map encP) none] ∧ inL l ∧ ∀ t ∈ l, okP t) := by
  intro n; induction n with
  | zero => exact fun vs => ⟨fun h => h.elim, fun h => h.elim⟩
  | succ n ih =>
    intro vs
    refine ⟨fun h => ?_, fun h => rows_of encP okP Tryd.underlying27 mk29 (fun cs hc => (ih cs).1 hc) h⟩
    simp only [Has, Tryd.underlying29] at h
    obtain ⟨hl, hf⟩ := h
    rw [c29] at hl
    obtain ⟨k1, k2, k3, k4, k5, k6, k7, k8, k9⟩ := c1s
    simp only [List.mem_cons, List.not_mem_nil, or_false, forall_eq_or_imp, forall_eq, k1, k2, k3, k4, k5, k6, k7, c26] at hf
    obtain ⟨f1, f2, f3, f4, f5, f6, f7⟩ := hf
    obtain ⟨x1, e1, o1⟩ := hasI Tryd.underlying3 f1
    obtain ⟨x2, e2, o2⟩ := hasS f2
    obtain ⟨x3, e3, o3⟩ := hasS f3
    obtain ⟨x4, e4, o4⟩ := labels_of f4
    obtain ⟨x5, e5, o5⟩ := args_of f5
    obtain ⟨x6, e6, o6⟩ := (ty_of n _).1 f6
    obtain ⟨x7, e7, o7⟩ := (ih _).2 f7
    refine ⟨.mk x1 x2 x3 x4 x5 x6 x7, ?_, (okP_iff _).2 ⟨o1, o2, o3, o4, o5, o6, o7.1, o7.2⟩⟩
    have hv : vs = (vs.drop 0).take 1 ++ ((vs.drop 1).take 1 ++ ((vs.drop 2).take 1 ++ ((vs.drop 3).take 1 ++ ((vs.drop 4).take 1 ++ ((vs.drop 5).take 6 ++ (vs.drop 11).take 1))))) := by
      have h7 : (vs.drop 11).take 1 = vs.drop 11 := List.take_of_length_le (by rw [List.length_drop]; omega)
      have st : ∀ a b : Nat, (vs.drop a).take b ++ vs.drop (a + b) = vs.drop a := fun a b => by rw [← List.drop_drop, List.take_append_drop]
      rw [h7, st 5 6, st 4 1, st 3 1, st 2 1, st 1 1, st 0 1, List.drop_zero]
    rw [hv, e1, e2, e3, e4, e5, e6, e7, encP_mk]; rfl
theorem pm_of {n : Nat} {vs : List V} (h : Has Tryd.prog n 117 vs) : ∃ x : Pm, vs = (encPm x).cells ∧ (inS x.name ∧ okT x.t) := by
  cases n with
  | zero => exact h.elim
  | succ n =>
    simp only [Has, Tryd.underlying117] at h
    obtain ⟨hl, hf⟩ := h
    rw [c117] at hl
    obtain ⟨k1, k2, k3, k4, k5, k6, k7, k8, k9⟩ := c1s
    simp only [List.mem_cons, List.not_mem_nil, or_false, forall_eq_or_imp, forall_eq, k3, c26] at hf
    obtain ⟨f1, f2⟩ := hf
    obtain ⟨x1, e1, o1⟩ := hasS f1
    obtain ⟨x2, e2, o2⟩ := (ty_of n _).1 f2
    refine ⟨⟨x1, x2⟩, ?_, o1, o2⟩
    have hv : vs = (vs.drop 0).take 1 ++ (vs.drop 1).take 6 := by
      have h7 : (vs.drop 1).take 6 = vs.drop 1 := List.take_of_length_le (by rw [List.length_drop]; omega)
      rw [h7, List.drop_zero, List.take_append_drop]
    rw [hv, e1, e2]; rfl
theorem df_of {n : Nat} {vs : List V} (h : Has Tryd.prog n 114 vs) : ∃ x : Df, vs = (encDf x).cells ∧ (inS x.name ∧ okP x.body ∧ inL x.params ∧ ∀ y ∈ x.params, inS y.name ∧ okT y.t) := by
  cases n with
  | zero => exact h.elim
  | succ n =>
    simp only [Has, Tryd.underlying114] at h
    obtain ⟨hl, hf⟩ := h
    rw [c114] at hl
    obtain ⟨k1, k2, k3, k4, k5, k6, k7, k8, k9⟩ := c1s
    simp only [List.mem_cons, List.not_mem_nil, or_false, forall_eq_or_imp, forall_eq, k3, k9, c29] at hf
    obtain ⟨f1, f2, f3⟩ := hf
    obtain ⟨x1, e1, o1⟩ := hasS f1
    obtain ⟨x3, e3, o3⟩ := (pr_of n _).1 f3
    have h2 : ∃ l : List Pm, (vs.drop 1).take 1 = [.sl (l.map encPm) none] ∧ inL l ∧ ∀ y ∈ l, inS y.name ∧ okT y.t := by
      cases n with
      | zero => exact f2.elim
      | succ n => exact rows_of encPm (fun y => inS y.name ∧ okT y.t) Tryd.underlying112 mk117 (fun cs hc => pm_of hc) f2
    obtain ⟨x2, e2, o2, o2'⟩ := h2
    refine ⟨⟨x1, x2, x3⟩, ?_, o1, o3, o2, o2'⟩
    have hv : vs = (vs.drop 0).take 1 ++ ((vs.drop 1).take 1 ++ (vs.drop 2).take 12) := by
      have h7 : (vs.drop 2).take 12 = vs.drop 2 := List.take_of_length_le (by rw [List.length_drop]; omega)
      have st : ∀ a b : Nat, (vs.drop a).take b ++ vs.drop (a + b) = vs.drop a := fun a b => by rw [← List.drop_drop, List.take_append_drop]
      rw [h7, st 1 1, st 0 1, List.drop_zero]
    rw [hv, e1, e2, e3]; rfl
theorem pg_of (n : Nat) (vs : List V) (h : Has Tryd.prog n 62 vs) : ∃ p : Pg, vs = (encPg p).cells ∧ okPg p := by
  cases n with
  | zero => exact h.elim
  | succ n =>
    simp only [Has, Tryd.underlying62] at h
    obtain ⟨hl, hf⟩ := h
    rw [c62] at hl
    obtain ⟨k1, k2, k3, k4, k5, k6, k7, k8, k9⟩ := c1s
    simp only [List.mem_cons, List.not_mem_nil, or_false, forall_eq_or_imp, forall_eq, k8, c29] at hf
    obtain ⟨f1, f2⟩ := hf
    obtain ⟨x2, e2, o2⟩ := (pr_of n _).1 f2
    have h2 : ∃ l : List Df, (vs.drop 0).take 1 = [.sl (l.map encDf) none] ∧ inL l ∧ ∀ x ∈ l, (inS x.name ∧ okP x.body ∧ inL x.params ∧ ∀ y ∈ x.params, inS y.name ∧ okT y.t) := by
      cases n with
      | zero => exact f1.elim
      | succ n => exact rows_of encDf _ Tryd.underlying60 mk114 (fun cs hc => df_of hc) f1
    obtain ⟨x1, e1, o1, o1'⟩ := h2
    refine ⟨⟨x1, x2⟩, ?_, o2, o1, o1'⟩
    have hv : vs = (vs.drop 0).take 1 ++ (vs.drop 1).take 12 := by
      have h7 : (vs.drop 1).take 12 = vs.drop 1 := List.take_of_length_le (by rw [List.length_drop]; omega)
      rw [h7, List.drop_zero, List.take_append_drop]
    rw [hv, e1, e2]; rfl
theorem flat_st {n : Nat} {t : TypeId} {fs : Array Field} (hu : Tryd.prog.underlying t = some (.struct fs)) (ht : (tiled Tryd.prog 0 fs.toList == some (Tryd.prog.cellsOf t)) = true) (h : ∀ f ∈ fs.toList, flatT Tryd.prog n f.type = true) : flatT Tryd.prog (n + 1) t = true := by
  rw [flatT, hu]
  simp only [Bool.and_eq_true, List.all_eq_true]
  exact ⟨h, ht⟩
theorem flat_sl {n : Nat} {t e : TypeId} (hu : Tryd.prog.underlying t = some (.slice e)) (he : (match Tryd.prog.underlying e with | some (.struct _) => true | _ => Tryd.prog.cellsOf e == 1) = true) (h : flatT Tryd.prog n e = true) : flatT Tryd.prog (n + 1) t = true := by
  rw [flatT, hu]
  simp only [Bool.and_eq_true]
  exact ⟨h, he⟩
theorem flat_i {t : TypeId} {k : IntKind} (hu : Tryd.prog.underlying t = some (.int k)) : ∀ n, flatT Tryd.prog n t = true
  | 0 => rfl
  | n + 1 => by rw [flatT, hu]
theorem flat9 : ∀ n, flatT Tryd.prog n 9 = true
  | 0 => rfl
  | n + 1 => by rw [flatT, Tryd.underlying9]
theorem flat22 : ∀ n, flatT Tryd.prog n 22 = true
  | 0 => rfl
  | n + 1 => flat_sl Tryd.underlying22 (by rw [Tryd.underlying9]; kernel_rfl) (flat9 n)
theorem flat26 : ∀ n, flatT Tryd.prog n 26 = true ∧ flatT Tryd.prog n 24 = true
  | 0 => ⟨rfl, rfl⟩
  | n + 1 => ⟨flat_st Tryd.underlying26 (by kernel_rfl) (by
      simp only [List.mem_cons, List.not_mem_nil, or_false, forall_eq_or_imp, forall_eq]
      exact ⟨flat_i Tryd.underlying3 n, flat_i Tryd.underlying3 n, flat9 n, flat_i Tryd.underlying3 n, flat22 n, (flat26 n).2⟩), flat_sl Tryd.underlying24 (by rw [Tryd.underlying26]) (flat26 n).1⟩
theorem flat31 : ∀ n, flatT Tryd.prog n 31 = true
  | 0 => rfl
  | n + 1 => flat_st Tryd.underlying31 (by kernel_rfl) (by
      simp only [List.mem_cons, List.not_mem_nil, or_false, forall_eq_or_imp, forall_eq]
      exact ⟨flat_i Tryd.underlying3 n, flat9 n, flat_i Tryd.underlying2 n⟩)
theorem flat23 : ∀ n, flatT Tryd.prog n 23 = true
  | 0 => rfl
  | n + 1 => flat_sl Tryd.underlying23 (by rw [Tryd.underlying31]) (flat31 n)
theorem flat29 : ∀ n, flatT Tryd.prog n 29 = true ∧ flatT Tryd.prog n 27 = true
  | 0 => ⟨rfl, rfl⟩
  | n + 1 => ⟨flat_st Tryd.underlying29 (by kernel_rfl) (by
      simp only [List.mem_cons, List.not_mem_nil, or_false, forall_eq_or_imp, forall_eq]
      exact ⟨flat_i Tryd.underlying3 n, flat9 n, flat9 n, flat22 n, flat23 n, (flat26 n).1, (flat29 n).2⟩), flat_sl Tryd.underlying27 (by rw [Tryd.underlying29]) (flat29 n).1⟩
theorem flat117 : ∀ n, flatT Tryd.prog n 117 = true
  | 0 => rfl
  | n + 1 => flat_st Tryd.underlying117 (by kernel_rfl) (by
      simp only [List.mem_cons, List.not_mem_nil, or_false, forall_eq_or_imp, forall_eq]
      exact ⟨flat9 n, (flat26 n).1⟩)
theorem flat112 : ∀ n, flatT Tryd.prog n 112 = true
  | 0 => rfl
  | n + 1 => flat_sl Tryd.underlying112 (by rw [Tryd.underlying117]) (flat117 n)
theorem flat114 : ∀ n, flatT Tryd.prog n 114 = true
  | 0 => rfl
  | n + 1 => flat_st Tryd.underlying114 (by kernel_rfl) (by
      simp only [List.mem_cons, List.not_mem_nil, or_false, forall_eq_or_imp, forall_eq]
      exact ⟨flat9 n, flat112 n, (flat29 n).1⟩)
theorem flat60 : ∀ n, flatT Tryd.prog n 60 = true
  | 0 => rfl
  | n + 1 => flat_sl Tryd.underlying60 (by rw [Tryd.underlying114]) (flat114 n)
theorem flat62 : ∀ n, flatT Tryd.prog n 62 = true
  | 0 => rfl
  | n + 1 => flat_st Tryd.underlying62 (by kernel_rfl) (by
      simp only [List.mem_cons, List.not_mem_nil, or_false, forall_eq_or_imp, forall_eq]
      exact ⟨flat60 n, (flat29 n).1⟩)
end Go.Proofs.YtmjngcfigfkafaaDoor
