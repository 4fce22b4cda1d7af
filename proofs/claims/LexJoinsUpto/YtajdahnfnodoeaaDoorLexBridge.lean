/-
  From a row's conditions to a call of our logic, and back.
-/
import Derived.Test.YtajdahnfnodoeaaDoorRows
import Derived.Test.YtajdahnfnodoeaaDoorLexLib
import Derived.Test.YtajdahnfnodoeaaDoorDTrod
import Derived.WalkKit
import Derived.ProofKit
import Derived.OpenShut
import Derived.ShutString
import Derived.ChangeOld
import Derived.Below
import Derived.Carry
import Derived.SizedLaws
import Derived.ChangeSame
import Derived.ChangeVars
import Derived.JoinedOf
import Derived.LaidLaws
import Derived.Stop.LaidErr
import Derived.Lib.LaidTab
import Derived.RowKit
set_option linter.all false
namespace Go.Proofs.YtajdahnfnodoeaaDoor
open Go Go.Duo Go.ChangeShapes Go.WideShapes Go.ChangeAt Go.RowKit

theorem own : ownKnob Tryd.prog.godebug = none := by kernel_rfl
theorem laidOut : laidOutB Tryd.prog = true := by kernel_rfl
def laidList : List (String × DataW Unit) := Rows.lexTokensRow.laid
theorem g0 : Tryd.prog.globalNamed "duologue/lex.keywords" = some 0 := by kernel_rfl
theorem g2 : Tryd.prog.globalNamed "strconv.ErrSyntax" = some 2 := by kernel_rfl
theorem g3 : Tryd.prog.globalNamed "strconv.ErrRange" = some 3 := by kernel_rfl
theorem t0 : (Tryd.prog.globals[0]?).map (·.type) = some 54 := by kernel_rfl
theorem t2 : (Tryd.prog.globals[2]?).map (·.type) = some 69 := by kernel_rfl
theorem t3 : (Tryd.prog.globals[3]?).map (·.type) = some 69 := by kernel_rfl
theorem star : "*" ++ "errors.errorString" = "*errors.errorString" := by decide
theorem row94 (u : TypeId) (h : Tryd.prog.typeName? 3 u = some "*errors.errorString") : u = 94 :=
  typeName_ptr_named (nm := "errors.errorString") (by rw [star]; kernel_rfl) (by kernel_rfl) (by decide) u (by rw [star]; exact h)

/-! ### The start -/
def startS (w : World) : S := { K := fun b _ => b < w.heap.size, g := [], st := [] }
theorem whole_of {w : World} {n : String} {g : Nat} {cs : Array Value} (hg : Tryd.prog.globalNamed n = some g) (h : w.var? Tryd.prog n = some cs) : Whole w g cs.size := by
  unfold World.var? at h
  rw [hg] at h
  simp only [Option.bind_some] at h
  split at h
  · rename_i c t fr hb
    cases h
    exact ⟨_, _, _, hb, rfl⟩
  · cases h
theorem glob_err {w : World} {n : String} {g : Nat} {text : List UInt8} {r : List (String × DataW Unit)} (hg : Tryd.prog.globalNamed n = some g) (ht : (Tryd.prog.globals[g]?).map (·.type) = some 69)
    (h : laidMet Tryd.prog ((n, .iface "*errors.errorString" (.ptr (.agg [.lit (.string text)]))) :: r) w) :
    PR w (startS w).K (.dptr [.iface 94 (.dptr [.str text])]) (.pointer (some ⟨g, 0, none⟩)) ∧ (startS w).K g 0 ∧ Whole w g 1 := by
  obtain ⟨a, s, hv, hc, hs, _⟩ := laid_sentinel h hg ht Tryd.underlying69 row94 Tryd.underlying94 Tryd.underlying96 rfl rfl Tryd.underlying9 (by kernel_rfl) (by kernel_rfl)
  have hw := whole_of hg hv
  have hcell := World.var?_cell hg hv 0
  obtain ⟨hsp, hb⟩ := cell_spot hc
  have ha : a = ⟨a.block, a.off, none⟩ := by cases a; simp only at hsp; rw [hsp]
  have hstr : PR w (startS w).K (.str text) (.string s) := by
    have := PR.str (w := w) (K := (startS w).K) text
    rw [← hs] at this ⊢
    simpa using this
  refine ⟨.dptr _ g 0 (fun _ => .iface 94 (.pointer (some a))) (fun j c hj => ?_) (fun j c hj => ?_), hw.lt, hw⟩
  · cases j with
    | zero => exact ⟨by simpa using hcell, hw.lt⟩
    | succ j => simp at hj
  · cases j with
    | zero =>
      simp at hj; subst hj
      refine .iface _ _ _ ?_
      rw [ha]
      refine .dptr _ a.block a.off (fun _ => .string s) (fun j c hj => ?_) (fun j c hj => ?_)
      · cases j with
        | zero => exact ⟨by rw [Nat.add_zero, ← ha]; exact hc, hb⟩
        | succ j => simp at hj
      · cases j with
        | zero => simp at hj; subst hj; exact hstr
        | succ j => simp at hj
    | succ j => simp at hj
/-- An array of texts that reads as the table holds the texts. -/
theorem cells_of_strs {H : Type} {enc : TypeId × Value → H} {P : Program} {w : World} {base : Nat} {sp : Nat → Bool} {held : Bool} {fuel : Nat} {t e : TypeId} {n : Nat} {cs : List Value} {zs : List Str} {p : List MemPlace}
    (ht : P.underlying t = some (.array n e)) (he : P.underlying e = some .string) (hce : P.cellsOf e = 1) (hct : P.cellsOf t = n)
    (h : DataW.trod enc P w base sp held fuel t cs = some (.agg (zs.map fun z => .lit (.string z)), p)) : cs = zs.map fun z => Value.string ⟨z.toArray⟩ := by
  cases fuel with
  | zero => simp [DataW.trod] at h
  | succ fuel =>
    simp only [DataW.trod, ht, hce, hct, Nat.mul_one] at h
    split at h
    · rename_i hl
      obtain ⟨xs, hm, hx⟩ := Option.map_eq_some_iff.1 h
      have hxs : xs.map (·.1) = zs.map fun z => (DataW.lit (.string z) : DataW H) := by
        have := congrArg Prod.fst hx
        simpa using this
      have hxl : xs.length = n := by simpa using Lib.mapM_length hm
      have hzl : zs.length = n := by
        have := congrArg List.length hxs
        simp at this
        omega
      apply List.ext_getElem?
      intro i
      by_cases hi : i < n
      · obtain ⟨b, hb, hf⟩ := Lib.mapM_at hm i i (by simp [hi])
        obtain ⟨z, hc, rfl, _⟩ := DataW.trod_string he hf
        have h1 : cs[i]? = some (.string z) := by
          have := congrArg (·[0]?) hc
          simpa [List.getElem?_take, List.getElem?_drop] using this
        have h2 : (xs.map (·.1))[i]? = some (DataW.lit (.string z.data.toList) : DataW H) := by simp [hb]
        rw [hxs] at h2
        simp only [List.getElem?_map, Option.map_eq_some_iff, DataW.lit.injEq, Lit.string.injEq] at h2
        obtain ⟨z', hz', rfl⟩ := h2
        simp [h1, hz']
      · rw [List.getElem?_eq_none (by omega), List.getElem?_eq_none (by simp; omega)]
    · cases h
theorem kw_data : (Rows.laid_duologue_lex_keywords : DataW Unit) = .agg (KW.map fun z => .lit (.string z)) := by kernel_rfl
theorem glob_kw {w : World} {r : List (String × DataW Unit)} (h : laidMet Tryd.prog (("duologue/lex.keywords", Rows.laid_duologue_lex_keywords) :: r) w) :
    PR w (startS w).K (.dptr (KW.map .str)) (.pointer (some ⟨0, 0, none⟩)) ∧ (startS w).K 0 0 ∧ Whole w 0 (KW.map V.str).length := by
  rw [kw_data] at h
  obtain ⟨ps, ⟨g', t', cs, fuel, p, q, hg', ht', hvar, hd, _, _⟩, _⟩ := h
  obtain rfl := Option.some.inj (g0.symm.trans hg')
  obtain rfl := Option.some.inj (t0.symm.trans ht')
  have hcs := cells_of_strs Tryd.underlying54 Tryd.underlying9 (by kernel_rfl) (by kernel_rfl) hd
  have hw := whole_of g0 hvar
  have hsz : cs.size = 10 := by
    have := congrArg List.length hcs
    simpa [KW] using this
  rw [hsz] at hw
  refine ⟨.dptr _ 0 0 (fun j => .string ⟨(KW.getD j []).toArray⟩) (fun j c hj => ?_) (fun j c hj => ?_), hw.lt, hw⟩
  · have hj' : j < KW.length := by have := (List.getElem?_eq_some_iff.1 hj).1; simpa using this
    refine ⟨?_, hw.lt⟩
    rw [Nat.zero_add, World.var?_cell g0 hvar j]
    have : cs[j]? = (KW.map fun z => Value.string ⟨z.toArray⟩)[j]? := by rw [← hcs]; simp
    rw [this, List.getElem?_map, List.getD_eq_getElem?_getD, List.getElem?_eq_getElem hj']; rfl
  · have hj' : j < KW.length := by have := (List.getElem?_eq_some_iff.1 hj).1; simpa using this
    rw [List.getElem?_map, List.getElem?_eq_getElem hj'] at hj
    simp at hj
    subst hj
    rw [List.getD_eq_getElem?_getD, List.getElem?_eq_getElem hj']
    exact .str _
theorem start {w : World} (h : laidMet Tryd.prog laidList w) : Sim Tryd.prog Tryd.gl w (startS w) where
  len := rfl
  obj := fun i o g ho => by simp [startS] at ho
  inj := fun i j b ⟨o, _, ho, _⟩ => by simp [startS] at ho
  kout := fun i b o ob ⟨o', _, ho, _⟩ => by simp [startS] at ho
  kin := fun b o h => h
  fgn := fun b ⟨i, xs, k, l, go, F, J, Jx, ho, _⟩ => by simp [startS] at ho
  glob := fun g => by
    have h3 : laidMet Tryd.prog _ w := h.tail.tail.tail
    match g with
    | 0 => exact .inr (glob_kw h3.tail.tail)
    | 1 => exact .inl rfl
    | 2 => exact .inr (glob_err g2 t2 h3.tail)
    | 3 => exact .inr (glob_err g3 t3 h3)
    | n + 4 => exact .inl rfl
theorem below_start {w w' : World} {s' : S} (h : Evolve w (startS w) w' s') : Below w.heap.size w w' :=
  ⟨h.os, h.tape, h.output, h.size, fun k hk => h.block k hk (fun ⟨i, o, _, ho, _⟩ => by simp [startS] at ho) (fun ⟨i, xs, k, l, go, F, J, Jx, ho, _⟩ => by simp [startS] at ho)⟩
/-- A law that hands back true, as the kit's own contract. -/
theorem run_law {k : FuncId} {args : List V} {xs : List Value} {w : World} (h : Duo.Call Tryd.prog Tryd.gl k args [] (fun v st' => v = .bool true ∧ st' = [])) (hL : laidMet Tryd.prog laidList w) (hx : args.length = xs.length ∧ ∀ (i : Nat) (c : V) (x : Value), args[i]? = some c → xs[i]? = some x → PR w (startS w).K c x) :
    Calls Tryd.prog k xs.toArray w fun e w' => e = .returned (.bool true) ∧ Below w.heap.size w w' := by
  have h1 := callsIn_wide.1 (h w (startS w) xs rfl (start hL) ⟨hx.1, fun i c x hc hx' => .pure _ _ (hx.2 i c x hc hx')⟩)
  refine h1.mono ?_
  rintro e w' ⟨v, x, s', rfl, _, hE, hr, rfl, _⟩
  exact ⟨by rw [hr.bool_inv], below_start hE⟩
theorem pr_str {w : World} {K : Nat → Nat → Prop} (s : ByteArray) : PR w K (.str s.data.toList) (.string s) := by
  have := PR.str (w := w) (K := K) s.data.toList
  simpa using this
theorem wf64 {n : Int} (h : (Lit.int .i64 n).wf = true) : -9223372036854775808 ≤ n ∧ n ≤ 9223372036854775807 := by
  simp only [Lit.wf, Bool.and_eq_true, decide_eq_true_eq] at h
  exact ⟨h.1, h.2⟩
theorem str_len {s : ByteArray} (h : s.size ≤ maxLen) : s.data.toList.length ≤ 9223372036854775807 := by
  have e : s.data.toList.length = s.size := by rw [Array.length_toList]; rfl
  rw [e]; exact h

/-! ### One start that fits -/
noncomputable def low : Nat := (World.holding Tryd.prog default ⟨#[], #[], []⟩).heap.size
abbrev synS : ByteArray := { data := #[105, 110, 118, 97, 108, 105, 100, 32, 115, 121, 110, 116, 97, 120] }
abbrev rngS : ByteArray := { data := #[118, 97, 108, 117, 101, 32, 111, 117, 116, 32, 111, 102, 32, 114, 97, 110, 103, 101] }
def litCells : DataW Unit → Array Value
  | .agg l => (l.map fun d => match d with | .lit (.int k n) => Value.int k n | .lit (.string z) => Value.string ⟨z.toArray⟩ | _ => .nilIface).toArray
  | _ => #[]
noncomputable def laidWorld (os : Os) : World :=
  let w0 := World.holding Tryd.prog os ⟨#[.cells #[.string synS] 96, .cells #[.string rngS] 96], #[], []⟩
  { w0 with heap := (((((w0.heap.modify 0 fun
      | .cells _ t frozen => .cells (litCells Rows.laid_duologue_lex_keywords) t frozen
      | o => o).modify 2 fun
      | .cells _ t frozen => .cells #[.iface 94 (.pointer (some ⟨low, 0, none⟩))] t frozen
      | o => o).modify 3 fun
      | .cells _ t frozen => .cells #[.iface 94 (.pointer (some ⟨low + 1, 0, none⟩))] t frozen
      | o => o).modify 4 fun
      | .cells _ t frozen => .cells (litCells Rows.laid_internal_strconv_uint64pow10) t frozen
      | o => o).modify 5 fun
      | .cells _ t frozen => .cells (litCells Rows.laid_math_bits_deBruijn32tab) t frozen
      | o => o).modify 6 fun
      | .cells _ t frozen => .cells (litCells Rows.laid_math_bits_deBruijn64tab) t frozen
      | o => o }
theorem laidWorld_met (os : Os) (args : Array Value) : laidMet Tryd.prog laidList ((laidWorld os).forCall (fun _ _ => 0) ⟨#[], args, []⟩).memory :=
  laidMet_of_run' 8 (by kernel_rfl) (by kernel_rfl)
end Go.Proofs.YtajdahnfnodoeaaDoor
