/-
  A part of the proof.
-/
import Derived.Test.YtdlcnihacaboiaaGreatDoorSubBridge
import Derived.Test.YtdlcnihacaboiaaGreatDoorWaitLib
import Derived.Test.YtdlcnihacaboiaaGreatDoorGN
import Derived.Test.YtdlcnihacaboiaaGreatDoorGJ
set_option linter.all false
set_option maxRecDepth 100000
namespace Go.Proofs.YtdlcnihacaboiaaGreatDoor
open Go Go.Duo Go.ChangeShapes Go.WideShapes Go.ChangeAt Go.RowKit
def laidList2 : List (String × DataW Unit) := Rows.waitsThreadsRow.laid
theorem g0 : Tryz.prog.globalNamed "strconv.ErrSyntax" = some 0 := by kernel_rfl
theorem g1 : Tryz.prog.globalNamed "strconv.ErrRange" = some 1 := by kernel_rfl
theorem t0 : (Tryz.prog.globals[0]?).map (·.type) = some 150 := by kernel_rfl
theorem t1 : (Tryz.prog.globals[1]?).map (·.type) = some 150 := by kernel_rfl
theorem star : "*" ++ "errors.errorString" = "*errors.errorString" := by decide
theorem row295 (u : TypeId) (h : Tryz.prog.typeName? 3 u = some "*errors.errorString") : u = 295 :=
  typeName_ptr_named (nm := "errors.errorString") (by rw [star]; kernel_rfl) (by kernel_rfl) (by decide) u (by rw [star]; exact h)
theorem glob_err {w : World} {n : String} {g : Nat} {text : List UInt8} {r : List (String × DataW Unit)} (hg : Tryz.prog.globalNamed n = some g) (ht : (Tryz.prog.globals[g]?).map (·.type) = some 150)
    (h : laidMet Tryz.prog ((n, .iface "*errors.errorString" (.ptr (.agg [.lit (.string text)]))) :: r) w) :
    PR w (startS w).K (.dptr [.iface 295 (.dptr [.str text])]) (.pointer (some ⟨g, 0, none⟩)) ∧ (startS w).K g 0 ∧ Whole w g 1 := by
  obtain ⟨a, s, hv, hc, hs, _⟩ := laid_sentinel h hg ht Tryz.underlying150 row295 Tryz.underlying295 Tryz.underlying297 rfl rfl Tryz.underlying9 (by kernel_rfl) (by kernel_rfl)
  have hw := whole_of hg hv
  have hcell := World.var?_cell hg hv 0
  obtain ⟨hsp, hb⟩ := cell_spot hc
  have ha : a = ⟨a.block, a.off, none⟩ := by cases a; simp only at hsp; rw [hsp]
  have hstr : PR w (startS w).K (.str text) (.string s) := by
    have := PR.str (w := w) (K := (startS w).K) text
    rw [← hs] at this ⊢
    simpa using this
  refine ⟨.dptr _ g 0 (fun _ => .iface 295 (.pointer (some a))) (fun j c hj => ?_) (fun j c hj => ?_), hw.lt, hw⟩
  · cases j with
    | zero => exact ⟨by simpa using hcell, hw.lt⟩
    | succ j => simp at hj
  · cases j with
    | zero =>
      simp at hj; subst hj
      refine .iface _ _ _ ?_
      rw [ha]
      refine .dptr _ a.block a.off (fun _ => .string s) (fun j c hj => ?_) (fun j c hj => ?_)
      · cases j with
        | zero => exact ⟨by rw [Nat.add_zero, ← ha]; exact hc, hb⟩
        | succ j => simp at hj
      · cases j with
        | zero => simp at hj; subst hj; exact hstr
        | succ j => simp at hj
    | succ j => simp at hj
theorem start2 {w : World} (h : laidMet Tryz.prog laidList2 w) : Sim Tryz.prog Tryz.gl2 w (startS w) where
  len := rfl
  obj := fun i o g ho => by simp [startS] at ho
  inj := fun i j b ⟨o, _, ho, _⟩ => by simp [startS] at ho
  kout := fun i b o ob ⟨o', _, ho, _⟩ => by simp [startS] at ho
  kin := fun b o h => h
  fgn := fun b ⟨i, xs, k, l, go, F, J, Jx, ho, _⟩ => by simp [startS] at ho
  glob := fun g => by
    have h3 : laidMet Tryz.prog _ w := h.tail.tail.tail
    match g with
    | 0 => exact .inr (glob_err g0 t0 h3.tail)
    | 1 => exact .inr (glob_err g1 t1 h3)
    | 2 => exact .inl rfl
    | 3 => exact .inr (glob_pow (Lib.tabIs_of_head g3 t3 Tryz.underlying300 Tryz.underlying240 (by kernel_rfl) (by kernel_rfl) h.tail.tail))
    | n + 4 => exact .inl rfl
/-- A law that hands back true, as the kit's own contract. -/
theorem run_law2 {k : FuncId} {args : List V} {xs : List Value} {w : World} (h : Duo.Call Tryz.prog Tryz.gl2 k args [] (fun v st' => v = .bool true ∧ st' = [])) (hL : laidMet Tryz.prog laidList2 w) (hx : args.length = xs.length ∧ ∀ (i : Nat) (c : V) (x : Value), args[i]? = some c → xs[i]? = some x → PR w (startS w).K c x) :
    Calls Tryz.prog k xs.toArray w fun e w' => e = .returned (.bool true) ∧ Below w.heap.size w w' := by
  have h1 := callsIn_wide.1 (h w (startS w) xs rfl (start2 hL) ⟨hx.1, fun i c x hc hx' => .pure _ _ (hx.2 i c x hc hx')⟩)
  refine h1.mono ?_
  rintro e w' ⟨v, x, s', rfl, _, hE, hr, rfl, _⟩
  exact ⟨by rw [hr.bool_inv], below_start hE⟩
theorem c4 : Tryz.prog.cellsOf 4 = 1 := by kernel_rfl
theorem has4 {n : Nat} {v : V} (h : Has Tryz.prog n 4 [v]) : ∃ b, v = .bool b := by
  cases n with
  | zero => exact h.elim
  | succ n =>
    simp only [Has, Tryz.underlying4, List.cons.injEq, and_true] at h
    exact h
theorem four {l : List V} (h : l.length = 4) : ∃ a b c d, l = [a, b, c, d] := by
  rcases l with _ | ⟨a, _ | ⟨b, _ | ⟨c, _ | ⟨d, _ | ⟨x, l⟩⟩⟩⟩⟩ <;> simp at h
  exact ⟨a, b, c, d, rfl⟩
theorem c5 : Tryz.prog.cellsOf 5 = 1 := by kernel_rfl
theorem c102 : Tryz.prog.cellsOf 102 = 4 := by kernel_rfl
theorem has5 {n : Nat} {v : V} (h : Has Tryz.prog n 5 [v]) : ∃ k : UInt8, v = .int .u8 k.toNat := by
  cases n with
  | zero => exact h.elim
  | succ n =>
    simp only [Has, Tryz.underlying5, List.cons.injEq, and_true] at h
    obtain ⟨k, rfl, hk⟩ := h
    have hb : 0 ≤ k ∧ k ≤ 255 := by
      simp only [Lit.wf, Bool.and_eq_true, decide_eq_true_eq] at hk
      exact ⟨hk.1, hk.2⟩
    exact ⟨UInt8.ofNat k.toNat, by rw [UInt8.toNat_ofNat']; congr 1; omega⟩
theorem th_cells {n : Nat} {a b c d : V} (h : Has Tryz.prog n 102 [a, b, c, d]) : ∃ r : Th, [a, b, c, d] = (encTh r).cells := by
  cases n with
  | zero => exact h.elim
  | succ n =>
    simp only [Has, Tryz.underlying102] at h
    obtain ⟨_, hf⟩ := h
    have f1 := hf _ (List.mem_cons_self ..)
    have f2 := hf _ (List.mem_cons_of_mem _ (List.mem_cons_self ..))
    have f3 := hf _ (List.mem_cons_of_mem _ (List.mem_cons_of_mem _ (List.mem_cons_self ..)))
    have f4 := hf _ (List.mem_cons_of_mem _ (List.mem_cons_of_mem _ (List.mem_cons_of_mem _ (List.mem_cons_self ..))))
    simp only [c5, c4, List.drop_zero, List.drop_succ_cons, List.take_succ_cons, List.take_zero] at f1 f2 f3 f4
    obtain ⟨n1, rfl⟩ := has5 f1
    obtain ⟨n2, rfl⟩ := has4 f2
    obtain ⟨n3, rfl⟩ := has5 f3
    obtain ⟨b4, rfl⟩ := has5 f4
    exact ⟨⟨n1, n2, n3, b4⟩, rfl⟩
theorem mk102 (r : Th) : mkV Tryz.prog 102 (encTh r).cells = encTh r := by unfold mkV; rw [Tryz.underlying102]; rfl
theorem th_rows (n : Nat) : ∀ es : List V, (∀ el ∈ es, ∃ cs, el = mkV Tryz.prog 102 cs ∧ cs.length = Tryz.prog.cellsOf 102 ∧ Has Tryz.prog n 102 cs) → ∃ l : List Th, es = l.map encTh := by
  intro es
  induction es with
  | nil => intro _; exact ⟨[], rfl⟩
  | cons el es ih =>
    intro hes
    obtain ⟨l, hl⟩ := ih fun x hx => hes x (List.mem_cons_of_mem _ hx)
    obtain ⟨cs, he, hc, hh⟩ := hes el (List.mem_cons_self ..)
    rw [c102] at hc
    obtain ⟨a, b, c, d, h4⟩ := four hc
    rw [h4] at hh he
    obtain ⟨r, hr⟩ := th_cells hh
    rw [hr, mk102] at he
    exact ⟨r :: l, by rw [he, hl]; rfl⟩
theorem th_of (n : Nat) (vs : List V) (h : Has Tryz.prog n 66 vs) : ∃ l : List Th, vs = [.sl (l.map encTh) none] := by
  cases n with
  | zero => exact h.elim
  | succ n =>
    simp only [Has, Tryz.underlying66] at h
    obtain ⟨es, he, _, hes⟩ := h
    obtain ⟨l, hl⟩ := th_rows n es hes
    exact ⟨l, by rw [he, hl]⟩
theorem flat66 : ∀ n, flatT Tryz.prog n 66 = true
  | 0 => by kernel_rfl
  | 1 => by kernel_rfl
  | 2 => by kernel_rfl
  | n + 3 => by
    have h3 : flatT Tryz.prog (n + 1) 5 = true := by simp only [flatT, Tryz.underlying5]
    have h4 : flatT Tryz.prog (n + 1) 4 = true := by simp only [flatT, Tryz.underlying4]
    rw [flatT, Tryz.underlying66]
    simp only [Tryz.underlying102, Bool.and_true]
    rw [flatT, Tryz.underlying102]
    simp only [List.all_cons, List.all_nil, h3, h4, Bool.true_and, Bool.and_true]
    simp only [tiled, c5, c4, c102, Nat.zero_add, Nat.reduceAdd, if_true]
    first | rfl | decide | (simp; done)
noncomputable def low : Nat := (World.holding Tryz.prog default ⟨#[], #[], []⟩).heap.size
abbrev synS : ByteArray := { data := #[105, 110, 118, 97, 108, 105, 100, 32, 115, 121, 110, 116, 97, 120] }
abbrev rngS : ByteArray := { data := #[118, 97, 108, 117, 101, 32, 111, 117, 116, 32, 111, 102, 32, 114, 97, 110, 103, 101] }
noncomputable def laidWorld2 (os : Os) : World :=
  let w0 := World.holding Tryz.prog os ⟨#[.cells #[.string synS] 297, .cells #[.string rngS] 297], #[], []⟩
  { w0 with heap := ((((w0.heap.modify 0 fun
      | .cells _ t frozen => .cells #[.iface 295 (.pointer (some ⟨low, 0, none⟩))] t frozen
      | o => o).modify 1 fun
      | .cells _ t frozen => .cells #[.iface 295 (.pointer (some ⟨low + 1, 0, none⟩))] t frozen
      | o => o).modify 3 fun
      | .cells _ t frozen => .cells (litCells Rows.laid_internal_strconv_uint64pow10) t frozen
      | o => o).modify 4 fun
      | .cells _ t frozen => .cells (litCells Rows.laid_math_bits_deBruijn32tab) t frozen
      | o => o).modify 5 fun
      | .cells _ t frozen => .cells (litCells Rows.laid_math_bits_deBruijn64tab) t frozen
      | o => o }
theorem laidWorld2_met (os : Os) (args : Array Value) : laidMet Tryz.prog laidList2 ((laidWorld2 os).forCall (fun _ _ => 0) ⟨#[], args, []⟩).memory :=
  laidMet_of_run' 8 (by kernel_rfl) (by kernel_rfl)
end Go.Proofs.YtdlcnihacaboiaaGreatDoor
