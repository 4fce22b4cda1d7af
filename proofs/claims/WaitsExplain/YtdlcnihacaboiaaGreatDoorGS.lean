/-
  A part of the proof.
-/
import Derived.Test.YtdlcnihacaboiaaGreatDoorSubBridge
import Derived.Test.YtdlcnihacaboiaaGreatDoorGX
import Derived.Test.YtdlcnihacaboiaaGreatDoorGK
import Derived.Test.YtdlcnihacaboiaaGreatDoorGG
import Derived.Test.YtdlcnihacaboiaaGreatDoorGI
set_option linter.all false
set_option maxRecDepth 100000
namespace Go.Proofs.YtdlcnihacaboiaaGreatDoor
open Go Go.Duo Go.ChangeShapes Go.WideShapes Go.ChangeAt Go.RowKit
def laidList2:List (String × DataW Unit):=Rows.waitsThreadsRow.laid
theorem g0:Tryz.prog.globalNamed "strconv.ErrSyntax" = some 0:=by kernel_rfl
theorem g1:Tryz.prog.globalNamed "strconv.ErrRange" = some 1:=by kernel_rfl
theorem t0:(Tryz.prog.globals[0]?).map (·.type) = some 150:=by kernel_rfl
theorem t1:(Tryz.prog.globals[1]?).map (·.type) = some 150:=by kernel_rfl
theorem star:"*" ++ "errors.errorString" = "*errors.errorString":=by decide
theorem row295 (u:TypeId) (h:Tryz.prog.typeName? 3 u = some "*errors.errorString"):u = 295 :=
  typeName_ptr_named (nm:="errors.errorString") (by rw [star];kernel_rfl) (by kernel_rfl) (by decide) u (by rw [star];exact h)
theorem glob_err {w:World} {n:String} {g:Nat} {text:List UInt8} {r:List (String × DataW Unit)} (hg:Tryz.prog.globalNamed n = some g) (ht:(Tryz.prog.globals[g]?).map (·.type) = some 150)
    (h:laidMet Tryz.prog ((n,.iface "*errors.errorString" (.ptr (.agg [.lit (.string text)]))) :: r) w) :
    PR w (startS w).K (.dptr [.iface 295 (.dptr [.str text])]) (.pointer (some ⟨g,0,none⟩)) ∧ (startS w).K g 0 ∧ Whole w g 1:=by
  obtain ⟨a,s,hv,hc,hs,_⟩:=laid_sentinel h hg ht Tryz.underlying150 row295 Tryz.underlying295 Tryz.underlying297 rfl rfl Tryz.underlying9 (by kernel_rfl) (by kernel_rfl)
  have hw:=whole_of hg hv
  have hcell:=World.var?_cell hg hv 0
  obtain ⟨hsp,hb⟩:=cell_spot hc
  have ha:a = ⟨a.block,a.off,none⟩:=by cases a;simp only at hsp;rw [hsp]
  have hstr:PR w (startS w).K (.str text) (.string s):=by
    have:=PR.str (w:=w) (K:=(startS w).K) text
    rw [← hs] at this ⊢
    simpa using this
  refine ⟨.dptr _ g 0 (fun _ => .iface 295 (.pointer (some a))) (fun j c hj => ?_) (fun j c hj => ?_),hw.lt,hw⟩
  · cases j with
    | zero => exact ⟨by simpa using hcell,hw.lt⟩
    | succ j => simp at hj
  · cases j with
    | zero =>
      simp at hj;subst hj
      refine .iface _ _ _ ?_
      rw [ha]
      refine .dptr _ a.block a.off (fun _ => .string s) (fun j c hj => ?_) (fun j c hj => ?_)
      · cases j with
        | zero => exact ⟨by rw [Nat.add_zero,← ha];exact hc,hb⟩
        | succ j => simp at hj
      · cases j with
        | zero => simp at hj;subst hj;exact hstr
        | succ j => simp at hj
    | succ j => simp at hj
theorem start2 {w:World} (h:laidMet Tryz.prog laidList2 w):Sim Tryz.prog Tryz.gl2 w (startS w) where
  len:=rfl
  obj:=fun i o g ho => by simp [startS] at ho
  inj:=fun i j b ⟨o,_,ho,_⟩ => by simp [startS] at ho
  kout:=fun i b o ob ⟨o',_,ho,_⟩ => by simp [startS] at ho
  kin:=fun b o h => h
  fgn:=fun b ⟨i,xs,k,l,go,F,J,Jx,ho,_⟩ => by simp [startS] at ho
  glob:=fun g => by
    have h3:laidMet Tryz.prog _ w:=h.tail.tail.tail
    match g with
    | 0 => exact .inr (glob_err g0 t0 h3.tail)
    | 1 => exact .inr (glob_err g1 t1 h3)
    | 2 => exact .inl rfl
    | 3 => exact .inr (glob_pow (Lib.tabIs_of_head g3 t3 Tryz.underlying300 Tryz.underlying240 (by kernel_rfl) (by kernel_rfl) h.tail.tail))
    | n + 4 => exact .inl rfl
theorem run_law2 {k:FuncId} {args:List V} {xs:List Value} {w:World} (h:Duo.Call Tryz.prog Tryz.gl2 k args [] (fun v st' => v = .bool true ∧ st' = [])) (hL:laidMet Tryz.prog laidList2 w) (hx:args.length = xs.length ∧ ∀ (i:Nat) (c:V) (x:Value),args[i]? = some c → xs[i]? = some x → PR w (startS w).K c x) :
    Calls Tryz.prog k xs.toArray w fun e w' => e = .returned (.bool true) ∧ Below w.heap.size w w':=by
  have h1:=callsIn_wide.1 (h w (startS w) xs rfl (start2 hL) ⟨hx.1,fun i c x hc hx' => .pure _ _ (hx.2 i c x hc hx')⟩)
  refine h1.mono ?_
  rintro e w' ⟨v,x,s',rfl,_,hE,hr,rfl,_⟩
  exact ⟨by rw [hr.bool_inv],below_start hE⟩
theorem c4:Tryz.prog.cellsOf 4 = 1:=by kernel_rfl
theorem c5:Tryz.prog.cellsOf 5 = 1:=by kernel_rfl
noncomputable def low:Nat:=(World.holding Tryz.prog default ⟨#[],#[],[]⟩).heap.size
abbrev synS:ByteArray:={ data:=#[105,110,118,97,108,105,100,32,115,121,110,116,97,120] }
abbrev rngS:ByteArray:={ data:=#[118,97,108,117,101,32,111,117,116,32,111,102,32,114,97,110,103,101] }
noncomputable def laidWorld2 (os:Os):World :=
  let w0:=World.holding Tryz.prog os ⟨#[.cells #[.string synS] 297,.cells #[.string rngS] 297],#[],[]⟩
  { w0 with heap:=((((w0.heap.modify 0 fun
      | .cells _ t frozen => .cells #[.iface 295 (.pointer (some ⟨low,0,none⟩))] t frozen
      | o => o).modify 1 fun
      | .cells _ t frozen => .cells #[.iface 295 (.pointer (some ⟨low + 1,0,none⟩))] t frozen
      | o => o).modify 3 fun
      | .cells _ t frozen => .cells (litCells Rows.laid_internal_strconv_uint64pow10) t frozen
      | o => o).modify 4 fun
      | .cells _ t frozen => .cells (litCells Rows.laid_math_bits_deBruijn32tab) t frozen
      | o => o).modify 5 fun
      | .cells _ t frozen => .cells (litCells Rows.laid_math_bits_deBruijn64tab) t frozen
      | o => o }
theorem laidWorld2_met (os:Os) (args:Array Value):laidMet Tryz.prog laidList2 ((laidWorld2 os).forCall (fun _ _ => 0) ⟨#[],args,[]⟩).memory :=
  laidMet_of_run' 8 (by kernel_rfl) (by kernel_rfl)
end Go.Proofs.YtdlcnihacaboiaaGreatDoor

set_option maxRecDepth 100000
namespace Go.Proofs.YtdlcnihacaboiaaGreatDoor
open Go Go.Duo Go.ChangeShapes Go.WideShapes Go.ChangeAt Go.RowKit
theorem mk137 (t:Pm):mkV Tryz.prog 137 (encPm t).cells = encPm t:=by unfold mkV;rw [Tryz.underlying137];rfl
theorem mk134 (t:Df):mkV Tryz.prog 134 (encDf t).cells = encDf t:=by unfold mkV;rw [Tryz.underlying134];rfl
theorem c48:Tryz.prog.cellsOf 48 = 13:=by kernel_rfl
theorem c137:Tryz.prog.cellsOf 137 = 7:=by kernel_rfl
theorem c134:Tryz.prog.cellsOf 134 = 14:=by kernel_rfl
theorem c46:Tryz.prog.cellsOf 46 = 1:=by kernel_rfl
theorem c132:Tryz.prog.cellsOf 132 = 1:=by kernel_rfl
theorem pm_of {n:Nat} {vs:List V} (h:Has Tryz.prog n 137 vs):∃ x:Pm,vs = (encPm x).cells ∧ (inS x.name ∧ okT x.t):=by
  cases n with
  | zero => exact h.elim
  | succ n =>
    simp only [Has,Tryz.underlying137] at h
    obtain ⟨hl,hf⟩:=h
    rw [c137] at hl
    obtain ⟨k1,k2,k3,k4,k5,k6,k7⟩:=c1s
    simp only [List.mem_cons,List.not_mem_nil,or_false,forall_eq_or_imp,forall_eq,k3,c26] at hf
    obtain ⟨f1,f2⟩:=hf
    obtain ⟨x1,e1,o1⟩:=hasS f1
    obtain ⟨x2,e2,o2⟩:=(ty_of n _).1 f2
    refine ⟨⟨x1,x2⟩, ?_,o1,o2⟩
    have hv:vs = (vs.drop 0).take 1 ++ (vs.drop 1).take 6:=by
      have h7:(vs.drop 1).take 6 = vs.drop 1:=List.take_of_length_le (by rw [List.length_drop];omega)
      rw [h7,List.drop_zero,List.take_append_drop]
    rw [hv,e1,e2];rfl
theorem df_of {n:Nat} {vs:List V} (h:Has Tryz.prog n 134 vs):∃ x:Df,vs = (encDf x).cells ∧ (inS x.name ∧ okP x.body ∧ inL x.params ∧ ∀ y ∈ x.params,inS y.name ∧ okT y.t):=by
  cases n with
  | zero => exact h.elim
  | succ n =>
    simp only [Has,Tryz.underlying134] at h
    obtain ⟨hl,hf⟩:=h
    rw [c134] at hl
    obtain ⟨k1,k2,k3,k4,k5,k6,k7⟩:=c1s
    simp only [List.mem_cons,List.not_mem_nil,or_false,forall_eq_or_imp,forall_eq,k3,c132,c29] at hf
    obtain ⟨f1,f2,f3⟩:=hf
    obtain ⟨x1,e1,o1⟩:=hasS f1
    obtain ⟨x3,e3,o3⟩:=(pr_of n _).1 f3
    have h2:∃ l:List Pm,(vs.drop 1).take 1 = [.sl (l.map encPm) none] ∧ inL l ∧ ∀ y ∈ l,inS y.name ∧ okT y.t:=by
      cases n with
      | zero => exact f2.elim
      | succ n => exact rows_of encPm (fun y => inS y.name ∧ okT y.t) Tryz.underlying132 mk137 (fun cs hc => pm_of hc) f2
    obtain ⟨x2,e2,o2,o2'⟩:=h2
    refine ⟨⟨x1,x2,x3⟩, ?_,o1,o3,o2,o2'⟩
    have hv:vs = (vs.drop 0).take 1 ++ ((vs.drop 1).take 1 ++ (vs.drop 2).take 12):=by
      have h7:(vs.drop 2).take 12 = vs.drop 2:=List.take_of_length_le (by rw [List.length_drop];omega)
      have st:∀ a b:Nat,(vs.drop a).take b ++ vs.drop (a + b) = vs.drop a:=fun a b => by rw [← List.drop_drop,List.take_append_drop]
      rw [h7,st 1 1,st 0 1,List.drop_zero]
    rw [hv,e1,e2,e3];rfl
theorem pg_of (n:Nat) (vs:List V) (h:Has Tryz.prog n 48 vs):∃ p:Pg,vs = (encPg p).cells ∧ okPg p:=by
  cases n with
  | zero => exact h.elim
  | succ n =>
    simp only [Has,Tryz.underlying48] at h
    obtain ⟨hl,hf⟩:=h
    rw [c48] at hl
    obtain ⟨k1,k2,k3,k4,k5,k6,k7⟩:=c1s
    simp only [List.mem_cons,List.not_mem_nil,or_false,forall_eq_or_imp,forall_eq,c46,c29] at hf
    obtain ⟨f1,f2⟩:=hf
    obtain ⟨x2,e2,o2⟩:=(pr_of n _).1 f2
    have h2:∃ l:List Df,(vs.drop 0).take 1 = [.sl (l.map encDf) none] ∧ inL l ∧ ∀ x ∈ l,(inS x.name ∧ okP x.body ∧ inL x.params ∧ ∀ y ∈ x.params,inS y.name ∧ okT y.t):=by
      cases n with
      | zero => exact f1.elim
      | succ n => exact rows_of encDf _ Tryz.underlying46 mk134 (fun cs hc => df_of hc) f1
    obtain ⟨x1,e1,o1,o1'⟩:=h2
    refine ⟨⟨x1,x2⟩, ?_,o2,o1,o1'⟩
    have hv:vs = (vs.drop 0).take 1 ++ (vs.drop 1).take 12:=by
      have h7:(vs.drop 1).take 12 = vs.drop 1:=List.take_of_length_le (by rw [List.length_drop];omega)
      rw [h7,List.drop_zero,List.take_append_drop]
    rw [hv,e1,e2];rfl
theorem flat137:∀ n,flatT Tryz.prog n 137 = true
  | 0 => rfl
  | n + 1 => flat_st Tryz.underlying137 (by kernel_rfl) (by
      simp only [List.mem_cons,List.not_mem_nil,or_false,forall_eq_or_imp,forall_eq]
      exact ⟨flat9 n,(flat26 n).1⟩)
theorem flat132:∀ n,flatT Tryz.prog n 132 = true
  | 0 => rfl
  | n + 1 => flat_sl Tryz.underlying132 (by rw [Tryz.underlying137]) (flat137 n)
theorem flat134:∀ n,flatT Tryz.prog n 134 = true
  | 0 => rfl
  | n + 1 => flat_st Tryz.underlying134 (by kernel_rfl) (by
      simp only [List.mem_cons,List.not_mem_nil,or_false,forall_eq_or_imp,forall_eq]
      exact ⟨flat9 n,flat132 n,(flat29 n).1⟩)
theorem flat46:∀ n,flatT Tryz.prog n 46 = true
  | 0 => rfl
  | n + 1 => flat_sl Tryz.underlying46 (by rw [Tryz.underlying134]) (flat134 n)
theorem flat48:∀ n,flatT Tryz.prog n 48 = true
  | 0 => rfl
  | n + 1 => flat_st Tryz.underlying48 (by kernel_rfl) (by
      simp only [List.mem_cons,List.not_mem_nil,or_false,forall_eq_or_imp,forall_eq]
      exact ⟨flat46 n,(flat29 n).1⟩)
theorem mkI (n:Int):mkV Tryz.prog 3 (encI n).cells = encI n:=by unfold mkV;rw [Tryz.underlying3];rfl
theorem scr_of (n:Nat) (vs:List V) (h:Has Tryz.prog n 49 vs):∃ l:List Int,vs = [.sl (l.map encI) none] ∧ inL l ∧ ∀ x ∈ l,inI x:=by
  cases n with
  | zero => exact h.elim
  | succ n => exact rows_of encI inI Tryz.underlying49 mkI (fun cs hc => by obtain ⟨k,rfl,hk⟩:=hasI Tryz.underlying3 hc;exact ⟨k,rfl,hk⟩) h
theorem flat49:∀ n,flatT Tryz.prog n 49 = true
  | 0 => rfl
  | n + 1 => flat_sl Tryz.underlying49 (by rw [Tryz.underlying3];kernel_rfl) (flat_i Tryz.underlying3 n)
end Go.Proofs.YtdlcnihacaboiaaGreatDoor
