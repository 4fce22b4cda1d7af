/-
  A part of the proof.
-/
import Derived.Test.YtdlcnihacaboiaaGreatDoorRows
import Derived.Test.YtdlcnihacaboiaaGreatDoorSubLib
import Derived.Test.YtdlcnihacaboiaaGreatDoorGK
import Derived.Test.YtdlcnihacaboiaaGreatDoorGI
import Derived.WalkKit
import Derived.ProofKit
import Derived.OpenShut
import Derived.ShutString
import Derived.ChangeOld
import Derived.Below
import Derived.Carry
import Derived.SizedLaws
import Derived.ChangeSame
import Derived.ChangeVars
import Derived.JoinedOf
import Derived.LaidLaws
import Derived.Stop.LaidErr
import Derived.Lib.LaidTab
import Derived.RowKit
set_option linter.all false
set_option maxRecDepth 100000
namespace Go.Proofs.YtdlcnihacaboiaaGreatDoor
open Go Go.Duo Go.ChangeShapes Go.WideShapes Go.ChangeAt Go.RowKit
theorem own:ownKnob Tryz.prog.godebug = none:=by kernel_rfl
theorem laidOut:laidOutB Tryz.prog = true:=by kernel_rfl
def laidList:List (String × DataW Unit):=Rows.substRenamesRow.laid
theorem g3:Tryz.prog.globalNamed "internal/strconv.uint64pow10" = some 3:=by kernel_rfl
theorem t3:(Tryz.prog.globals[3]?).map (·.type) = some 300:=by kernel_rfl
def startS (w:World):S:={ K:=fun b _ => b < w.heap.size,g:=[],st:=[] }
theorem whole_of {w:World} {n:String} {g:Nat} {cs:Array Value} (hg:Tryz.prog.globalNamed n = some g) (h:w.var? Tryz.prog n = some cs):Whole w g cs.size:=by
  unfold World.var? at h
  rw [hg] at h
  simp only [Option.bind_some] at h
  split at h
  · rename_i c t fr hb
    cases h
    exact ⟨_,_,_,hb,rfl⟩
  · cases h
theorem glob_pow {w:World} (h:Lib.TabIs Tryz.prog w "internal/strconv.uint64pow10" .u64 Lib.pow10Tab) :
    PR w (startS w).K (.dptr (Lib.pow10Tab.map (.int .u64))) (.pointer (some ⟨3,0,none⟩)) ∧ (startS w).K 3 0 ∧ Whole w 3 (Lib.pow10Tab.map (V.int .u64)).length:=by
  have hw:=whole_of g3 h
  refine ⟨.dptr _ 3 0 (fun j => .int .u64 (Lib.pow10Tab.getD j 0)) (fun j c hj => ?_) (fun j c hj => ?_),hw.lt, ?_⟩
  · have hj':j < Lib.pow10Tab.length:=by have:=(List.getElem?_eq_some_iff.1 hj).1;simpa using this
    exact ⟨by rw [Nat.zero_add];exact h.cell g3 j hj',hw.lt⟩
  · have hj':j < Lib.pow10Tab.length:=by have:=(List.getElem?_eq_some_iff.1 hj).1;simpa using this
    rw [List.getElem?_map,List.getElem?_eq_getElem hj'] at hj
    simp at hj
    subst hj
    rw [List.getD_eq_getElem?_getD,List.getElem?_eq_getElem hj']
    exact .int _ _
  · have:=hw;simpa using this
theorem start {w:World} (h:laidMet Tryz.prog laidList w):Sim Tryz.prog Tryz.gl w (startS w) where
  len:=rfl
  obj:=fun i o g ho => by simp [startS] at ho
  inj:=fun i j b ⟨o,_,ho,_⟩ => by simp [startS] at ho
  kout:=fun i b o ob ⟨o',_,ho,_⟩ => by simp [startS] at ho
  kin:=fun b o h => h
  fgn:=fun b ⟨i,xs,k,l,go,F,J,Jx,ho,_⟩ => by simp [startS] at ho
  glob:=fun g => by
    match g with
    | 0 => exact .inl rfl
    | 1 => exact .inl rfl
    | 2 => exact .inl rfl
    | 3 => exact .inr (glob_pow (Lib.tabIs_of_head g3 t3 Tryz.underlying300 Tryz.underlying240 (by kernel_rfl) (by kernel_rfl) h.tail.tail))
    | n + 4 => exact .inl rfl
theorem below_start {w w':World} {s':S} (h:Evolve w (startS w) w' s'):Below w.heap.size w w' :=
  ⟨h.os,h.tape,h.output,h.size,fun k hk => h.block k hk (fun ⟨i,o,_,ho,_⟩ => by simp [startS] at ho) (fun ⟨i,xs,k,l,go,F,J,Jx,ho,_⟩ => by simp [startS] at ho)⟩
theorem wfI {n:Int} (h:(Lit.int .i64 n).wf = true):inI n:=by
  simp only [Lit.wf,Bool.and_eq_true,decide_eq_true_eq] at h
  exact ⟨h.1,h.2⟩
theorem hasI {t:TypeId} (hu:Tryz.prog.underlying t = some (.int .i64)) {n:Nat} {vs:List V} (h:Has Tryz.prog n t vs):∃ k,vs = [.int .i64 k] ∧ inI k:=by
  cases n with
  | zero => exact h.elim
  | succ n =>
    simp only [Has,hu] at h
    obtain ⟨k,rfl,hk⟩:=h
    exact ⟨k,rfl,wfI hk⟩
theorem hasS {n:Nat} {vs:List V} (h:Has Tryz.prog n 9 vs):∃ s,vs = [.str s] ∧ inS s:=by
  cases n with
  | zero => exact h.elim
  | succ n =>
    simp only [Has,Tryz.underlying9] at h
    obtain ⟨k,rfl,hk⟩:=h
    exact ⟨k,rfl,hk⟩
theorem rows_of {α:Type} (enc:α → V) (ok:α → Prop) {n:Nat} {t e:TypeId} (hu:Tryz.prog.underlying t = some (.slice e)) (hmk:∀ a,mkV Tryz.prog e (enc a).cells = enc a)
    (h:∀ cs,Has Tryz.prog n e cs → ∃ a,cs = (enc a).cells ∧ ok a) {vs:List V} (hv:Has Tryz.prog (n + 1) t vs):∃ l:List α,vs = [.sl (l.map enc) none] ∧ inL l ∧ ∀ x ∈ l,ok x:=by
  simp only [Has,hu] at hv
  obtain ⟨es,rfl,hlen,hes⟩:=hv
  have key:∀ es:List V,(∀ el ∈ es,∃ cs,el = mkV Tryz.prog e cs ∧ cs.length = Tryz.prog.cellsOf e ∧ Has Tryz.prog n e cs) → ∃ l:List α,es = l.map enc ∧ ∀ x ∈ l,ok x:=by
    intro es
    induction es with
    | nil => intro _;exact ⟨[],rfl,by simp⟩
    | cons el es ih =>
      intro hes
      obtain ⟨l,hl,hok⟩:=ih fun x hx => hes x (List.mem_cons_of_mem _ hx)
      obtain ⟨cs,he,_,hh⟩:=hes el (List.mem_cons_self ..)
      obtain ⟨a,rfl,ha⟩:=h cs hh
      rw [hmk] at he
      exact ⟨a :: l,by rw [he,hl];rfl,fun x hx => by rcases List.mem_cons.1 hx with rfl | hx;exact ha;exact hok x hx⟩
  obtain ⟨l,rfl,hok⟩:=key es hes
  exact ⟨l,rfl,by unfold inL;rw [List.length_map] at hlen;exact hlen,hok⟩
theorem mk9 (s:Str):mkV Tryz.prog 9 (V.str s).cells = V.str s:=by unfold mkV;rw [Tryz.underlying9];rfl
theorem mk26 (t:Ty):mkV Tryz.prog 26 (encT t).cells = encT t:=by unfold mkV;rw [Tryz.underlying26];exact encT_cells t
theorem mk36 (t:Vl):mkV Tryz.prog 36 (encV t).cells = encV t:=by unfold mkV;rw [Tryz.underlying36];rfl
theorem mk29 (t:Pr):mkV Tryz.prog 29 (encP t).cells = encP t:=by unfold mkV;rw [Tryz.underlying29];exact encP_cells t
theorem c26:Tryz.prog.cellsOf 26 = 6:=by kernel_rfl
theorem c29:Tryz.prog.cellsOf 29 = 12:=by kernel_rfl
theorem c36:Tryz.prog.cellsOf 36 = 3:=by kernel_rfl
theorem c1s:Tryz.prog.cellsOf 3 = 1 ∧ Tryz.prog.cellsOf 2 = 1 ∧ Tryz.prog.cellsOf 9 = 1 ∧ Tryz.prog.cellsOf 22 = 1 ∧ Tryz.prog.cellsOf 23 = 1 ∧ Tryz.prog.cellsOf 24 = 1 ∧ Tryz.prog.cellsOf 27 = 1:=by
  refine ⟨?_, ?_, ?_, ?_, ?_, ?_, ?_⟩ <;> kernel_rfl
theorem labels_of {n:Nat} {vs:List V} (h:Has Tryz.prog n 22 vs):∃ l:List Str,vs = [.sl (l.map .str) none] ∧ inL l ∧ ∀ x ∈ l,inS x:=by
  cases n with
  | zero => exact h.elim
  | succ n => exact rows_of V.str inS Tryz.underlying22 mk9 (fun cs hc => by obtain ⟨s,rfl,hs⟩:=hasS hc;exact ⟨s,rfl,hs⟩) h
theorem six {l:List V} (h:l.length = 6):∃ a b c d e f,l = [a,b,c,d,e,f]:=by
  rcases l with _ | ⟨a,_ | ⟨b,_ | ⟨c,_ | ⟨d,_ | ⟨e,_ | ⟨f,_ | ⟨x,l⟩⟩⟩⟩⟩⟩⟩ <;> simp at h
  exact ⟨a,b,c,d,e,f,rfl⟩
theorem three {l:List V} (h:l.length = 3):∃ a b c,l = [a,b,c]:=by
  rcases l with _ | ⟨a,_ | ⟨b,_ | ⟨c,_ | ⟨x,l⟩⟩⟩⟩ <;> simp at h
  exact ⟨a,b,c,rfl⟩
theorem ty_of:∀ (n:Nat) (vs:List V),(Has Tryz.prog n 26 vs → ∃ t:Ty,vs = (encT t).cells ∧ okT t) ∧ (Has Tryz.prog n 24 vs → ∃ l:List Ty,vs = [.sl (l.map encT) none] ∧ inL l ∧ ∀ t ∈ l,okT t):=by
  intro n;induction n with
  | zero => exact fun vs => ⟨fun h => h.elim,fun h => h.elim⟩
  | succ n ih =>
    intro vs
    refine ⟨fun h => ?_,fun h => rows_of encT okT Tryz.underlying24 mk26 (fun cs hc => (ih cs).1 hc) h⟩
    simp only [Has,Tryz.underlying26] at h
    obtain ⟨hl,hf⟩:=h
    rw [c26] at hl
    obtain ⟨a,b,c,d,e,f,rfl⟩:=six hl
    obtain ⟨k1,k2,k3,k4,k5,k6,k7⟩:=c1s
    simp only [List.mem_cons,List.not_mem_nil,or_false,forall_eq_or_imp,forall_eq,k1,k2,k3,k4,k6,List.drop_zero,List.drop_succ_cons,List.take_succ_cons,List.take_zero] at hf
    obtain ⟨f1,f2,f3,f4,f5,f6⟩:=hf
    obtain ⟨x1,e1,o1⟩:=hasI Tryz.underlying3 f1
    obtain ⟨x2,e2,o2⟩:=hasI Tryz.underlying3 f2
    obtain ⟨x3,e3,o3⟩:=hasS f3
    obtain ⟨x4,e4,o4⟩:=hasI Tryz.underlying3 f4
    obtain ⟨x5,e5,o5⟩:=labels_of f5
    obtain ⟨x6,e6,o6⟩:=(ih _).2 f6
    simp only [List.cons.injEq,and_true] at e1 e2 e3 e4 e5 e6
    subst e1 e2 e3 e4 e5 e6
    exact ⟨.mk x1 x2 x3 x4 x5 x6,by rw [encT_mk];rfl,(okT_iff _).2 ⟨o1,o2,o3,o4,o5,o6.1,o6.2⟩⟩
theorem vl_of {n:Nat} {vs:List V} (h:Has Tryz.prog n 36 vs):∃ x:Vl,vs = (encV x).cells ∧ okV x:=by
  cases n with
  | zero => exact h.elim
  | succ n =>
    simp only [Has,Tryz.underlying36] at h
    obtain ⟨hl,hf⟩:=h
    rw [c36] at hl
    obtain ⟨a,b,c,rfl⟩:=three hl
    obtain ⟨k1,k2,k3,k4,k5,k6,k7⟩:=c1s
    simp only [List.mem_cons,List.not_mem_nil,or_false,forall_eq_or_imp,forall_eq,k1,k2,k3,List.drop_zero,List.drop_succ_cons,List.take_succ_cons,List.take_zero] at hf
    obtain ⟨f1,f2,f3⟩:=hf
    obtain ⟨x1,e1,o1⟩:=hasI Tryz.underlying3 f1
    obtain ⟨x2,e2,o2⟩:=hasS f2
    obtain ⟨x3,e3,o3⟩:=hasI Tryz.underlying2 f3
    simp only [List.cons.injEq,and_true] at e1 e2 e3
    subst e1 e2 e3
    exact ⟨⟨x1,x2,x3⟩,rfl,o1,o2,o3⟩
theorem args_of {n:Nat} {vs:List V} (h:Has Tryz.prog n 23 vs):∃ l:List Vl,vs = [.sl (l.map encV) none] ∧ inL l ∧ ∀ x ∈ l,okV x:=by
  cases n with
  | zero => exact h.elim
  | succ n => exact rows_of encV okV Tryz.underlying23 mk36 (fun cs hc => vl_of hc) h
theorem pr_of:∀ (n:Nat) (vs:List V),(Has Tryz.prog n 29 vs → ∃ t:Pr,vs = (encP t).cells ∧ okP t) ∧ (Has Tryz.prog n 27 vs → ∃ l:List Pr,vs = [.sl (l.map encP) none] ∧ inL l ∧ ∀ t ∈ l,okP t):=by
  intro n;induction n with
  | zero => exact fun vs => ⟨fun h => h.elim,fun h => h.elim⟩
  | succ n ih =>
    intro vs
    refine ⟨fun h => ?_,fun h => rows_of encP okP Tryz.underlying27 mk29 (fun cs hc => (ih cs).1 hc) h⟩
    simp only [Has,Tryz.underlying29] at h
    obtain ⟨hl,hf⟩:=h
    rw [c29] at hl
    obtain ⟨k1,k2,k3,k4,k5,k6,k7⟩:=c1s
    simp only [List.mem_cons,List.not_mem_nil,or_false,forall_eq_or_imp,forall_eq,k1,k2,k3,k4,k5,k6,k7,c26] at hf
    obtain ⟨f1,f2,f3,f4,f5,f6,f7⟩:=hf
    obtain ⟨x1,e1,o1⟩:=hasI Tryz.underlying3 f1
    obtain ⟨x2,e2,o2⟩:=hasS f2
    obtain ⟨x3,e3,o3⟩:=hasS f3
    obtain ⟨x4,e4,o4⟩:=labels_of f4
    obtain ⟨x5,e5,o5⟩:=args_of f5
    obtain ⟨x6,e6,o6⟩:=(ty_of n _).1 f6
    obtain ⟨x7,e7,o7⟩:=(ih _).2 f7
    refine ⟨.mk x1 x2 x3 x4 x5 x6 x7, ?_,(okP_iff _).2 ⟨o1,o2,o3,o4,o5,o6,o7.1,o7.2⟩⟩
    have hv:vs = (vs.drop 0).take 1 ++ ((vs.drop 1).take 1 ++ ((vs.drop 2).take 1 ++ ((vs.drop 3).take 1 ++ ((vs.drop 4).take 1 ++ ((vs.drop 5).take 6 ++ (vs.drop 11).take 1))))):=by
      have h7:(vs.drop 11).take 1 = vs.drop 11:=List.take_of_length_le (by rw [List.length_drop];omega)
      have st:∀ a b:Nat,(vs.drop a).take b ++ vs.drop (a + b) = vs.drop a:=fun a b => by rw [← List.drop_drop,List.take_append_drop]
      rw [h7,st 5 6,st 4 1,st 3 1,st 2 1,st 1 1,st 0 1,List.drop_zero]
    rw [hv,e1,e2,e3,e4,e5,e6,e7,encP_mk];rfl
theorem flat_st {n:Nat} {t:TypeId} {fs:Array Field} (hu:Tryz.prog.underlying t = some (.struct fs)) (ht:(tiled Tryz.prog 0 fs.toList == some (Tryz.prog.cellsOf t)) = true) (h:∀ f ∈ fs.toList,flatT Tryz.prog n f.type = true):flatT Tryz.prog (n + 1) t = true:=by
  rw [flatT,hu]
  simp only [Bool.and_eq_true,List.all_eq_true]
  exact ⟨h,ht⟩
theorem flat_sl {n:Nat} {t e:TypeId} (hu:Tryz.prog.underlying t = some (.slice e)) (he:(match Tryz.prog.underlying e with | some (.struct _) => true | _ => Tryz.prog.cellsOf e == 1) = true) (h:flatT Tryz.prog n e = true):flatT Tryz.prog (n + 1) t = true:=by
  rw [flatT,hu]
  simp only [Bool.and_eq_true]
  exact ⟨h,he⟩
theorem flat_i {t:TypeId} {k:IntKind} (hu:Tryz.prog.underlying t = some (.int k)):∀ n,flatT Tryz.prog n t = true
  | 0 => rfl
  | n + 1 => by rw [flatT,hu]
theorem flat9:∀ n,flatT Tryz.prog n 9 = true
  | 0 => rfl
  | n + 1 => by rw [flatT,Tryz.underlying9]
theorem flat22:∀ n,flatT Tryz.prog n 22 = true
  | 0 => rfl
  | n + 1 => flat_sl Tryz.underlying22 (by rw [Tryz.underlying9];kernel_rfl) (flat9 n)
theorem flat26:∀ n,flatT Tryz.prog n 26 = true ∧ flatT Tryz.prog n 24 = true
  | 0 => ⟨rfl,rfl⟩
  | n + 1 => ⟨flat_st Tryz.underlying26 (by kernel_rfl) (by
      simp only [List.mem_cons,List.not_mem_nil,or_false,forall_eq_or_imp,forall_eq]
      exact ⟨flat_i Tryz.underlying3 n,flat_i Tryz.underlying3 n,flat9 n,flat_i Tryz.underlying3 n,flat22 n,(flat26 n).2⟩),flat_sl Tryz.underlying24 (by rw [Tryz.underlying26]) (flat26 n).1⟩
theorem flat36:∀ n,flatT Tryz.prog n 36 = true
  | 0 => rfl
  | n + 1 => flat_st Tryz.underlying36 (by kernel_rfl) (by
      simp only [List.mem_cons,List.not_mem_nil,or_false,forall_eq_or_imp,forall_eq]
      exact ⟨flat_i Tryz.underlying3 n,flat9 n,flat_i Tryz.underlying2 n⟩)
theorem flat23:∀ n,flatT Tryz.prog n 23 = true
  | 0 => rfl
  | n + 1 => flat_sl Tryz.underlying23 (by rw [Tryz.underlying36]) (flat36 n)
theorem flat29:∀ n,flatT Tryz.prog n 29 = true ∧ flatT Tryz.prog n 27 = true
  | 0 => ⟨rfl,rfl⟩
  | n + 1 => ⟨flat_st Tryz.underlying29 (by kernel_rfl) (by
      simp only [List.mem_cons,List.not_mem_nil,or_false,forall_eq_or_imp,forall_eq]
      exact ⟨flat_i Tryz.underlying3 n,flat9 n,flat9 n,flat22 n,flat23 n,(flat26 n).1,(flat29 n).2⟩),flat_sl Tryz.underlying27 (by rw [Tryz.underlying29]) (flat29 n).1⟩
def litCells:DataW Unit → Array Value
  | .agg l => (l.map fun d => match d with | .lit (.int k n) => Value.int k n | _ => .nilIface).toArray
  | _ => #[]
end Go.Proofs.YtdlcnihacaboiaaGreatDoor
