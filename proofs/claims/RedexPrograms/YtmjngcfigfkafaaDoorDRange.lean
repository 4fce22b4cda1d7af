/-
  A part of the proof.
-/
import Derived.Test.YtmjngcfigfkafaaDoorFrz
import Derived.RangeFuncIn
set_option linter.all false
namespace Go.Duo
open Go
section
variable {P : Program} {gl : Nat → V} {r : Option Nat} {e : Env} {st : List O} {w w' : World} {s : S} {Q : Exit → Env → List O → Prop}
/-- More may be known of cells. -/
theorem Rep.reK {K' : Nat → Nat → Prop} (hk : Keeps w s.K w' K') {v : V} {x : Value} (h : Rep w s v x) : Rep w' { s with K := K' } v x := by
  induction h with
  | pure v x hp => exact .pure v x (hp.keeps hk)
  | undef x => exact .undef x
  | agg cs xs hl _ ih => exact .agg cs xs hl ih
  | tuple cs xs hl _ ih => exact .tuple cs xs hl ih
  | func fn fs cs xs ys hl hl' _ _ ih ih' => exact .func fn fs cs xs ys hl hl' ih ih'
  | iface t v x _ ih => exact .iface t v x ih
  | tok es id x hp ht => exact .tok es id x (hp.keeps hk) ht
  | ref id ver x h1 hr => exact .ref id ver x h1 hr
  | ptr id off b hb => exact .ptr id off b hb
  | rptr id ver off x h1 hr => exact .rptr id ver off x h1 hr
  | map id b hb => exact .map id b hb
  | yld id l F J Jx hb => exact .yld id l F J Jx hb
theorem ObjOK.reK {K' : Nat → Nat → Prop} (hk : Keeps w s.K w' K') {o : O} {g : Gh} (hos : w'.os = w.os) (htape : w'.tape = w.tape) (hout : w'.output = w.output) (hsize : w.heap.size ≤ w'.heap.size)
    (hb : o.lives = true → ∀ b, g.at = some b → w'.heap[b]? = w.heap[b]?)
    (hF : ∀ l F J Jx xs i go, g = .yl l F J Jx → o = .yld xs i go → (∀ b, F b → w'.heap[b]? = w.heap[b]?) ∧ (∀ b o, K' b o → s.K b o ∨ (l < b ∧ ¬ F b)) ∧ (∀ b, b ≤ l → w'.heap[b]? = w.heap[b]?) ∧ (∀ b o, K' b o → b < w'.heap.size))
    (h : ObjOK P w s o g) : ObjOK P w' { s with K := K' } o g := by
  cases o <;> cases g <;> simp only [ObjOK] at h ⊢
  · obtain ⟨arr, ha, hl, hr⟩ := h
    exact ⟨arr, (hb rfl _ rfl).trans ha, hl, fun i c x hc hx => (hr i c x hc hx).reK hk⟩
  · obtain ⟨es, clock, ha, h0, hv, h1, h2⟩ := h
    exact ⟨es, clock, (hb rfl _ rfl).trans ha, h0, hv, fun i c e hc he => (h1 i c e hc he).keeps hk, fun i c e hc he => (h2 i c e hc he).keeps hk⟩
  · obtain ⟨xs, h1, h2⟩ := h
    refine ⟨xs, h1, ?_⟩
    rcases h2 with h2 | ⟨g, cap, cur, rfl, h3, h4, h5⟩
    · exact .inl h2
    · exact .inr ⟨g, cap, cur, rfl, h3, (hb rfl g rfl).trans h4, h5⟩
  · obtain ⟨xs, ⟨h1, h2⟩, h6, h7, h8, h9⟩ := h
    refine ⟨xs, ⟨h1, ?_⟩, h6, h7, h8, fun j c y hc hy => (h9 j c y hc hy).keeps hk⟩
    rcases h2 with h2 | ⟨g, cap, cur, rfl, h3, h4, h5⟩
    · exact .inl h2
    · exact .inr ⟨g, cap, cur, rfl, h3, (hb rfl g rfl).trans h4, h5⟩
  · obtain ⟨h1, h2, h3, h4⟩ := h
    obtain ⟨k1, k2, k3, k4⟩ := hF _ _ _ _ _ _ _ rfl rfl
    exact ⟨h2.stable _ _ _ _ _ _ _ h1 k1 hos htape hout hsize hk k2 k3 k4, h2, Nat.lt_of_lt_of_le h3 hsize, h4⟩
def Env.puts (e : Env) (l : List (Nat × V)) : Env := l.foldl (fun e p => e.put (some p.1) p.2) e
theorem ActOK.puts {n0 : Nat} : ∀ (ps : List Nat) (vs : List V) (xs : List Value) (e : Env) (a : Act), ActOK w s n0 e a → (∀ p ∈ ps, p < e.n) → RepL w s vs xs → ActOK w s n0 (e.puts (ps.zip vs)) { a with tmps := (ps.zip xs).foldl (fun t p => t.setIfInBounds p.1 p.2) a.tmps } := by
  intro ps
  induction ps with
  | nil => intro vs xs e a ha _ _; exact ha
  | cons p ps ih =>
    intro vs xs e a ha hp hr
    cases vs with
    | nil =>
      have : xs = [] := List.eq_nil_of_length_eq_zero (by have := hr.1; simp at this; omega)
      subst this
      exact ha
    | cons v vs =>
      cases xs with
      | nil => have := hr.1; simp at this
      | cons x xs =>
        have h1 : ActOK w s n0 (e.put (some p) v) (a.put (some p) x) := ha.put (d := some p) (hp p (by simp)) (hr.2 0 v x rfl rfl)
        exact ih vs xs (e.put (some p) v) (a.put (some p) x) h1 (fun q hq => hp q (by simp [hq])) ⟨by have := hr.1; simpa using this, fun i c y hc hy => hr.2 (i + 1) c y (by simpa using hc) (by simpa using hy)⟩
/-- What the owner of the loop bears from round to round. -/
def RJ (P : Program) (gl : Nat → V) (w0 : World) (s0 : S) (rc : Loop) (I : List O → Prop) (F : Nat → Prop) (K : Nat → Nat → Prop) (W : World) : Prop :=
  ∃ s' : S, s'.K = K ∧ Sim P gl W s' ∧ Evolve w0 s0 W s' ∧ I s'.st ∧ (∀ b, F b ↔ (s'.mine b ∨ s'.foreign b ∨ b = w0.heap.size ∨ b = w0.heap.size + 1)) ∧
    W.heap[w0.heap.size]? = some (.deferred (some [])) ∧ W.heap[w0.heap.size + 1]? = some (.loop rc) ∧
    (∀ b, b = w0.heap.size ∨ b = w0.heap.size + 1 → ¬ s'.mine b ∧ ¬ s'.foreign b ∧ ∀ o, ¬ K b o)
theorem RJ.stable {w0 : World} {s0 : S} {rc : Loop} {I : List O → Prop} (hs0 : Sim P gl w0 s0) {F : Nat → Prop} {K K' : Nat → Nat → Prop} {W W' : World} (h : RJ P gl w0 s0 rc I F K W) (hF : ∀ b, F b → W'.heap[b]? = W.heap[b]?) (hos : W'.os = W.os) (htape : W'.tape = W.tape) (hout : W'.output = W.output)
    (hsize : W.heap.size ≤ W'.heap.size) (hk : Keeps W K W' K') (hnew : ∀ b o, K' b o → K b o ∨ (w0.heap.size + 1 < b ∧ ¬ F b)) (hold : ∀ b, b ≤ w0.heap.size + 1 → W'.heap[b]? = W.heap[b]?) (hkin : ∀ b o, K' b o → b < W'.heap.size) : RJ P gl w0 s0 rc I F K' W' := by
  obtain ⟨s', rfl, hS, hE, hI, hFi, hD, hl, hno⟩ := h
  have hmF : ∀ b, s'.mine b → F b := fun b hb => (hFi b).2 (.inl hb)
  have hfF : ∀ b, s'.foreign b → F b := fun b hb => (hFi b).2 (.inr (.inl hb))
  have hlate : s'.late (w0.heap.size + 1) := (hs0.late (Nat.le_succ _)).evolve hE hs0.len
  refine ⟨{ s' with K := K' }, rfl, ?_, ?_, hI, hFi, (hold _ (by omega)).trans hD, (hold _ (by omega)).trans hl, fun b hb => ⟨(hno b hb).1, (hno b hb).2.1, fun o hko => ?_⟩⟩
  · refine ⟨hS.len, fun i o g ho hg => ?_, hS.inj, fun i b o ob hi hob hwr hko => ?_, hkin, fun b hb => ⟨Nat.lt_of_lt_of_le (hS.fgn b hb).1 hsize, (hS.fgn b hb).2⟩, fun g => (hS.glob g).imp (fun h => h) fun k => globKeeps hk k⟩
    · refine (hS.obj i o g ho hg).reK hk hos htape hout hsize (fun hlv b hb => hF b (hmF b ⟨i, o, g, ho, hlv, hg, hb⟩)) (fun l F2 J Jx xs k go hg' ho' => ?_)
      subst hg' ho'
      have hll := hlate i xs k l go F2 J Jx ho hg
      have hsub : ∀ b, F2 b → F b := fun b hb => hfF b ⟨i, xs, k, l, go, F2, J, Jx, ho, hg, hb⟩
      refine ⟨fun b hb => hF b (hsub b hb), fun b o hko => ?_, fun b hb => hold b (by omega), hkin⟩
      rcases hnew b o hko with h | ⟨h1, h2⟩
      · exact .inl h
      · exact .inr ⟨by omega, fun hb => h2 (hsub b hb)⟩
    · rcases hnew b o hko with h | ⟨_, h2⟩
      · exact hS.kout i b o ob hi hob hwr h
      · exact h2 (hmF b ⟨i, hi⟩)
  · refine ⟨hos.trans hE.os, htape.trans hE.tape, hout.trans hE.output, Nat.le_trans hE.size hsize, hE.keeps.trans hk, fun b o hko => ?_, fun b hb hm hf => (hold b (by omega)).trans (hE.block b hb hm hf), hE.len, hE.objs, hE.fresh, hE.noyld⟩
    rcases hnew b o hko with h | ⟨h1, _⟩
    · exact hE.knew b o h
    · exact .inr (.inl (by omega))
  · rcases hnew b o hko with h | ⟨h1, _⟩
    · exact (hno b hb).2.2 o h
    · rcases hb with rfl | rfl <;> omega
theorem Marks.putObj {n0 n : Nat} {ds : List Deferred} {o' : Obj} {rc : Loop} (hn : w.heap[n]? = some (.loop rc)) (hm : Marks w s n0 ds) : Marks (w.putObj n o') s n0 ds := by
  refine ⟨fun d hd => ?_, hm.2⟩
  obtain ⟨r, h1, h2, h3, h4, h5⟩ := hm.1 d hd
  have hne : r ≠ n := fun he => by subst he; rw [hn] at h3; cases h3
  exact ⟨r, h1, h2, (World.putObj_heap_other hne).trans h3, h4, h5⟩
/-- How a round may end. -/
def roundQ (n : Nat) (I : List O → Prop) (X : Code → List O → Prop) : Exit → List O → Prop
  | .normal, st => ∃ k st', n ≤ k ∧ StLe (trimS k st) st' ∧ I st'
  | .ret, st => X .ret st
  | .exit id, st => X (.exit id) st
  | _, _ => False
/-- **A range over a function.** k: the function; xs: what it yields, in order; I: what is known of the objects ahead of round i; X: behind a round that jumps. -/
theorem AW.rangeFn {g : Operand} {ps : Array Tmp} {assign body : Code} {k : FuncId} {fs cs : List V} (xs : List (List V)) (I : Nat → List O → Prop) (X : Code → List O → Prop)
    (hg : e.ev gl g = .func (.func k) fs cs) (hent : ent P k = true) (hpure : ∀ v ∈ fs ++ cs, PureV v ∧ v.bare = v) (hps : ∀ p ∈ ps.toList, p < e.n) (hlen : ∀ x ∈ xs, x.length = ps.size)
    (hcall : Call P gl k (fs ++ [.yld 0] ++ cs) [.yld xs 0 true] (fun _ st' => ∃ i go, st' = [.yld xs i go] ∧ (go = true → i = xs.length)))
    (h0 : I 0 st)
    (hround : ∀ (l i : Nat) (x : List V) (st1 : List O), xs[i]? = some x → I i st1 → AW P gl (some l) assign (fun ex e1 st2 => ex = .normal ∧ AW P gl (some l) body (fun ex _ st3 => roundQ st.length (I (i + 1)) X ex st3) e1 st2) (e.puts (ps.toList.zip x)) st1)
    (hend : ∀ st', I xs.length st' → Q .normal e st') (hjump : ∀ c st', X c st' → AW P gl none c Q e st') : AW P gl none (.rangeFunc g ps assign body) Q e st := by
  intro n0 w s a hn hst hs ha
  subst hst
  refine wpIn_rangeFunc ?_
  intro fn _
  obtain ⟨rec, hrec⟩ : ∃ rec : LoopState → Option Code → Loop, rec = fun st pe => { state := st, pending := pe, fn, tmps := a.tmps, params := ps, assign, body, defers := w.heap.size } := ⟨_, rfl⟩
  obtain ⟨W1, hW1⟩ : ∃ W1, (w.alloc (.deferred (some []))).alloc (.loop (rec .ready none)) = W1 := ⟨_, rfl⟩
  have hK0 : ∀ n : Nat, (fun b o => s.K b o ∨ (b = n ∧ False)) = s.K := fun n => by funext b o; simp
  have hEa := Evolve.alloc hs.wf (w := w) (.deferred (some [])) (fun _ => False)
  have hSa := hs.alloc (.deferred (some [])) (fun _ => False)
  rw [hK0] at hEa hSa
  have hEb := Evolve.alloc hSa.wf (w := w.alloc (.deferred (some []))) (.loop (rec .ready none)) (fun _ => False)
  have hSb := hSa.alloc (.loop (rec .ready none)) (fun _ => False)
  rw [show ({ s with K := s.K } : S).K = s.K from rfl, hK0, hW1] at hEb hSb
  have hSb : Sim P gl W1 s := hSb
  have hE1 : Evolve w s W1 s := hEa.trans hs.len hs.len hEb
  have hsz1 : W1.heap.size = w.heap.size + 2 := by rw [← hW1]; simp
  have hL1 : W1.heap[w.heap.size + 1]? = some (.loop (rec .ready none)) := by
    rw [← hW1]; have := World.alloc_heap_new (w.alloc (.deferred (some []))) (.loop (rec .ready none)); rwa [World.size_alloc] at this
  have hD1 : W1.heap[w.heap.size]? = some (.deferred (some [])) := by
    rw [← hW1]; exact (heap_alloc_old _ _ _ (by simp)).trans (heap_alloc_new w _)
  have hnm : ∀ b, w.heap.size ≤ b → ¬ s.mine b ∧ ¬ s.foreign b ∧ ∀ o, ¬ s.K b o := fun b hb => ⟨fun h => by have := hs.mine_lt h; omega, fun h => by have := (hs.fgn b h).1; omega, fun o h => by have := hs.kin b o h; omega⟩
  -- what the loop owes to the function
  have hYC : YC P xs (w.heap.size + 1) (fun i F K W => RJ P gl w s (rec .ready none) (I i) F K W) (fun i F K W => ∃ c, RJ P gl w s (rec .done (some c)) (X c) F K W) := by
    constructor
    · intro i go F K K' W W' hJ hF hos htape hout hsize hk hnew hold hkin
      cases go with
      | true => exact RJ.stable hs hJ hF hos htape hout hsize hk hnew hold hkin
      | false => obtain ⟨c, hJ⟩ := hJ; exact ⟨c, RJ.stable hs hJ hF hos htape hout hsize hk hnew hold hkin⟩
    · intro i F K W x args hJ hx hxl hpr hkin
      obtain ⟨s', rfl, hS, hE, hI, hFi, hD, hl, hno⟩ := hJ
      have hyrun : (Instr.yield (w.heap.size + 1) args.toArray).run P W = .ok (.round (w.heap.size + 1) fn ((ps.toList.zip args).foldl (fun t p => t.setIfInBounds p.1 p.2) a.tmps) assign body) W := by
        have hxm : x.length = ps.size := hlen x (List.mem_iff_getElem?.2 ⟨i, hx⟩)
        have hne : ¬ (args.length ≠ ps.size) := by omega
        unfold Instr.yield
        simp only [Sem.run_bind, run_getLoop hl, Result.andThen, hrec, List.size_toArray, Sem.run_ite, if_neg hne, Sem.run_pure]
        congr 2
        rw [← Array.foldl_toList, Array.toList_zip]
      refine ⟨fn, _, assign, body, hyrun, ?_⟩
      have hact : ActOK W s' n0 (e.puts (ps.toList.zip x)) { tmps := (ps.toList.zip args).foldl (fun t p => t.setIfInBounds p.1 p.2) a.tmps, defers := [] } := by
        have h1 : ActOK W s' n0 e { a with defers := [] } := ⟨(ha.evolve hE hs.wf).n, (ha.evolve hE hs.wf).get, ⟨by simp, by simp⟩⟩
        exact h1.puts ps.toList x args _ _ hps ⟨hxl, fun j c y hc hy => .pure _ _ (hpr j c y hc hy)⟩
      have hnW : n0 ≤ W.heap.size := Nat.le_trans hn hE.size
      have hllt : w.heap.size + 1 < W.heap.size := (Array.getElem?_eq_some_iff.1 hl).1
      have hlate0 : s.late (w.heap.size + 1) := hs.late (Nat.le_succ _)
      refine roundIn_of_wpIn (F := Fence.wide) trivial ?_
      refine wpIn_mono (hround (w.heap.size + 1) i x s'.st hx hI n0 W s' _ hnW rfl hS hact) fun ex a1 w1 ⟨e1, s1, hS1, hEv1, hA1, hex, hbody⟩ => ?_
      subst hex
      have hback : ∀ {b : Nat}, b < W.heap.size → s1.mine b → s'.mine b := fun hb hm => (hEv1.mine hS.len hm).elim (fun h => h) (fun h => by omega)
      have hbackf : ∀ {b : Nat}, b < W.heap.size → s1.foreign b → s'.foreign b := fun hb hm => (hEv1.foreign hS.len hm).elim (fun h => h) (fun h => by omega)
      have hl1 : w1.heap[w.heap.size + 1]? = some (.loop (rec .ready none)) := (hEv1.block _ hllt (hno _ (.inr rfl)).1 (hno _ (.inr rfl)).2.1).trans hl
      have hD1' : w1.heap[w.heap.size]? = some (.deferred (some [])) := (hEv1.block _ (by omega) (hno _ (.inl rfl)).1 (hno _ (.inl rfl)).2.1).trans hD
      have hE01 := hE.trans hs.len hS.len hEv1
      obtain ⟨kS2, kE2, kK2⟩ := shut (o' := .loop (rec .busy none)) hS1 hE01 hl1 rfl (by simp) (by omega) (fun h => (hno _ (.inr rfl)).1 (hback hllt h)) (fun h => (hno _ (.inr rfl)).2.1 (hbackf hllt h)) (hlate0.evolve hE01 hs.len)
      refine ⟨w1.putObj (w.heap.size + 1) (.loop (rec .busy none)), by rw [run_beginRound hl1 (by rw [hrec]), hrec], ?_⟩
      have hsz2 : (w1.putObj (w.heap.size + 1) (.loop (rec .busy none))).heap.size = w1.heap.size := World.putObj_size
      have hA2 : ActOK (w1.putObj (w.heap.size + 1) (.loop (rec .busy none))) s1 n0 e1 a1 := ⟨hA1.n, fun t => (hA1.get t).ofKeeps kK2, hA1.marks.putObj hl1⟩
      have hn2 : n0 ≤ (w1.putObj (w.heap.size + 1) (.loop (rec .busy none))).heap.size := by rw [hsz2]; exact Nat.le_trans hnW hEv1.size
      obtain ⟨w2, hw2⟩ : ∃ w2, w1.putObj (w.heap.size + 1) (.loop (rec .busy none)) = w2 := ⟨_, rfl⟩
      have hl2 : w2.heap[w.heap.size + 1]? = some (.loop (rec .busy none)) := by
        rw [← hw2]; exact World.putObj_heap_same (by have := (Array.getElem?_eq_some_iff.1 hl1).1; exact this)
      have hoth2 : ∀ b, b ≠ w.heap.size + 1 → w2.heap[b]? = w1.heap[b]? := fun b hb => by rw [← hw2]; exact World.putObj_heap_other hb
      have hos2 : w2.os = w1.os ∧ w2.tape = w1.tape ∧ w2.output = w1.output := by rw [← hw2]; exact ⟨rfl, rfl, rfl⟩
      rw [hw2] at kS2 kE2 kK2 hA2 hsz2 hn2 ⊢
      -- the end of a round
      have fin : ∀ (j : Option Code) (w3 : World) (s3 s5 : S), Sim P gl w3 s3 → Evolve w2 s1 w3 s3 → Sim P gl w3 s5 → Evolve w s w3 s5 → s5.K = s3.K → (∀ b, s5.mine b → s3.mine b) → (∀ b, s5.foreign b → s3.foreign b) → (match j with | none => I (i + 1) s5.st | some c => X c s5.st) →
          ∃ v w4, (Instr.endRound (w.heap.size + 1) j).run P w3 = .ok v w4 ∧ ∃ (F' : Nat → Prop) (K' : Nat → Nat → Prop) (c : Bool), Ending.returned v = .returned (.bool c) ∧
            (if c then (fun i F K W => RJ P gl w s (rec .ready none) (I i) F K W) else (fun i F K W => ∃ c, RJ P gl w s (rec .done (some c)) (X c) F K W)) (i + 1) F' K' w4 ∧ YEv F s'.K W F' K' w4 := by
        intro j w3 s3 s5 hS3 hEv3 hS5 hE05 hK5 hm5 hf5 hI3
        have hl2lt : w.heap.size + 1 < w2.heap.size := (Array.getElem?_eq_some_iff.1 hl2).1
        have hnm1 : ∀ b, b = w.heap.size ∨ b = w.heap.size + 1 → ¬ s1.mine b ∧ ¬ s1.foreign b := fun b hb => ⟨fun h => (hno b hb).1 (hback (by omega) h), fun h => (hno b hb).2.1 (hbackf (by omega) h)⟩
        have hsz12 : w1.heap.size = w2.heap.size := hsz2.symm
        have hnm3 : ∀ b, b = w.heap.size ∨ b = w.heap.size + 1 → ¬ s3.mine b ∧ ¬ s3.foreign b := fun b hb =>
          ⟨fun h => (hEv3.mine hS1.len h).elim (hnm1 b hb).1 (fun h => by omega), fun h => (hEv3.foreign hS1.len h).elim (hnm1 b hb).2 (fun h => by omega)⟩
        have hl3 : w3.heap[w.heap.size + 1]? = some (.loop (rec .busy none)) := (hEv3.block _ hl2lt (hnm1 _ (.inr rfl)).1 (hnm1 _ (.inr rfl)).2).trans hl2
        have hD3 : w3.heap[w.heap.size]? = some (.deferred (some [])) := ((hEv3.block _ (by omega) (hnm1 _ (.inl rfl)).1 (hnm1 _ (.inl rfl)).2).trans (hoth2 _ (by omega))).trans hD1'
        obtain ⟨kS4, kE4, kK4⟩ := shut (o' := .loop (rec (if j.isNone then .ready else .done) j)) hS5 hE05 hl3 rfl (by simp) (by omega) (fun h => (hnm3 _ (.inr rfl)).1 (hm5 _ h)) (fun h => (hnm3 _ (.inr rfl)).2 (hf5 _ h)) (hlate0.evolve hE05 hs.len)
        have hsz4 : (w3.putObj (w.heap.size + 1) (.loop (rec (if j.isNone then .ready else .done) j))).heap.size = w3.heap.size := World.putObj_size
        have hl4 : (w3.putObj (w.heap.size + 1) (.loop (rec (if j.isNone then .ready else .done) j))).heap[w.heap.size + 1]? = some (.loop (rec (if j.isNone then .ready else .done) j)) := World.putObj_heap_same (Array.getElem?_eq_some_iff.1 hl3).1
        have hoth4 : ∀ b, b ≠ w.heap.size + 1 → (w3.putObj (w.heap.size + 1) (.loop (rec (if j.isNone then .ready else .done) j))).heap[b]? = w3.heap[b]? := fun b hb => World.putObj_heap_other hb
        refine ⟨.bool j.isNone, w3.putObj (w.heap.size + 1) (.loop (rec (if j.isNone then .ready else .done) j)), by rw [run_endRound j hl3, hrec], fun b => s5.mine b ∨ s5.foreign b ∨ b = w.heap.size ∨ b = w.heap.size + 1, s5.K, j.isNone, rfl, ?_, ?_⟩
        · have hRJ : ∀ (I' : List O → Prop), I' s5.st → RJ P gl w s (rec (if j.isNone then .ready else .done) j) I' (fun b => s5.mine b ∨ s5.foreign b ∨ b = w.heap.size ∨ b = w.heap.size + 1) s5.K (w3.putObj (w.heap.size + 1) (.loop (rec (if j.isNone then .ready else .done) j))) := fun I' hI' =>
            ⟨s5, rfl, kS4, kE4, hI', fun b => Iff.rfl, (hoth4 _ (by omega)).trans hD3, hl4, fun b hb => ⟨fun h => (hnm3 b hb).1 (hm5 _ h), fun h => (hnm3 b hb).2 (hf5 _ h), fun o hko => by
              rw [hK5] at hko
              rcases hEv3.knew b o hko with h | h | h | h
              · rcases hEv1.knew b o h with h | h | h | h
                · exact (hno b hb).2.2 o h
                · omega
                · exact (hno b hb).1 h
                · exact (hno b hb).2.1 h
              · omega
              · exact (hnm1 b hb).1 h
              · exact (hnm1 b hb).2 h⟩⟩
          cases j with
          | none => exact hRJ _ hI3
          | some c => exact ⟨c, hRJ _ hI3⟩
        · have hmF : ∀ b, b < W.heap.size → s1.mine b → F b := fun b hb h => (hFi b).2 (.inl (hback hb h))
          have hfF : ∀ b, b < W.heap.size → s1.foreign b → F b := fun b hb h => (hFi b).2 (.inr (.inl (hbackf hb h)))
          have hsize1 := hEv1.size
          have hsize3 := hEv3.size
          refine ⟨(hEv3.os.trans hos2.1).trans hEv1.os, (hEv3.tape.trans hos2.2.1).trans hEv1.tape, (hEv3.output.trans hos2.2.2).trans hEv1.output, by rw [hsz4]; omega, ((hEv1.keeps.trans kK2).trans hEv3.keeps).trans (hK5 ▸ kK4), fun b o hko => ?_, kS4.kin, fun b hb hnF => ?_, fun b hb => ?_⟩
          · rw [hK5] at hko
            by_cases hbW : b < W.heap.size
            · rcases hEv3.knew b o hko with h | h | h | h
              · rcases hEv1.knew b o h with h | h | h | h
                · exact .inl h
                · omega
                · exact .inr (.inr ((hFi b).2 (.inl h)))
                · exact .inr (.inr ((hFi b).2 (.inr (.inl h))))
              · omega
              · exact .inr (.inr (hmF b hbW h))
              · exact .inr (.inr (hfF b hbW h))
            · exact .inr (.inl (by omega))
          · have hne : b ≠ w.heap.size + 1 := fun h => hnF ((hFi b).2 (.inr (.inr (.inr h))))
            rw [hoth4 b hne, hEv3.block b (by omega) (fun h => hnF (hmF b hb h)) (fun h => hnF (hfF b hb h)), hoth2 b hne, hEv1.block b hb (fun h => hnF ((hFi b).2 (.inl h))) (fun h => hnF ((hFi b).2 (.inr (.inl h))))]
          · rw [hsz4]
            have h3lt : w.heap.size + 1 < w3.heap.size := (Array.getElem?_eq_some_iff.1 hl3).1
            rcases hb with hb | hb | hb | hb
            · have hb := hm5 _ hb
              refine ⟨?_, hS3.mine_lt hb⟩
              rcases hEv3.mine hS1.len hb with h | h
              · rcases hEv1.mine hS.len h with h | h
                · exact .inl ((hFi b).2 (.inl h))
                · exact .inr h
              · exact .inr (by omega)
            · have hb := hf5 _ hb
              refine ⟨?_, (hS3.fgn b hb).1⟩
              rcases hEv3.foreign hS1.len hb with h | h
              · rcases hEv1.foreign hS.len h with h | h
                · exact .inl ((hFi b).2 (.inr (.inl h)))
                · exact .inr h
              · exact .inr (by omega)
            · exact ⟨.inl ((hFi b).2 (.inr (.inr (.inl hb)))), by omega⟩
            · exact ⟨.inl ((hFi b).2 (.inr (.inr (.inr hb)))), by omega⟩
      refine wpIn_mono (hbody n0 w2 s1 a1 hn2 rfl kS2 hA2) fun ex a3 w3 ⟨e3, s3, hS3, hEv3, _, hq⟩ => ?_
      cases ex with
      | normal =>
        obtain ⟨k, st', hk, hsl, hI⟩ := hq
        exact fin none w3 s3 ((s3.trim k).wk st') hS3 hEv3 ((hS3.trim k).wk hsl) (((kE2.trans hs.len hS1.len hEv3).trim hs.len hS3.len hk).wk hsl) rfl (fun b h => ((mine_wk hsl b).1 h).elim fun i hi => ⟨i, own_trim hi⟩) (fun b h => foreign_trim ((foreign_wk hsl b).1 h)) hI
      | ret => exact fin (some .ret) w3 s3 s3 hS3 hEv3 hS3 (kE2.trans hs.len hS1.len hEv3) rfl (fun _ h => h) (fun _ h => h) hq
      | exit id => exact fin (some (.exit id)) w3 s3 s3 hS3 hEv3 hS3 (kE2.trans hs.len hS1.len hEv3) rfl (fun _ h => h) (fun _ h => h) hq
      | _ => exact hq.elim
  -- the call
  have hfv := ha.ev hs g
  rw [hg] at hfv
  obtain ⟨fx, cx, hfe, hfl, hcl, hfr, hcr⟩ := hfv.func_inv
  have hprf : ∀ (vs : List V) (zs : List Value), (∀ v ∈ vs, PureV v ∧ v.bare = v) → (∀ (i : Nat) (c : V) (x : Value), vs[i]? = some c → zs[i]? = some x → Rep w s c x) → ∀ (i : Nat) (c : V) (x : Value), vs[i]? = some c → zs[i]? = some x → PR W1 s.K c x := fun vs zs hv hr i c x hc hx => by
    have hm := hv c (List.mem_iff_getElem?.2 ⟨i, hc⟩)
    have := hm.1 w s x (hr i c x hc hx)
    rw [hm.2] at this
    exact this.keeps hE1.keeps
  let F0 : Nat → Prop := fun b => s.mine b ∨ s.foreign b ∨ b = w.heap.size ∨ b = w.heap.size + 1
  have hJ0 : RJ P gl w s (rec .ready none) (I 0) F0 s.K W1 := ⟨s, rfl, hSb, hE1, h0, fun b => Iff.rfl, hD1, hL1, fun b hb => hnm b (by omega)⟩
  let sc : S := { K := s.K, g := [.yl (w.heap.size + 1) F0 (fun i F K W => RJ P gl w s (rec .ready none) (I i) F K W) (fun i F K W => ∃ c, RJ P gl w s (rec .done (some c)) (X c) F K W)], st := [.yld xs 0 true] }
  have hnone : ∀ i b, ¬ sc.own i b := fun i b ⟨o, g, ho, hl, _⟩ => by
    cases i with
    | zero => simp only [sc, List.getElem?_cons_zero, Option.some.injEq] at ho; subst ho; cases hl
    | succ i => simp [sc] at ho
  have hSc : Sim P gl W1 sc := by
    refine ⟨rfl, fun i o g ho hgi => ?_, fun i j b hi => absurd hi (hnone i b), fun i b o ob hi => absurd hi (hnone i b), hSb.kin, fun b hb => ⟨?_, fun ⟨i, hi⟩ => hnone i b hi⟩, hSb.glob⟩
    · cases i with
      | zero =>
        simp only [sc, List.getElem?_cons_zero, Option.some.injEq] at ho hgi
        subst ho hgi
        simp only [ObjOK, if_true]
        exact ⟨hJ0, hYC, by omega, fun b ⟨i, hi⟩ => absurd hi (hnone i b)⟩
      | succ i => simp [sc] at ho
    · obtain ⟨i, xs', k', l, go, F, J, Jx, ho, hgi, hF⟩ := hb
      cases i with
      | zero =>
        simp only [sc, List.getElem?_cons_zero, Option.some.injEq, Gh.yl.injEq] at hgi
        obtain ⟨rfl, rfl, rfl, rfl⟩ := hgi
        rcases hF with h | h | h | h
        · have := hs.mine_lt h; omega
        · have := (hs.fgn b h).1; omega
        · omega
        · omega
      | succ i => simp [sc] at ho
  have hargs : RepL W1 sc (fs ++ [.yld 0] ++ cs) (fx ++ [.func (.yield (w.heap.size + 1)) #[] #[]] ++ cx) := by
    refine RepL.append (RepL.append ⟨hfl, fun i c x hc hx => .pure _ _ (hprf fs fx (fun v hv => hpure v (by simp [hv])) hfr i c x hc hx)⟩ ⟨rfl, fun i c x hc hx => ?_⟩) ⟨hcl, fun i c x hc hx => .pure _ _ (hprf cs cx (fun v hv => hpure v (by simp [hv])) hcr i c x hc hx)⟩
    cases i with
    | zero =>
      simp only [List.getElem?_cons_zero, Option.some.injEq] at hc hx
      subst hc hx
      exact .yld 0 _ _ _ _ rfl
    | succ i => simp at hc
  have hrunc := hcall W1 sc _ rfl hSc hargs
  unfold ent at hent
  cases hfn : P.funcs[k]? with
  | none => simp [hfn] at hent
  | some fnk =>
    rw [hfn] at hent
    simp only [Bool.and_eq_true, bne_iff_ne, ne_eq] at hent
    have hb : fnk.body.isNone = false := by cases hb : fnk.body <;> simp_all
    have hnmn : (fnk.name == "runtime.NumGoroutine") = false := by simpa using hent.1
    refine ⟨w.heap.size + 1, [{ target := .collected w.heap.size, args := #[] }], W1, { target := .fn (.func k) cx.toArray, args := fx.toArray ++ #[Value.func (.yield (w.heap.size + 1)) #[] #[]] }, W1, k,
      (fx ++ [Value.func (.yield (w.heap.size + 1)) #[] #[]] ++ cx).toArray, W1, ?_, ?_, fun _ _ => trivial, ?_, fun hd => by simp [Fence.wide, Fr] at hd, ?_⟩
    · rw [← hW1, hrec]; exact run_enterLoop_outer _ _ _ _ _
    · simp only [resolve, hfe, Deferred.ofValue, Sem.run_pure]
      congr 2
      apply Array.ext'
      simp [Act.eval]
    · simp only [invoke, callFunc, Sem.run_bind, run_program, Result.andThen_ok, hfn, hnmn, hb, Bool.false_eq_true, if_false, Sem.run_pure]
      congr 2
      apply Array.ext'
      simp
    · refine CallsIn.mono (F := Fr none) (show CallsIn (Fr none) (0 - 1) P k _ W1 _ from hrunc) ?_
      rintro en w3 ⟨v, x, s3, rfl, hS3, hE3, _, i, go, hst3, hgo⟩
      obtain ⟨o', g', h1, h2, htr⟩ := hE3.objs 0 _ _ rfl rfl
      have h1' : s3.st[0]? = some (.yld xs i go) := by rw [hst3]; rfl
      rw [h1'] at h1
      simp only [Option.some.injEq] at h1
      subst h1
      obtain ⟨⟨l', F1, F2, J1, Jx1, he, rfl, _⟩, _⟩ := htr
      simp only [Gh.yl.injEq] at he
      obtain ⟨rfl, rfl, rfl, rfl⟩ := he
      have hob := hS3.obj 0 _ _ h1' h2
      simp only [ObjOK] at hob
      have hlate0 : s.late (w.heap.size + 1) := hs.late (Nat.le_succ _)
      have close : ∀ (rc : Loop) (I' : List O → Prop) (F K), rc.state ≠ .busy → RJ P gl w s rc I' F K w3 → ∃ w4 s4, (Instr.endLoop (w.heap.size + 1)).run P w3 = .ok rc.pending w4 ∧ Sim P gl w4 s4 ∧ Evolve w s w4 s4 ∧ ActOK w4 s4 n0 e { a with defers := [{ target := .collected w.heap.size, args := #[] }] ++ a.defers } ∧ I' s4.st := by
        rintro rc I' F K hrc ⟨s', rfl, hS, hE, hI, hFi, hD, hl, hno⟩
        obtain ⟨kS, kE, kK⟩ := shut (o' := .loop { rc with state := .exhausted }) hS hE hl rfl (by simp) (by omega) (hno _ (.inr rfl)).1 (hno _ (.inr rfl)).2.1 (hlate0.evolve hE hs.len)
        have hA := ha.evolve kE hs.wf
        refine ⟨_, s', run_endLoop hl hrc, kS, kE, ⟨hA.n, hA.get, fun d hd => ?_, ?_⟩, hI⟩
        · rcases List.mem_append.1 hd with hd | hd
          · simp only [List.mem_singleton] at hd
            subst hd
            exact ⟨w.heap.size, rfl, hn, (World.putObj_heap_other (by omega)).trans hD, (hno _ (.inl rfl)).1, (hno _ (.inl rfl)).2.1⟩
          · exact hA.marks.1 d hd
        · rw [List.singleton_append, List.pairwise_cons]
          refine ⟨fun d hd r hr hd' => ?_, hA.marks.2⟩
          obtain ⟨r', g1, _, g3, _⟩ := ha.marks.1 d hd
          simp only [Target.collected.injEq] at hr
          subst hr
          rw [g1] at hd'
          simp only [Target.collected.injEq] at hd'
          subst hd'
          have := (Array.getElem?_eq_some_iff.1 g3).1
          omega
      cases go with
      | true =>
        obtain rfl := hgo rfl
        simp only [if_true] at hob
        obtain ⟨w4, s4, hrun, k1, k2, k3, k4⟩ := close _ _ _ _ (by rw [hrec]; simp) hob.1
        refine ⟨none, w4, by rw [hrun, hrec], ?_⟩
        exact ⟨e, s4, k1, k2, k3, hend _ k4⟩
      | false =>
        simp only [Bool.false_eq_true, if_false] at hob
        obtain ⟨c, hob⟩ := hob.1
        obtain ⟨w4, s4, hrun, k1, k2, k3, k4⟩ := close _ _ _ _ (by rw [hrec]; simp) hob
        refine ⟨some c, w4, by rw [hrun, hrec], ?_⟩
        refine wpIn_mono (hjump c _ k4 n0 w4 s4 _ (Nat.le_trans hn k2.size) rfl k1 k3) fun x a5 w5 ⟨e5, s5, j1, j2, j3, j4⟩ => ⟨e5, s5, j1, k2.trans hs.len k1.len j2, j3, j4⟩
end
end Go.Duo
