/-
  A part of the proof.
-/
import Derived.Test.YtdlcnihacaboiaaGreatDoorGB
import Derived.Laws.Strings
import Derived.Lib.Strings
set_option linter.all false
namespace Go.Duo
open Go
section
variable {P : Program} {gl : Nat → V} {w : World} {s : S} {x y : Value} {a b : V}
theorem elt_runs {t e : TypeId} {sz by_ : Nat} (h : elt P t = some (e, sz, by_)) : P.underlying t = some (.slice e) ∧ ∃ i z, P.info? e = some i ∧ i.zero = some z ∧ i.size = sz ∧ i.bytes = by_ ∧ z.cells.size = sz ∧ 0 < sz := by
  unfold elt at h
  split at h
  · rename_i e' hu
    cases hi : P.info? e' with
    | none => simp [hi] at h
    | some i =>
      cases hz : i.zero with
      | none => simp [hi, hz] at h
      | some z =>
        simp only [hi, hz, Option.bind_some] at h
        split at h
        · rename_i hc
          simp only [Option.some.injEq, Prod.mk.injEq] at h
          obtain ⟨rfl, rfl, rfl⟩ := h
          exact ⟨hu, i, z, hi, hz, rfl, rfl, hc.1, hc.2⟩
        · cases h
  · cases h
/-- What an append comes to, of a row of one's own or of nothing. -/
theorem run_app {t ty e : TypeId} {sz by_ : Nat} (he : elt P t = some (e, sz, by_)) {v : Value} {n : Nat} {xs : List Value} (hown : w.ownsRow 0 e sz v n xs ∨ (∃ ad, v = .slice ad 0 0 ∧ n = 0 ∧ xs = []))
    {ad : Option Addr} {m c : Nat} {news : List Value} (hl : news.length = m * sz) (hnews : ∀ j u, news[j]? = some u → ∃ b o, ad = some ⟨b, o, none⟩ ∧ w.cell? ⟨b, o + j, none⟩ = some u) (h1 : ∀ u ∈ news, u.oneCell' = true)
    (h63 : n + m ≤ maxLen) (hbytes : (n + m) * by_ ≤ 140737488355328) :
    (m = 0 ∧ (Builtin.append_ #[t, t] ty #[v, .slice ad m c]).run P w = .ok v w) ∨
    (0 < m ∧ ∃ v' w', (Builtin.append_ #[t, t] ty #[v, .slice ad m c]).run P w = .ok v' w' ∧ w'.ownsRow 0 e sz v' (n + m) (xs ++ news) ∧ w'.os = w.os ∧ w'.tape = w.tape ∧ w'.output = w.output ∧ w.heap.size ≤ w'.heap.size ∧
      ((v'.ownBlock = v.ownBlock ∧ (∃ ad' cap, v = .slice (some ad') n cap ∧ n + m ≤ cap ∧ v' = .slice (some ad') (n + m) cap) ∧ w.ownsRow 0 e sz v n xs ∧ ∀ k, some k ≠ v.ownBlock → k < w.heap.size → w'.heap[k]? = w.heap[k]?) ∨ (v'.ownBlock = some w.heap.size ∧ ∀ k, k < w.heap.size → w'.heap[k]? = w.heap[k]?))) := by
  obtain ⟨ht, i, z, hi, hz, rfl, rfl, hzs, hsz⟩ := elt_runs he
  rcases Nat.eq_zero_or_pos m with rfl | hm
  · left
    refine ⟨rfl, ?_⟩
    have hf : (Builtin.firstCells i.size 0 (.slice ad 0 c)).run P w = .ok #[] w := by
      cases ad <;> simp [Builtin.firstCells, loadCells, loadCellsFrom]
    have hv : ∃ base cap, v = .slice base n cap ∧ n ≤ cap := by
      rcases hown with ⟨_, ⟨rfl, rfl⟩ | ⟨g, cap, cur, rfl, _, _, h, _⟩⟩ | ⟨ad', rfl, rfl, _⟩
      · exact ⟨none, 0, rfl, Nat.le_refl _⟩
      · exact ⟨_, cap, rfl, h⟩
      · exact ⟨ad', 0, rfl, Nat.le_refl _⟩
    obtain ⟨base, cap, rfl, hnc⟩ := hv
    cases base <;> simp [Builtin.append_, run_underlying ht, sizeOf, typeInfo, hi, Builtin.lenOf, hf, hnc, storeCells]
  · right
    refine ⟨hm, ?_⟩
    have hn0 : 0 < news.length := by rw [hl]; exact Nat.mul_pos hm hsz
    obtain ⟨b, o, rfl, _⟩ := hnews 0 news[0] (by rw [List.getElem?_eq_getElem])
    have hnews' : ∀ j u, news[j]? = some u → w.cell? ((⟨b, o, none⟩ : Addr).add j) = some u := fun j u hu => by
      obtain ⟨b', o', hb, hc⟩ := hnews j u hu
      simp only [Option.some.injEq, Addr.mk.injEq, and_true] at hb
      obtain ⟨rfl, rfl⟩ := hb
      rw [addr_add]
      exact hc
    have hlen : xs.length = n * i.size → (xs ++ news).length = (n + m) * i.size := fun h => by rw [List.length_append, h, hl, Nat.add_mul]
    have h63' : n + m ≤ 9223372036854775807 := by simp only [maxLen] at h63; omega
    have grown : ∀ (old : Nat), old < n + m → xs.length = n * i.size →
        (w.drew.alloc (.cells (xs.toArray ++ news.toArray ++ Builtin.zeroCells z.cells (grownCap w (n + m) old e - (n + m))) e)).ownsRow 0 e i.size
          (.slice (some ⟨w.heap.size, 0, none⟩) (n + m) (grownCap w (n + m) old e)) (n + m) (xs ++ news) := by
      intro old ho hx
      have hge := grownCap_ge w (n + m) old e
      have hcm : grownCap w (n + m) old e ≤ maxLen := grownCap_le_maxLen w (n + m) old e h63
      refine ⟨hlen hx, .inr ⟨w.heap.size, _, _, rfl, Nat.zero_le _, heap_alloc_new w.drew _, hge, hcm, ?_, ?_⟩⟩
      · simp only [Array.size_append, List.size_toArray, size_zeroCells, hzs, hx, hl, ← Nat.add_mul]
        congr 1
        omega
      · simp only [Array.toList_append, List.append_assoc]
        rw [← List.append_assoc, ← hlen hx]
        exact List.take_left
    have fresh : ∀ ob : Obj, (w.drew.alloc ob).os = w.os ∧ (w.drew.alloc ob).tape = w.tape ∧ (w.drew.alloc ob).output = w.output ∧ w.heap.size ≤ (w.drew.alloc ob).heap.size ∧ ∀ k, k < w.heap.size → (w.drew.alloc ob).heap[k]? = w.heap[k]? := fun ob =>
      ⟨rfl, rfl, rfl, by simp, fun k hk => heap_alloc_old w.drew ob k hk⟩
    have hcase : (∃ ad', v = .slice ad' 0 0 ∧ n = 0 ∧ xs = []) ∨ (w.ownsRow 0 e i.size v n xs ∧ ∃ g cap cur, v = .slice (some ⟨g, 0, none⟩) n cap ∧ w.heap[g]? = some (.cells cur e (0, 0)) ∧ n ≤ cap ∧ cap ≤ maxLen ∧ cur.size = cap * i.size ∧ cur.toList.take (n * i.size) = xs) := by
      rcases hown with hown | h
      · rcases hown.2 with ⟨hv, hn⟩ | ⟨g, cap, cur, hv, _, hrest⟩
        · exact .inl ⟨none, hv, hn, List.eq_nil_of_length_eq_zero (by simpa [hn] using hown.1)⟩
        · exact .inr ⟨hown, g, cap, cur, hv, hrest⟩
      · exact .inl h
    rcases hcase with ⟨ad', rfl, rfl, rfl⟩ | ⟨hown, g, cap, cur, rfl, hg, hnc, hcm, hcs, htake⟩
    · have hgr := grown 0 (by omega) (by simp)
      have hb' : m * i.bytes ≤ 140737488355328 := by simpa using hbytes
      cases ad' with
      | none =>
        have hr := run_append_nil (P := P) w t ty e i z ht hi hz ⟨b, o, none⟩ m c news hl hnews' (by omega) (by omega) (by omega)
        obtain ⟨f1, f2, f3, f4, f5⟩ := fresh (.cells (news.toArray ++ Builtin.zeroCells z.cells (grownCap w m 0 e - m)) e)
        refine ⟨_, _, hr, by simpa using hgr, f1, f2, f3, f4, .inr ⟨rfl, f5⟩⟩
      | some bd =>
        have hr := run_append_grow (P := P) w t ty e i z ht hi hz bd 0 0 [] (by simp) (by simp) ⟨b, o, none⟩ m c news hl hnews' (by omega) (by omega) (by simpa using growslice_fits (need := m) (old := 0) (by omega) hb')
        obtain ⟨f1, f2, f3, f4, f5⟩ := fresh (.cells ([].toArray ++ news.toArray ++ Builtin.zeroCells z.cells (grownCap w (0 + m) 0 e - (0 + m))) e)
        exact ⟨_, _, hr, hgr, f1, f2, f3, f4, .inr ⟨rfl, f5⟩⟩
    · by_cases hroom : n + m ≤ cap
      · have hfit : n * i.size + news.length ≤ cur.size := by rw [hl, hcs, ← Nat.add_mul]; exact Nat.mul_le_mul_right _ hroom
        have hr := run_append_room (P := P) w t ty e i ht hi g n cap cur hg ⟨b, o, none⟩ m c news hl hnews' h1 hroom hfit
        refine ⟨_, _, hr, ⟨hlen hown.1, .inr ⟨g, cap, _, rfl, Nat.zero_le _, setRow_heap w g cur _ e _ hg, hroom, hcm, ?_, ?_⟩⟩, rfl, rfl, rfl, by simp, .inl ⟨rfl, ⟨_, _, rfl, hroom, rfl⟩, hown, fun k hk _ => setRow_other w g k _ (fun e => hk (by simp [Value.ownBlock, e]))⟩⟩
        · simp only [List.size_toArray, List.length_append, List.length_take, List.length_drop, Array.length_toList]
          omega
        · rw [htake, ← hlen hown.1]
          exact List.take_left
      · have holds : ∀ j u, xs[j]? = some u → w.cell? ((⟨g, 0, none⟩ : Addr).add j) = some u := hown.cells (g := g) rfl
        have hr := run_append_grow (P := P) w t ty e i z ht hi hz ⟨g, 0, none⟩ n cap xs hown.1 holds ⟨b, o, none⟩ m c news hl hnews' (by omega) (by omega) (growslice_fits (by omega) hbytes)
        obtain ⟨f1, f2, f3, f4, f5⟩ := fresh (.cells (xs.toArray ++ news.toArray ++ Builtin.zeroCells z.cells (grownCap w (n + m) cap e - (n + m))) e)
        exact ⟨_, _, hr, grown cap (by omega) hown.1, f1, f2, f3, f4, .inr ⟨rfl, f5⟩⟩
/-- The elements of a row that is read. -/
def rowOf : V → Option (List V)
  | .sl es _ => some es
  | .nil => some []
  | _ => none
/-- A row's cells, one by one. -/
theorem row_cells {es : List V} (hr : rowOf a = some es) (h : Rep w s a x) : ∃ (ad : Option Addr) (cap : Nat) (news : List Value), x = .slice ad es.length cap ∧ news.length = (flat es).length ∧ (∀ u ∈ news, u.oneCell' = true) ∧
    (∀ j u, news[j]? = some u → ∃ b o, ad = some ⟨b, o, none⟩ ∧ w.cell? ⟨b, o + j, none⟩ = some u ∧ s.K b (o + j)) ∧ (∀ (j : Nat) (c : V) (u : Value), (flat es)[j]? = some c → news[j]? = some u → PR w s.K c u) ∧ es.length ≤ cap ∧ cap ≤ maxLen := by
  have key : ∀ es, PR w s.K (.sl es none) x → _ := fun es h => h.sl_inv
  cases a with
  | sl es' t =>
    simp only [rowOf, Option.some.injEq] at hr
    subst hr
    obtain ⟨ad, cap, sz, y, rfl, hc1, hc2, hsz, h1, hcell⟩ := h.sl_inv.sl_inv
    have hget : ∀ (j : Nat) (u : Value), ((List.range (flat es').length).map y)[j]? = some u → ∃ c, (flat es')[j]? = some c ∧ u = y j := fun j u hu => by
      have hj : j < (flat es').length := by have := (List.getElem?_eq_some_iff.1 hu).1; simpa using this
      rw [List.getElem?_map, List.getElem?_range hj] at hu
      simp only [Option.map_some, Option.some.injEq] at hu
      exact ⟨_, List.getElem?_eq_getElem hj, hu.symm⟩
    refine ⟨ad, cap, (List.range (flat es').length).map y, rfl, by simp, fun u hu => ?_, fun j u hu => ?_, fun j c u hc hu => ?_, hc1, hc2⟩
    · obtain ⟨j, hj, rfl⟩ := List.mem_iff_getElem.1 hu
      obtain ⟨c, hc, he⟩ := hget j _ (List.getElem?_eq_getElem hj)
      rw [he]
      exact (hcell j c hc).2.oneCell (h1 c (List.mem_iff_getElem?.2 ⟨j, hc⟩))
    · obtain ⟨c, hc, rfl⟩ := hget j u hu
      obtain ⟨b, o, hb, hcl, hk⟩ := (hcell j c hc).1
      exact ⟨b, o, hb, hcl, hk⟩
    · obtain ⟨c', hc', rfl⟩ := hget j u hu
      rw [hc] at hc'
      simp only [Option.some.injEq] at hc'
      exact (hcell j c hc).2
  | nil =>
    simp only [rowOf, Option.some.injEq] at hr
    subst hr
    obtain ⟨ad, rfl⟩ := h.nil_inv
    exact ⟨ad, 0, [], rfl, by simp, by simp, by simp, by simp, Nat.le_refl _, Nat.zero_le _⟩
  | _ => simp [rowOf] at hr
def appendP (P : Program) (t : TypeId) (st : List O) (x y : V) (K : V → List O → Prop) : Prop :=
  match elt P t, rowOf y with
  | some (e, sz, by_), some es2 => (∀ el ∈ es2, el.cells.length = sz) ∧ match x with
    | .nil => es2.length * by_ ≤ 140737488355328 ∧ es2.length ≤ maxLen ∧ (K (.sl es2 (some st.length)) (st ++ [.tok e sz es2.length]) ∨ ∃ k v, st[k]? = some (.arr e sz v []) ∧ K (.ref k (v + 1)) (st.set k (.arr e sz (v + 1) es2)))
    | .sl es (some id) => match st[id]? with
      | some (.tok e' sz' n) => e' = e ∧ sz' = sz ∧ n = es.length ∧ (es.length + es2.length) * by_ ≤ 140737488355328 ∧ es.length + es2.length ≤ maxLen ∧ K (.sl (es ++ es2) (some id)) (st.set id (.tok e sz (es.length + es2.length)))
      | _ => False
    | .ref id ver => match st[id]? with
      | some (.arr e' sz' v es) => e' = e ∧ sz' = sz ∧ v = ver ∧ (es.length + es2.length) * by_ ≤ 140737488355328 ∧ es.length + es2.length ≤ maxLen ∧ K (.ref id (ver + 1)) (st.set id (.arr e sz (ver + 1) (es ++ es2)))
      | _ => False
    | _ => False
  | _, _ => False
/-- What lies at the head of a block of one's own, as a row that is only read. -/
theorem pr_of_own {K : Nat → Nat → Prop} {e : TypeId} {sz n : Nat} {v : Value} {es : List V} {xs : List Value} (hown : w.ownsRow 0 e sz v n xs) (hn : n = es.length) (hpos : 0 < n) (hsz : ∀ el ∈ es, el.cells.length = sz) (h1 : ∀ c ∈ flat es, c.one = true)
    (hK : ∀ b j, v.ownBlock = some b → j < n * sz → K b j) (h : ∀ (j : Nat) (c : V) (u : Value), (flat es)[j]? = some c → xs[j]? = some u → PR w K c u) : PR w K (.sl es none) v := by
  subst hn
  rcases hown.2 with ⟨_, h0⟩ | ⟨g, cap, cur, rfl, _, hg, hnc, hcm, hcs, htake⟩
  · omega
  · have hfl := flat_length hsz
    have hx : ∀ j, j < (flat es).length → ∃ u, xs[j]? = some u ∧ w.cell? ⟨g, 0 + j, none⟩ = some u := fun j hj => by
      have hj' : j < xs.length := by rw [hown.1, ← hfl]; exact hj
      refine ⟨_, List.getElem?_eq_getElem hj', ?_⟩
      have := hown.cells (g := g) rfl j _ (List.getElem?_eq_getElem hj')
      rwa [addr_add] at this
    refine .sl es _ cap sz (fun j => xs.getD j undef) hnc hcm hsz h1 (fun j c hc => ?_) (fun j c hc => ?_)
    · have hj := (List.getElem?_eq_some_iff.1 hc).1
      obtain ⟨u, hu, hcell⟩ := hx j hj
      refine ⟨g, 0, rfl, ?_, hK g (0 + j) rfl (by rw [Nat.zero_add, ← hfl]; exact hj)⟩
      rw [List.getD_eq_getElem?_getD, hu]
      exact hcell
    · have hj := (List.getElem?_eq_some_iff.1 hc).1
      obtain ⟨u, hu, _⟩ := hx j hj
      show PR w K c (xs.getD j undef)
      rw [List.getD_eq_getElem?_getD, hu]
      exact h j c u hc hu
/-- append to a row of one's own. -/
theorem append_ref (hs : Sim P gl w s) {t ty e : TypeId} {sz by_ id ver : Nat} {es es2 : List V} (he : elt P t = some (e, sz, by_)) (hx : Rep w s (.ref id ver) x) (hy : Rep w s b y) (hr : rowOf b = some es2)
    (hsz2 : ∀ el ∈ es2, el.cells.length = sz) (hone2 : ∀ c ∈ flat es2, c.one = true) (ho : s.st[id]? = some (.arr e sz ver es)) (hb1 : (es.length + es2.length) * by_ ≤ 140737488355328) (hb2 : es.length + es2.length ≤ maxLen) :
    ∃ z w' s', (Builtin.append_ #[t, t] ty #[x, y]).run P w = .ok z w' ∧ Sim P gl w' s' ∧ Evolve w s w' s' ∧ Rep w' s' (.ref id (ver + 1)) z ∧ s'.st = s.st.set id (.arr e sz (ver + 1) (es ++ es2)) := by
  obtain ⟨ad, cap, news, rfl, hnl, hn1, hncell, hnrep, _, _⟩ := row_cells hr hy
  have hfl2 := flat_length hsz2
  have hsz : 0 < sz := by obtain ⟨_, i, z, _, _, rfl, _, _, h⟩ := elt_runs he; exact h
  have hnc' : ∀ j u, news[j]? = some u → ∃ b o, ad = some ⟨b, o, none⟩ ∧ w.cell? ⟨b, o + j, none⟩ = some u := fun j u hu => by
    obtain ⟨b, o, h1, h2, _⟩ := hncell j u hu
    exact ⟨b, o, h1, h2⟩
  have hx1 : x.oneCell' = true ∧ RefOK s id ver x := by
    cases hx with
    | pure _ _ h => cases h
    | ref _ _ _ h1 h => exact ⟨h1, h⟩
  obtain ⟨hxo, o', ho', hm⟩ := hx1
  rw [ho] at ho'
  simp only [Option.some.injEq] at ho'
  subst ho'
  obtain ⟨_, hm⟩ := hm
  obtain ⟨x0, hg0⟩ := hs.wf.arr id _ _ _ _ ho
  obtain ⟨xs0, hown0, hsz1, hone1, hxl0, hpr0⟩ := hs.obj id _ _ ho hg0
  have hszA : ∀ el ∈ es ++ es2, el.cells.length = sz := fun el hel => (List.mem_append.1 hel).elim (hsz1 el) (hsz2 el)
  have hone : ∀ c ∈ flat (es ++ es2), c.one = true := fun c hc => by rw [flat_append] at hc; exact (List.mem_append.1 hc).elim (hone1 c) (hone2 c)
  have hnK : ∀ b j, x0.ownBlock = some b → ¬ s.K b j := fun b j hb => hs.kout id b j _ ⟨_, _, ho, rfl, hg0, hb⟩ ho trivial
  have hown1 : w.ownsRow 0 e sz x es.length xs0 ∨ (∃ ad, x = .slice ad 0 0 ∧ es.length = 0 ∧ xs0 = []) := by
    rcases hm rfl with hg | ⟨h0, ad', rfl⟩
    · rw [hg0] at hg
      simp only [Option.some.injEq, Gh.row.injEq] at hg
      subst hg
      exact .inl hown0
    · subst h0
      exact .inr ⟨ad', rfl, rfl, List.eq_nil_of_length_eq_zero (by simpa using hxl0)⟩
  have hsame : x = x0 ∨ (es = [] ∧ ∃ a, x = .slice a 0 0) := by
    rcases hm rfl with hg | h
    · rw [hg0] at hg
      simp only [Option.some.injEq, Gh.row.injEq] at hg
      exact .inl hg.symm
    · exact .inr h
  have hcell : ∀ (K' : Nat → Nat → Prop) (w' : World), Keeps w s.K w' K' → ∀ (j : Nat) (c : V) (u : Value), (flat (es ++ es2))[j]? = some c → (xs0 ++ news)[j]? = some u → PR w' K' c u := fun K' w' hk j c u hc hu => by
    rw [flat_append] at hc
    by_cases hj : j < (flat es).length
    · rw [List.getElem?_append_left hj] at hc
      rw [List.getElem?_append_left (by omega)] at hu
      exact (hpr0 j c u hc hu).keeps hk
    · rw [List.getElem?_append_right (by omega)] at hc
      rw [List.getElem?_append_right (by omega)] at hu
      rw [show j - xs0.length = j - (flat es).length by omega] at hu
      exact (hnrep _ c u hc hu).keeps hk
  rcases run_app (ty := ty) he hown1 (hnl.trans hfl2) hnc' hn1 hb2 hb1 with ⟨h0, hrun⟩ | ⟨hpos, v', w', hrun, hown, f1, f2, f3, f4, hwhere⟩
  · obtain rfl := List.eq_nil_of_length_eq_zero h0
    obtain rfl : news = [] := List.eq_nil_of_length_eq_zero (by simpa using hnl)
    rw [List.append_nil] at hcell hszA hone
    rw [List.append_nil]
    obtain ⟨hE, hS⟩ := turn hs (w' := w) (o' := .arr e sz (ver + 1) es) (g' := .row x0) (K' := s.K) ho hg0 rfl rfl rfl rfl (Nat.le_refl _) (fun _ _ _ => rfl) ⟨fun _ _ h => h, fun _ _ _ _ h => h, fun _ _ _ _ h => h, fun _ _ _ _ h => h⟩ (fun _ _ h => .inl h)
      hs.kin (.inr ⟨_, _, rfl, by omega, fun e => by omega, fun b hb => .inl hb⟩) rfl (fun b j hb _ => hnK b j hb) (fun hE => ⟨xs0, hown0, hsz1, hone1, hxl0, fun j c u hc hu => (hpr0 j c u hc hu).keeps hE.keeps⟩)
    refine ⟨x, w, _, hrun, hS, hE, .ref id (ver + 1) x hxo ⟨.arr e sz (ver + 1) es, ?_, Nat.le_refl _, fun _ => ?_⟩, rfl⟩
    · simp [S.turn, (List.getElem?_eq_some_iff.1 ho).1]
    · rcases hsame with rfl | h
      · exact .inl (by simp [S.turn, (List.getElem?_eq_some_iff.1 hg0).1])
      · exact .inr h
  · have hold : ∀ k, k < w.heap.size → x0.ownBlock ≠ some k → w'.heap[k]? = w.heap[k]? := fun k hk hne => by
      rcases hwhere with ⟨_, ⟨ad', cap', hv, _, _⟩, _, hold⟩ | ⟨_, hold⟩
      · rcases hsame with rfl | ⟨_, a, rfl⟩
        · exact hold k (fun e => hne e.symm) hk
        · exfalso
          simp only [Value.slice.injEq] at hv
          omega
      · exact hold k hk
    have hat : ∀ b, v'.ownBlock = some b → x0.ownBlock = some b ∨ w.heap.size ≤ b := fun b hb => by
      rcases hwhere with ⟨h1, ⟨ad', cap', hv, _, _⟩, _, _⟩ | ⟨h1, _⟩
      · rcases hsame with rfl | ⟨_, a, rfl⟩
        · exact .inl (h1.symm.trans hb)
        · exfalso
          simp only [Value.slice.injEq] at hv
          omega
      · rw [h1] at hb
        simp only [Option.some.injEq] at hb
        exact .inr (by omega)
    have hne : ∀ b j, s.K b j → x0.ownBlock ≠ some b := fun b j hk h => hnK b j h hk
    obtain ⟨hE, hS⟩ := turn hs (w' := w') (o' := .arr e sz (ver + 1) (es ++ es2)) (g' := .row v') (K' := s.K) ho hg0 rfl f1 f2 f3 f4 (fun k hk h => hold k hk h)
      ⟨fun _ _ h => h, fun b j z hk hz => by rw [World.cell?_of_block (w := w) (hold b (World.block_lt_of_cell? w _ hz) (hne b j hk))]; exact hz, fun b es0 c hk hz => by rw [hold b (Array.getElem?_eq_some_iff.1 hz).1 (hne b 0 hk)]; exact hz, fun b j n hk hz => hz.same (hold b hz.lt (hne b j hk))⟩
      (fun _ _ h => .inl h) (fun b j hk => Nat.lt_of_lt_of_le (hs.kin b j hk) f4) (.inr ⟨_, _, rfl, by omega, fun e => by omega, fun b hb => hat b hb⟩) rfl
      (fun b j hb _ hk => by
        rcases hat b hb with h | h
        · exact hnK b j h hk
        · have := hs.kin b j hk
          omega)
      (fun hE => ⟨xs0 ++ news, by rw [List.length_append]; exact hown, hszA, hone, by rw [List.length_append, flat_append, List.length_append, hxl0, hnl], fun j c u hc hu => hcell _ _ hE.keeps j c u hc hu⟩)
    have hv1 : v'.oneCell' = true := by
      rcases hown.2 with ⟨rfl, _⟩ | ⟨g, cap, cur, rfl, _⟩ <;> rfl
    refine ⟨v', w', _, hrun, hS, hE, .ref id (ver + 1) v' hv1 ⟨.arr e sz (ver + 1) (es ++ es2), ?_, Nat.le_refl _, fun _ => .inl ?_⟩, rfl⟩
    · simp [S.turn, (List.getElem?_eq_some_iff.1 ho).1]
    · simp [S.turn, (List.getElem?_eq_some_iff.1 hg0).1]
theorem append_sound (hs : Sim P gl w s) {t ty : TypeId} {K : V → List O → Prop} (hx : Rep w s a x) (hy : Rep w s b y) (h : appendP P t s.st a b K) :
    ∃ v z w' s', (Builtin.append_ #[t, t] ty #[x, y]).run P w = .ok z w' ∧ Sim P gl w' s' ∧ Evolve w s w' s' ∧ Rep w' s' v z ∧ K v s'.st := by
  unfold appendP at h
  cases he : elt P t with
  | none => simp [he] at h
  | some esb =>
    obtain ⟨e, sz, by_⟩ := esb
    cases hr : rowOf b with
    | none => simp [he, hr] at h
    | some es2 =>
      rw [he, hr] at h
      simp only at h
      obtain ⟨hsz2, h⟩ := h
      obtain ⟨ad, cap, news, rfl, hnl, hn1, hncell, hnrep, _, _⟩ := row_cells hr hy
      have hfl2 := flat_length hsz2
      have hsz : 0 < sz := by obtain ⟨_, i, z, _, _, rfl, _, _, h⟩ := elt_runs he; exact h
      have hone2 : ∀ c ∈ flat es2, c.one = true := by
        cases b with
        | sl es' t' =>
          simp only [rowOf, Option.some.injEq] at hr
          subst hr
          obtain ⟨_, _, _, _, _, _, _, _, h1, _⟩ := hy.sl_inv.sl_inv
          exact h1
        | nil => simp only [rowOf, Option.some.injEq] at hr; subst hr; simp
        | _ => simp [rowOf] at hr
      have hnc' : ∀ j u, news[j]? = some u → ∃ b o, ad = some ⟨b, o, none⟩ ∧ w.cell? ⟨b, o + j, none⟩ = some u := fun j u hu => by
        obtain ⟨b, o, h1, h2, _⟩ := hncell j u hu
        exact ⟨b, o, h1, h2⟩
      cases a with
      | nil =>
        simp only at h
        obtain ⟨hb1, hb2, hK1 | ⟨k, v, hok, hKr⟩⟩ := h
        rotate_left
        · obtain ⟨ax, rfl⟩ := hx.nil_inv
          have hx2 : Rep w s (.ref k v) (.slice ax 0 0) := .ref k v _ rfl ⟨_, hok, Nat.le_refl _, fun _ => .inr ⟨rfl, ax, rfl⟩⟩
          obtain ⟨z, w', s', h1, h2, h3, h4, h5⟩ := append_ref (ty := ty) hs he hx2 hy hr hsz2 hone2 hok (by simpa using hb1) (by simpa using hb2)
          exact ⟨_, z, w', s', h1, h2, h3, h4, by rw [h5]; exact hKr⟩
        obtain ⟨ax, rfl⟩ := hx.nil_inv
        rcases run_app (ty := ty) (n := 0) (xs := []) he (.inr ⟨ax, rfl, rfl, rfl⟩) (hnl.trans hfl2) hnc' hn1 (by omega) (by simpa using hb1) with ⟨h0, hrun⟩ | ⟨hpos, v', w', hrun, hown, f1, f2, f3, f4, hwhere⟩
        · obtain rfl := List.eq_nil_of_length_eq_zero h0
          have hS : Sim P gl w (s.push (.tok e sz 0) (.row (.slice none 0 0))) := hs.push (fun _ _ _ h => by cases h) (fun _ _ _ h => by cases h) (fun _ _ h => by cases h) (fun _ _ _ => by simp) ⟨[], by simp, .inl ⟨rfl, rfl⟩⟩ (fun _ _ h => by cases h)
          have hE : Evolve w s w (s.push (.tok e sz 0) (.row (.slice none 0 0))) := Evolve.push hs.wf (Evolve.refl hs.wf) _ _ (fun _ _ h => by cases h) (fun _ _ _ => by simp)
          exact ⟨_, _, w, _, hrun, hS, hE, .tok [] s.st.length _ (PR.nil_sl ax) ⟨.tok e sz 0, by simp [S.push], Nat.le_refl _, fun _ => .inr ⟨rfl, ax, rfl⟩, by simp⟩, hK1⟩
        · rcases hwhere with ⟨_, ⟨_, _, hno, hle, _⟩, _⟩ | ⟨hat, hold⟩
          · simp only [Value.slice.injEq] at hno
            omega
          · have hN : ∀ b j, (b = w.heap.size ∧ j < es2.length * sz) → w.heap.size ≤ b ∧ b < w'.heap.size := fun b j hb => by
              have := (hown.lt _ hat).2
              omega
            have hE0 := Evolve.grow hs.wf f1 f2 f3 f4 hold (fun b j => b = w.heap.size ∧ j < es2.length * sz) hN
            have hS0 := hs.grow f1 f2 f3 f4 hold (fun b j => b = w.heap.size ∧ j < es2.length * sz) hN
            have hpr := pr_of_own (K := fun b j => s.K b j ∨ (b = w.heap.size ∧ j < es2.length * sz)) hown (by omega) (by omega) hsz2 hone2 (fun b j hb hj => by rw [hat] at hb; simp only [Option.some.injEq] at hb; exact .inr ⟨hb.symm, by simpa using hj⟩)
              (fun j c u hc hu => (hnrep j c u hc (by simpa using hu)).keeps hE0.keeps)
            refine ⟨.sl es2 (some s.st.length), v', w', _, hrun, ?_, Evolve.push hs.wf hE0 (.tok e sz es2.length) (.row v') (fun _ b hb => by simp only [Gh.at] at hb; rw [hat] at hb; simp only [Option.some.injEq] at hb; omega) (fun _ _ _ => by simp), ?_, hK1⟩
            · refine hS0.push (fun i b _ hb hi => ?_) (fun b j _ hb hwr hk => ?_) (fun b _ hb hf => ?_) (fun _ _ _ => by simp) ⟨_, by simpa using hown⟩ (fun b _ hb => by simp only [Gh.at] at hb; rw [hat] at hb; simp only [Option.some.injEq] at hb; subst hb; exact (show s.late _ from hs.late (Nat.le_refl _)))
              · simp only [Gh.at] at hb
                rw [hat] at hb
                simp only [Option.some.injEq] at hb
                subst hb
                obtain ⟨o', g', ho', hlv, hg', hat'⟩ := hi
                have := hs.mine_lt ⟨i, o', g', ho', hlv, hg', hat'⟩
                omega
              · simp only [Gh.at] at hb
                rw [hat] at hb
                simp only [Option.some.injEq] at hb
                subst hb
                simp only [O.writes] at hwr
                rcases hk with hk | ⟨_, hk⟩
                · have := hs.kin _ _ hk
                  omega
                · omega
              · simp only [Gh.at] at hb
                rw [hat] at hb
                simp only [Option.some.injEq] at hb
                subst hb
                have := (hs.fgn _ hf).1
                omega
            · refine .tok _ _ _ hpr ⟨.tok e sz es2.length, by simp [S.push], Nat.le_refl _, fun _ => .inl (by simp [S.push, hs.len]), hsz2⟩
      | sl es tk =>
        cases tk with
        | none => exact h.elim
        | some id =>
          simp only at h
          cases ho : s.st[id]? with
          | none => simp [ho] at h
          | some o =>
            rw [ho] at h
            cases o with
            | tok e' sz' n =>
              simp only at h
              obtain ⟨rfl, rfl, rfl, hb1, hb2, hK⟩ := h
              have hpx : PR w s.K (.sl es none) x := hx.sl_inv
              have htk : TokOK s id es x := by
                cases hx with
                | pure _ _ h => cases h
                | tok _ _ _ _ ht => exact ht
              obtain ⟨o', ho', hm⟩ := htk
              rw [ho] at ho'
              simp only [Option.some.injEq] at ho'
              subst ho'
              obtain ⟨_, hg, hsz1⟩ := hm
              rcases hg rfl with hg | ⟨h0, ad', rfl⟩
              case inr =>
                obtain rfl := List.eq_nil_of_length_eq_zero h0
                obtain ⟨x0, hg⟩ := hs.wf.tok id _ _ _ ho
                rcases run_app (ty := ty) (n := 0) (xs := []) he (.inr ⟨ad', rfl, rfl, rfl⟩) (hnl.trans hfl2) hnc' hn1 (by omega) (by simpa using hb1) with ⟨h0, hrun⟩ | ⟨hpos, v', w', hrun, hown, f1, f2, f3, f4, hwhere⟩
                · obtain rfl := List.eq_nil_of_length_eq_zero h0
                  have hst : s.st.set id (.tok e' sz' (([] : List V).length + ([] : List V).length)) = s.st := by
                    apply List.ext_getElem?
                    intro j
                    rw [List.getElem?_set]
                    split
                    · subst_vars
                      split
                      · rw [ho]; simp
                      · rename_i hj; rw [List.getElem?_eq_none (by omega)]
                    · rfl
                  rw [hst, List.append_nil] at hK
                  exact ⟨_, _, w, s, hrun, hs, Evolve.refl hs.wf, hx, hK⟩
                · rcases hwhere with ⟨_, ⟨_, _, hno, hle, _⟩, _⟩ | ⟨hat, hold⟩
                  · simp only [Value.slice.injEq] at hno
                    omega
                  · obtain ⟨hE, hS⟩ := turn hs (w' := w') (o' := .tok e' sz' es2.length) (g' := .row v') (K' := fun b j => s.K b j ∨ (b = w.heap.size ∧ j < es2.length * sz')) ho hg rfl f1 f2 f3 f4
                      (fun b hb _ => hold b hb)
                      ⟨fun _ _ h => .inl h, fun b j z _ hz => by rw [World.cell?_of_block (w := w) (hold b (World.block_lt_of_cell? w _ hz))]; exact hz, fun b es0 c _ hz => by rw [hold b (Array.getElem?_eq_some_iff.1 hz).1]; exact hz, fun b _ n _ hz => hz.same (hold b hz.lt)⟩
                      (fun b j hk => by
                        rcases hk with hk | ⟨hk, _⟩
                        · exact .inl hk
                        · exact .inr (.inl (by omega)))
                      (fun b j hk => by
                        rcases hk with hk | ⟨rfl, _⟩
                        · have := hs.kin b j hk; omega
                        · exact (hown.lt _ hat).2)
                      (.inr ⟨_, rfl, by simp, fun e => by rw [e] at hpos; simp at hpos, fun b hb => by simp only [Gh.at] at hb; rw [hat] at hb; simp only [Option.some.injEq] at hb; exact .inr (by omega)⟩) rfl
                      (fun b j hb hwr hk => by
                        simp only [O.writes, Gh.at] at hwr hb
                        rw [hat] at hb
                        simp only [Option.some.injEq] at hb
                        rcases hk with hk | ⟨_, hk⟩
                        · have := hs.kin b j hk; omega
                        · omega)
                      (fun _ => ⟨_, by simpa using hown⟩)
                    have hpr := pr_of_own (K := fun b j => s.K b j ∨ (b = w.heap.size ∧ j < es2.length * sz')) hown (by omega) (by omega) hsz2 hone2 (fun b j hb hj => by rw [hat] at hb; simp only [Option.some.injEq] at hb; exact .inr ⟨hb.symm, by simpa using hj⟩)
                      (fun j c u hc hu => (hnrep j c u hc (by simpa using hu)).keeps hE.keeps)
                    refine ⟨.sl es2 (some id), v', w', _, hrun, hS, hE, .tok _ _ _ hpr ⟨.tok e' sz' es2.length, ?_, by simp, fun _ => .inl ?_, hsz2⟩, by simp only [List.nil_append, List.length_nil, Nat.zero_add] at hK; exact hK⟩
                    · simp [S.turn, (List.getElem?_eq_some_iff.1 ho).1]
                    · simp [S.turn, (List.getElem?_eq_some_iff.1 hg).1]
              obtain ⟨xs, hown0⟩ := hs.obj id _ _ ho hg
              have hfl1 := flat_length hsz1
              have hlv : s.own id = fun b => x.ownBlock = some b := by
                funext b
                refine propext ⟨fun ⟨o1, g1, h1, _, h3, h4⟩ => ?_, fun h => ⟨_, _, ho, rfl, hg, h⟩⟩
                rw [hg] at h3
                simp only [Option.some.injEq] at h3
                subst h3
                exact h4
              rcases run_app (ty := ty) he (.inl hown0) (hnl.trans hfl2) hnc' hn1 hb2 hb1 with ⟨h0, hrun⟩ | ⟨hpos, v', w', hrun, hown, f1, f2, f3, f4, hwhere⟩
              · obtain rfl := List.eq_nil_of_length_eq_zero h0
                have hst : s.st.set id (.tok e' sz' (es.length + ([] : List V).length)) = s.st := by
                  apply List.ext_getElem?
                  intro j
                  rw [List.getElem?_set]
                  split
                  · subst_vars
                    split
                    · rw [ho]; simp
                    · rename_i hj; rw [List.getElem?_eq_none (by omega)]
                  · rfl
                rw [hst, List.append_nil] at hK
                exact ⟨_, _, w, s, hrun, hs, Evolve.refl hs.wf, hx, hK⟩
              · have hKlt : ∀ b j, x.ownBlock = some b → s.K b j → j < es.length * sz' := fun b j hb hk => by
                  have := hs.kout id b j _ ⟨_, _, ho, rfl, hg, hb⟩ ho
                  simp only [O.writes] at this
                  apply Classical.byContradiction
                  intro hc
                  exact this (by omega) hk
                have hxs : xs.length = es.length * sz' := hown0.1
                obtain ⟨hE, hS⟩ := turn hs (w' := w') (o' := .tok e' sz' (es.length + es2.length)) (g' := .row v') (K' := fun b j => s.K b j ∨ (v'.ownBlock = some b ∧ j < (es.length + es2.length) * sz')) ho hg rfl f1 f2 f3 f4
                  (fun b hb hne => by
                    rcases hwhere with ⟨_, _, _, hold⟩ | ⟨_, hold⟩
                    · exact hold b (fun e => hne e.symm) hb
                    · exact hold b hb)
                  ⟨fun _ _ h => .inl h, fun b j z hk hz => by
                    rcases hwhere with ⟨hsame, _, _, hold⟩ | ⟨_, hold⟩
                    · by_cases hb : x.ownBlock = some b
                      · have hj := hKlt b j hb hk
                        have e1 := hown0.cells hb j (xs[j]'(by omega)) (List.getElem?_eq_getElem _)
                        have e2 := hown.cells (hsame.trans hb) j (xs[j]'(by omega)) (by rw [List.getElem?_append_left (by omega)]; exact List.getElem?_eq_getElem _)
                        rw [addr_add, Nat.zero_add] at e1 e2
                        rw [hz] at e1
                        rw [e2, e1]
                      · have hbl := World.block_lt_of_cell? w _ hz
                        rw [World.cell?_of_block (w := w) (hold b (fun e => hb e.symm) hbl)]
                        exact hz
                    · have hbl := World.block_lt_of_cell? w _ hz
                      rw [World.cell?_of_block (w := w) (hold b hbl)]
                      exact hz, fun b es0 c hk hz => by
                    have hbl := (Array.getElem?_eq_some_iff.1 hz).1
                    rcases hwhere with ⟨hsame, _, _, hold⟩ | ⟨_, hold⟩
                    · by_cases hb : x.ownBlock = some b
                      · rcases hown0.2 with ⟨rfl, _⟩ | ⟨g, cap', cur, rfl, _, hcur, _⟩
                        · simp [Value.ownBlock] at hb
                        · simp only [Value.ownBlock, Option.some.injEq] at hb
                          subst hb
                          rw [hcur] at hz
                          simp at hz
                      · rw [hold b (fun e => hb e.symm) hbl]; exact hz
                    · rw [hold b hbl]; exact hz, fun b j n hk hz => by
                    rcases hwhere with ⟨hsame, ⟨ad', cap', hv, _, hv'⟩, _, hold⟩ | ⟨_, hold⟩
                    · by_cases hb : x.ownBlock = some b
                      · rcases hown0.2 with ⟨rfl, _⟩ | ⟨g, cap1, cur1, rfl, _, hcur1, _, _, hs1, _⟩
                        · simp [Value.ownBlock] at hb
                        · simp only [Value.ownBlock, Option.some.injEq] at hb
                          subst hb
                          simp only [Value.slice.injEq, Option.some.injEq] at hv
                          obtain ⟨rfl, _, rfl⟩ := hv
                          rcases hown.2 with ⟨h0, _⟩ | ⟨g2, cap2, cur2, h2, _, hcur2, _, _, hs2, _⟩
                          · rw [hv'] at h0; cases h0
                          · rw [hv'] at h2
                            simp only [Value.slice.injEq, Option.some.injEq, Addr.mk.injEq, and_true, true_and] at h2
                            obtain ⟨rfl, rfl⟩ := h2
                            obtain ⟨cs, t, fr, q1, q2⟩ := hz
                            rw [hcur1] at q1
                            simp only [Option.some.injEq, Obj.cells.injEq] at q1
                            obtain ⟨rfl, rfl, rfl⟩ := q1
                            exact ⟨_, _, _, hcur2, by omega⟩
                      · exact hz.same (hold b (fun e => hb e.symm) hz.lt)
                    · exact hz.same (hold b hz.lt)⟩
                  (fun b j hk => by
                    rcases hk with hk | ⟨hk, _⟩
                    · exact .inl hk
                    · rcases hwhere with ⟨hsame, _, _, _⟩ | ⟨hat, _⟩
                      · exact .inr (.inr (hsame.symm.trans hk))
                      · rw [hat] at hk; simp only [Option.some.injEq] at hk; exact .inr (.inl (by omega)))
                  (fun b j hk => by
                    rcases hk with hk | ⟨hk, _⟩
                    · have := hs.kin b j hk; omega
                    · exact (hown.lt b hk).2)
                  (.inr ⟨_, rfl, by omega, fun e => by omega, fun b hb => by
                    rcases hwhere with ⟨hsame, _, _, _⟩ | ⟨hat, _⟩
                    · exact .inl (hsame.symm.trans hb)
                    · simp only [Gh.at] at hb; rw [hat] at hb; simp only [Option.some.injEq] at hb; exact .inr (by omega)⟩) rfl
                  (fun b j hb hwr hk => by
                    simp only [O.writes, Gh.at] at hwr hb
                    rcases hk with hk | ⟨_, hk⟩
                    · rcases hwhere with ⟨hsame, _, _, _⟩ | ⟨hat, _⟩
                      · have := hKlt b j (hsame.symm.trans hb) hk
                        have : es.length * sz' ≤ (es.length + es2.length) * sz' := Nat.mul_le_mul_right _ (by omega)
                        omega
                      · rw [hat] at hb
                        simp only [Option.some.injEq] at hb
                        have := hs.kin b j hk
                        omega
                    · omega)
                  (fun _ => ⟨_, hown⟩)
                have hszA : ∀ el ∈ es ++ es2, el.cells.length = sz' := fun el hel => (List.mem_append.1 hel).elim (hsz1 el) (hsz2 el)
                have hone1 : ∀ c ∈ flat es, c.one = true := by obtain ⟨_, _, _, _, _, _, _, _, h1, _⟩ := hpx.sl_inv; exact h1
                have hpr := pr_of_own (K := fun b j => s.K b j ∨ (v'.ownBlock = some b ∧ j < (es.length + es2.length) * sz')) hown (by rw [List.length_append]) (by omega) hszA
                  (fun c hc => by rw [flat_append] at hc; exact (List.mem_append.1 hc).elim (hone1 c) (hone2 c)) (fun b j hb hj => .inr ⟨hb, hj⟩)
                  (fun j c u hc hu => by
                    rw [flat_append] at hc
                    by_cases hj : j < (flat es).length
                    · rw [List.getElem?_append_left hj] at hc
                      rw [List.getElem?_append_left (by omega)] at hu
                      obtain ⟨ad0, cap0, sz0, y0, hx0, _, _, _, _, hcell⟩ := hpx.sl_inv
                      obtain ⟨⟨b0, o0, hb0, hc0, _⟩, hp0⟩ := hcell j c hc
                      have : y0 j = u := by
                        have hob : x.ownBlock = some b0 := by rw [hx0, hb0]; rfl
                        have e1 := hown0.cells hob j u hu
                        rcases hown0.2 with ⟨h1, _⟩ | ⟨g, cap', cur, h1, _⟩
                        · rw [hx0, hb0] at h1; simp at h1
                        · rw [hx0, hb0] at h1
                          simp only [Value.slice.injEq, Option.some.injEq, Addr.mk.injEq, and_true] at h1
                          obtain ⟨⟨_, rfl⟩, _⟩ := h1
                          rw [addr_add] at e1
                          rw [hc0] at e1
                          simpa using e1
                      rw [← this]
                      exact hp0.keeps hE.keeps
                    · rw [List.getElem?_append_right (by omega)] at hc
                      rw [List.getElem?_append_right (by omega)] at hu
                      rw [show j - xs.length = j - (flat es).length by omega] at hu
                      exact (hnrep _ c u hc hu).keeps hE.keeps)
                refine ⟨_, v', w', _, hrun, hS, hE, .tok _ _ _ hpr ⟨.tok e' sz' (es.length + es2.length), ?_, by simp, fun _ => .inl ?_, hszA⟩, hK⟩
                · simp [S.turn, (List.getElem?_eq_some_iff.1 ho).1]
                · simp [S.turn, (List.getElem?_eq_some_iff.1 hg).1]
            | _ => exact h.elim
      | ref id ver =>
        simp only at h
        cases ho : s.st[id]? with
        | none => simp [ho] at h
        | some o =>
          rw [ho] at h
          cases o with
          | arr e' sz' v es =>
            simp only at h
            obtain ⟨rfl, rfl, rfl, hb1, hb2, hK⟩ := h
            obtain ⟨z, w', s', h1, h2, h3, h4, h5⟩ := append_ref (ty := ty) hs he hx hy hr hsz2 hone2 ho hb1 hb2
            exact ⟨_, z, w', s', h1, h2, h3, h4, h5 ▸ hK⟩
          | _ => exact h.elim
      | _ => exact h.elim
end
end Go.Duo

namespace Go.Duo
open Go
def faP (P : Program) (t : TypeId) (st : List O) (f : Nat) (x : V) (K : V → Prop) : Prop :=
  match fld P t f with
  | none => False
  | some (off, n, _) => 0 < n ∧ match x with
    | .ptr id o => K (.ptr id (o + off))
    | .dptr cs => K (.dptr (cs.drop off))
    | .rptr id ver o => match st[id]? with
      | some (.arr _ _ v _) => ver = v ∧ K (.rptr id ver (o + off))
      | _ => False
    | _ => False
def fieldP (P : Program) (t : TypeId) (f : Nat) (x : V) (K : V → Prop) : Prop :=
  match fld P t f with
  | none => False
  | some (off, n, g) => match x with
    | .agg cs => off + n ≤ cs.length ∧ K (pack g n (cs.drop off))
    | _ => False
def iaP (P : Program) (t : TypeId) (st : List O) (x i : V) (K : V → Prop) : Prop :=
  match i with
  | .int _ n => match elt P t with
    | some (_, sz, _) => match x with
      | .sl es _ => 0 ≤ n ∧ n < es.length ∧ (es.getD n.toNat .undef).cells.length = sz ∧ K (.dptr (es.getD n.toNat .undef).cells)
      | .ref id ver => match st[id]? with
        | some (.arr _ sz' v es) => ver = v ∧ sz' = sz ∧ 0 ≤ n ∧ n < es.length ∧ K (.rptr id ver (n.toNat * sz))
        | _ => False
      | _ => False
    | none => match arr P t with
      | some (len, sz, _) => 0 ≤ n ∧ n < len ∧ match x with
        | .ptr id o => K (.ptr id (o + n.toNat * sz))
        | .dptr cs => K (.dptr (cs.drop (n.toNat * sz)))
        | _ => False
      | none => False
  | _ => False
def ixP (P : Program) (t : TypeId) (x i : V) (K : V → Prop) : Prop :=
  match i with
  | .int _ n => match x with
    | .str s => P.underlying t = some .string ∧ 0 ≤ n ∧ n < s.length ∧ K (.int .u8 (s.getD n.toNat 0).toNat)
    | .agg cs => match arr P t with
      | some (len, sz, g) => 0 ≤ n ∧ n < len ∧ n.toNat * sz + sz ≤ cs.length ∧ K (pack g sz (cs.drop (n.toNat * sz)))
      | none => False
    | _ => False
  | _ => False
section
variable {P : Program} {gl : Nat → V} {w : World} {s : S} {x y : Value} {a b : V} {K : V → Prop}
theorem fld_runs {t : TypeId} {f off n : Nat} {g : Bool} (h : fld P t f = some (off, n, g)) : ∃ fs fd, P.underlying t = some (.struct fs) ∧ fs[f]? = some fd ∧ lay P fd.type = some (n, g) ∧ fd.offset = off := by
  unfold fld at h
  split at h
  · rename_i fs hu
    cases hf : fs[f]? with
    | none => simp [hf] at h
    | some fd =>
      simp only [hf, Option.bind_some, Option.map_eq_some_iff, Prod.mk.injEq] at h
      obtain ⟨⟨n', g'⟩, h1, h2, h3⟩ := h
      simp only [Prod.mk.injEq] at h3
      obtain ⟨rfl, rfl⟩ := h3
      exact ⟨fs, fd, hu, hf, h1, h2⟩
  · cases h
theorem dptr_drop {cs : List V} {bk o : Nat} (h : PR w s.K (.dptr cs) (.pointer (some ⟨bk, o, none⟩))) (off : Nat) : PR w s.K (.dptr (cs.drop off)) (.pointer (some ⟨bk, o + off, none⟩)) := by
  cases h with
  | dptr _ _ _ y hc h =>
    refine .dptr _ bk (o + off) (fun j => y (off + j)) (fun j c hj => ?_) (fun j c hj => ?_)
    · rw [List.getElem?_drop] at hj
      rw [Nat.add_assoc]
      exact hc _ c hj
    · rw [List.getElem?_drop] at hj
      exact h _ c hj
theorem Rep.rptr_inv {id ver off : Nat} (h : Rep w s (.rptr id ver off) x) : x.oneCell' = true ∧ RptrOK s id ver off x := by
  cases h with
  | pure _ _ h => cases h
  | rptr _ _ _ _ h1 h => exact ⟨h1, h⟩
theorem fa_sound {t : TypeId} {f : Nat} (hx : Rep w s a x) (h : faP P t s.st f a K) : (∃ v z, (Instr.fieldAt t x f).run P w = .ok z w ∧ Rep w s v z ∧ K v) := by
  unfold faP at h
  cases hf : fld P t f with
  | none => simp [hf] at h
  | some o =>
    obtain ⟨off, n, g⟩ := o
    rw [hf] at h
    simp only at h
    obtain ⟨hn, h⟩ := h
    obtain ⟨fs, fd, hu, hfd, hl, rfl⟩ := fld_runs hf
    have hrun : ∀ bk o, (Instr.fieldAt t (.pointer (some ⟨bk, o, none⟩)) f).run P w = .ok (.pointer (some ⟨bk, o + fd.offset, none⟩)) w := fun bk o => by
      simp only [Instr.fieldAt, Sem.run_bind, run_underlying hu, Result.andThen_ok, hfd, Instr.sureAddr, Sem.run_pure, fieldPlace, (lay_runs hl w).1]
      rw [if_neg (by omega)]
      simp [addr_add]
    cases a with
    | ptr id o =>
      obtain ⟨bk, rfl, hg⟩ := hx.ptr_inv
      exact ⟨_, _, hrun bk o, .ptr _ _ bk hg, h⟩
    | dptr cs =>
      obtain ⟨bk, o, rfl, _⟩ := hx.dptr_inv
      exact ⟨_, _, hrun bk o, .pure _ _ (dptr_drop hx.dptr_pr _), h⟩
    | rptr id ver o =>
      simp only at h
      obtain ⟨_, o', ho, hm⟩ := hx.rptr_inv
      rw [ho] at h
      cases o' with
      | arr e sz v es =>
        obtain ⟨rfl, h⟩ := h
        obtain ⟨y, bk, hg, hat, rfl⟩ := hm.2 rfl
        exact ⟨_, _, hrun bk o, .rptr _ _ _ _ rfl ⟨_, ho, Nat.le_refl _, fun _ => ⟨y, bk, hg, hat, rfl⟩⟩, h⟩
      | _ => exact h.elim
    | _ => exact h.elim
theorem field_sound {t : TypeId} {f : Nat} (hx : Rep w s a x) (h : fieldP P t f a K) : ∃ v z, (Instr.field t x f).run P w = .ok z w ∧ Rep w s v z ∧ K v := by
  unfold fieldP at h
  cases hf : fld P t f with
  | none => simp [hf] at h
  | some o =>
    obtain ⟨off, n, g⟩ := o
    rw [hf] at h
    obtain ⟨fs, fd, hu, hfd, hl, rfl⟩ := fld_runs hf
    cases a with
    | agg cs =>
      obtain ⟨hoff, h⟩ := h
      obtain ⟨xs, rfl, hlen, hr⟩ := hx.agg_inv
      refine ⟨_, _, ?_, rep_pack (xs := (xs.drop fd.offset).take n) (lay_runs hl w).2.2 (by simp; omega) (by simp; omega) (fun j c z hj hc hz => ?_), h⟩
      · simp only [Instr.field, Sem.run_bind, run_underlying hu, Result.andThen_ok, hfd, asAgg, Sem.run_pure]
        exact run_part hl (by omega)
      · rw [List.getElem?_take_of_lt hj, List.getElem?_drop] at hz
        rw [List.getElem?_drop] at hc
        exact hr _ c z hc hz
    | _ => exact h.elim
theorem arr_runs {t : TypeId} {len sz : Nat} {g : Bool} (h : arr P t = some (len, sz, g)) : ∃ e, P.underlying t = some (.array len e) ∧ lay P e = some (sz, g) := by
  unfold arr at h
  split at h
  · rename_i n e hu
    simp only [Option.map_eq_some_iff, Prod.mk.injEq] at h
    obtain ⟨⟨m, g'⟩, h1, rfl, h2⟩ := h
    simp only [Prod.mk.injEq] at h2
    obtain ⟨rfl, rfl⟩ := h2
    exact ⟨e, hu, h1⟩
  · cases h
theorem elt_lay {t e : TypeId} {sz by_ : Nat} (h : elt P t = some (e, sz, by_)) (w : World) : P.underlying t = some (.slice e) ∧ (sizeOf e).run P w = .ok sz w := by
  obtain ⟨h1, i, z, h2, h3, h4, h5, h6, h7⟩ := elt_runs h
  exact ⟨h1, by simp [sizeOf, typeInfo, h2, h4]⟩
theorem flat_at {es : List V} {sz : Nat} (hall : ∀ e ∈ es, e.cells.length = sz) : ∀ {i : Nat} (hi : i < es.length) {j : Nat} {c : V}, (es[i]).cells[j]? = some c → (flat es)[i * sz + j]? = some c := by
  induction es with
  | nil => intro i hi; simp at hi
  | cons e es ih =>
    intro i hi j c hj
    cases i with
    | zero =>
      simp only [List.getElem_cons_zero] at hj
      rw [flat_cons, Nat.zero_mul, Nat.zero_add, List.getElem?_append_left (List.getElem?_eq_some_iff.1 hj).1]
      exact hj
    | succ i =>
      simp only [List.getElem_cons_succ] at hj
      rw [flat_cons, List.getElem?_append_right (by rw [hall e (by simp), Nat.add_mul]; omega), hall e (by simp)]
      rw [show (i + 1) * sz + j - sz = i * sz + j by rw [Nat.add_mul]; omega]
      exact ih (fun e he => hall e (List.mem_cons_of_mem _ he)) (by simpa using hi) hj
/-- One element of a row that is read, by its address. -/
theorem dptr_of_row {es : List V} {ad : Option Addr} {cap i sz : Nat} (hp : PR w s.K (.sl es none) (.slice ad es.length cap)) (hi : i < es.length) (hsz : (es.getD i .undef).cells.length = sz) (hpos : 0 < sz) :
    ∃ b o, ad = some ⟨b, o, none⟩ ∧ PR w s.K (.dptr (es.getD i .undef).cells) (.pointer (some ⟨b, o + i * sz, none⟩)) := by
  obtain ⟨ad', cap', sz', y, he, _, _, hall, _, hcell⟩ := hp.sl_inv
  simp only [Value.slice.injEq] at he
  obtain ⟨rfl, _, rfl⟩ := he
  have hgi : es.getD i .undef = es[i] := by rw [List.getD_eq_getElem?_getD, List.getElem?_eq_getElem hi]; rfl
  rw [hgi] at hsz ⊢
  have hs : sz' = sz := (hall _ (List.getElem_mem _)).symm.trans hsz
  subst hs
  have hfl : ∀ j c, (es[i]).cells[j]? = some c → (flat es)[i * sz' + j]? = some c := fun j c hj => flat_at hall hi hj
  obtain ⟨⟨b, o, rfl, _⟩, _⟩ := hcell (i * sz' + 0) ((es[i]).cells[0]'(by omega)) (hfl 0 _ (List.getElem?_eq_getElem _))
  refine ⟨b, o, rfl, .dptr _ b _ (fun j => y (i * sz' + j)) (fun j c hj => ?_) (fun j c hj => ?_)⟩
  · obtain ⟨b', o', hb, hc⟩ := (hcell _ c (hfl j c hj)).1
    simp only [Option.some.injEq, Addr.mk.injEq, and_true] at hb
    obtain ⟨rfl, rfl⟩ := hb
    rw [Nat.add_assoc]
    exact hc
  · exact (hcell _ c (hfl j c hj)).2
theorem ref_inv {id ver : Nat} (h : Rep w s (.ref id ver) x) : RefOK s id ver x := by
  cases h with
  | pure _ _ h => cases h
  | ref _ _ _ _ h => exact h
theorem ia_sound (hs : Sim P gl w s) {t : TypeId} (hx : Rep w s a x) (hy : Rep w s b y) (h : iaP P t s.st a b K) : ∃ v z, (Instr.indexAt t x y).run P w = .ok z w ∧ Rep w s v z ∧ K v := by
  cases b with
  | int k n =>
    cases hy.int_inv
    simp only [iaP] at h
    cases he : elt P t with
    | some o =>
      obtain ⟨e, sz, by_⟩ := o
      rw [he] at h
      obtain ⟨hu, hsize⟩ := elt_lay he w
      have hpos : 0 < sz := by obtain ⟨_, i, z, _, _, rfl, _, _, h⟩ := elt_runs he; exact h
      have hrun : ∀ bk o len cap, 0 ≤ n → n < (len : Nat) → (Instr.indexAt t (.slice (some ⟨bk, o, none⟩) len cap) (.int k n)).run P w = .ok (.pointer (some ⟨bk, o + n.toNat * sz, none⟩)) w := fun bk o len cap h0 h1 => by
        simp only [Instr.indexAt, asIntOf, Sem.run_bind, Sem.run_pure, Result.andThen_ok, run_underlying hu]
        rw [if_pos ⟨h0, h1⟩]
        simp [hsize, addr_add]
      cases a with
      | sl es tk =>
        simp only at h
        obtain ⟨h0, h1, hsz, h⟩ := h
        have hp : PR w s.K (.sl es none) x := hx.sl_inv
        obtain ⟨ad, cap, _, _, rfl, _⟩ := hp.sl_inv
        obtain ⟨bk, o, rfl, hd⟩ := dptr_of_row hp (i := n.toNat) (by omega) hsz hpos
        exact ⟨_, _, hrun bk o _ cap h0 h1, .pure _ _ hd, h⟩
      | ref id ver =>
        simp only at h
        obtain ⟨o', ho, hm⟩ := ref_inv hx
        rw [ho] at h
        cases o' with
        | arr e' sz' v es =>
          obtain ⟨rfl, rfl, h0, h1, h⟩ := h
          rcases hm.2 rfl with hg | ⟨rfl, _⟩
          rotate_left
          · simp at h1; omega
          obtain ⟨xs, hown, _⟩ := hs.obj id _ _ ho hg
          rcases hown.2 with ⟨_, h0'⟩ | ⟨g, cap, cur, rfl, _⟩
          · rw [h0'] at h1; omega
          · exact ⟨_, _, hrun g 0 _ cap h0 h1, .rptr _ _ _ _ rfl ⟨_, ho, Nat.le_refl _, fun _ => ⟨_, g, hg, rfl, by rw [Nat.zero_add]⟩⟩, h⟩
        | _ => exact h.elim
      | _ => exact h.elim
    | none =>
      rw [he] at h
      cases ha : arr P t with
      | none => simp [ha] at h
      | some o =>
        obtain ⟨len, sz, g⟩ := o
        rw [ha] at h
        obtain ⟨h0, h1, h⟩ := h
        obtain ⟨e, hu, hl⟩ := arr_runs ha
        have hrun : ∀ bk o, (Instr.indexAt t (.pointer (some ⟨bk, o, none⟩)) (.int k n)).run P w = .ok (.pointer (some ⟨bk, o + n.toNat * sz, none⟩)) w := fun bk o => by
          simp only [Instr.indexAt, asIntOf, Sem.run_bind, Sem.run_pure, Result.andThen_ok, run_underlying hu, Instr.sureAddr]
          rw [if_pos ⟨h0, h1⟩]
          simp [(lay_runs hl w).1, addr_add]
        cases a with
        | ptr id o =>
          obtain ⟨bk, rfl, hg⟩ := hx.ptr_inv
          exact ⟨_, _, hrun bk o, .ptr _ _ bk hg, h⟩
        | dptr cs =>
          obtain ⟨bk, o, rfl, _⟩ := hx.dptr_inv
          exact ⟨_, _, hrun bk o, .pure _ _ (dptr_drop hx.dptr_pr _), h⟩
        | _ => exact h.elim
  | _ => exact h.elim
theorem ix_sound {t : TypeId} (hx : Rep w s a x) (hy : Rep w s b y) (h : ixP P t a b K) : ∃ v z, (Instr.index t x y).run P w = .ok z w ∧ Rep w s v z ∧ K v := by
  cases b with
  | int k n =>
    cases hy.int_inv
    simp only [ixP] at h
    cases a with
    | str l =>
      obtain ⟨hu, h0, h1, h⟩ := h
      cases hx.str_inv
      refine ⟨_, .int .u8 (l.getD n.toNat 0).toNat, ?_, .pure _ _ (.int _ _), h⟩
      simp only [Instr.index, asIntOf, Sem.run_bind, Sem.run_pure, Result.andThen_ok, run_underlying hu]
      rw [if_pos h0]
      have hlt : n.toNat < (⟨l.toArray⟩ : ByteArray).size := by simp [ByteArray.size]; omega
      rw [ByteArray.getElem?_lt' _ _ hlt]
      have : (⟨l.toArray⟩ : ByteArray)[n.toNat] = l.getD n.toNat 0 := by
        rw [List.getD_eq_getElem?_getD, List.getElem?_eq_getElem (by omega)]
        rfl
      rw [this]
      rfl
    | agg cs =>
      cases ha : arr P t with
      | none => simp [ha] at h
      | some o =>
        obtain ⟨len, sz, g⟩ := o
        rw [ha] at h
        obtain ⟨h0, h1, h2, h⟩ := h
        obtain ⟨e, hu, hl⟩ := arr_runs ha
        obtain ⟨xs, rfl, hlen, hr⟩ := hx.agg_inv
        refine ⟨_, _, ?_, rep_pack (xs := (xs.drop (n.toNat * sz)).take sz) (lay_runs hl w).2.2 (by simp; omega) (by simp; omega) (fun j c z hj hc hz => ?_), h⟩
        · simp only [Instr.index, asIntOf, Sem.run_bind, Sem.run_pure, Result.andThen_ok, run_underlying hu]
          rw [if_pos ⟨h0, h1⟩, Sem.run_bind, (lay_runs hl w).1, Result.andThen_ok]
          exact run_part hl (by omega)
        · rw [List.getElem?_take_of_lt hj, List.getElem?_drop] at hz
          rw [List.getElem?_drop] at hc
          exact hr _ c z hc hz
    | _ => exact h.elim
  | _ => exact h.elim
end
end Go.Duo

namespace Go.Duo
open Go
def bndOf (d : Int) : Option V → Option Int
  | none => some d
  | some (.int _ n) => some n
  | some _ => none
def sliceP (P : Program) (t : TypeId) (x : V) (lo hi mx : Option V) (K : V → Prop) : Prop :=
  match x with
  | .str s => P.underlying t = some .string ∧ match mx, bndOf 0 lo, bndOf s.length hi with
    | none, some l, some h => 0 ≤ l ∧ l ≤ h ∧ h ≤ s.length ∧ K (.str ((s.take h.toNat).drop l.toNat))
    | _, _, _ => False
  | .sl es _ => match elt P t with
    | none => False
    | some (_, sz, _) => match mx, bndOf 0 lo, bndOf es.length hi with
      | none, some l, some h => (∀ e ∈ es, e.cells.length = sz) ∧ 0 ≤ l ∧ l ≤ h ∧ h ≤ es.length ∧ K (.sl ((es.take h.toNat).drop l.toNat) none)
      | some (.int _ m), some l, some h => hi.isSome = true ∧ m = 0 ∧ l = 0 ∧ h = 0 ∧ K .nil
      | _, _, _ => False
  | .nil => match elt P t with
    | none => False
    | some _ => match mx, bndOf 0 lo, bndOf 0 hi with
      | none, some l, some h => l = 0 ∧ h = 0 ∧ K .nil
      | some (.int _ m), some l, some h => hi.isSome = true ∧ m = 0 ∧ l = 0 ∧ h = 0 ∧ K .nil
      | _, _, _ => False
  | .dptr cs => match arr P t, lo, hi, mx with
    | some (len, 1, false), none, none, none => len ≤ cs.length ∧ len ≤ maxLen ∧ (cs.take len).all V.one = true ∧ K (.sl (cs.take len) none)
    | _, _, _, _ => False
  | _ => False
section
variable {P : Program} {gl : Nat → V} {w : World} {s : S} {x y : Value} {a b : V} {K : V → Prop}
/-- Bounds, as they come. -/
inductive RepO (w : World) (s : S) : Option V → Option Value → Prop
  | none : RepO w s none none
  | some (v : V) (x : Value) (h : Rep w s v x) : RepO w s (some v) (some x)
theorem RepO.mk {ρ : Operand → Value} {e : Operand → V} (h : ∀ o, Rep w s (e o) (ρ o)) (o : Option Operand) : RepO w s (o.map e) (o.map ρ) := by
  cases o with
  | none => exact .none
  | some o => exact .some _ _ (h o)
theorem run_bound {k : IntKind} {n : Int} {m : Nat} {c : BoundsCode} (h0 : 0 ≤ n) (h1 : n ≤ m) : (Instr.sliceBound (.int k n) m c).run P w = .ok n.toNat w := by
  simp only [Instr.sliceBound, asIntOf, Sem.run_bind, Sem.run_pure, Result.andThen_ok]
  rw [if_pos ⟨h0, h1⟩]
  rfl
theorem run_bounds {isSlice : Bool} {len cap : Nat} {lo hi : Option V} {l h : Int} {xl xh : Option Value} (hl : RepO w s lo xl) (hh : RepO w s hi xh) (el : bndOf 0 lo = some l) (eh : bndOf len hi = some h) (h0 : 0 ≤ l) (h1 : l ≤ h) (h2 : h ≤ cap) :
    (Instr.sliceBounds isSlice len cap xl xh none).run P w = .ok (l.toNat, h.toNat, cap) w := by
  cases hh with
  | none =>
    simp only [bndOf, Option.some.injEq] at eh
    subst eh
    cases hl with
    | none =>
      simp only [bndOf, Option.some.injEq] at el
      subst el
      simp [Instr.sliceBounds]
    | some v z hv =>
      cases v with
      | int k n =>
        simp only [bndOf, Option.some.injEq] at el
        subst el
        cases hv.int_inv
        simp [Instr.sliceBounds, run_bound h0 h1]
      | _ => simp [bndOf] at el
  | some u y hu =>
    cases u with
    | int k' n' =>
      simp only [bndOf, Option.some.injEq] at eh
      subst eh
      cases hu.int_inv
      have hb := fun c => run_bound (P := P) (w := w) (k := k') (c := c) (show (0 : Int) ≤ n' by omega) h2
      cases hl with
      | none =>
        simp only [bndOf, Option.some.injEq] at el
        subst el
        simp [Instr.sliceBounds, hb]
      | some v z hv =>
        cases v with
        | int k n =>
          simp only [bndOf, Option.some.injEq] at el
          subst el
          cases hv.int_inv
          have hb' := fun c => run_bound (P := P) (w := w) (k := k) (c := c) (m := n'.toNat) h0 (by omega)
          simp [Instr.sliceBounds, hb, hb']
        | _ => simp [bndOf] at el
    | _ => simp [bndOf] at eh
/-- Bounds that are all 0. -/
theorem run_bounds0 {len cap : Nat} {lo hi : Option V} {xl xh : Option Value} {x : Value} {l h : Int} {k : IntKind} (hl : RepO w s lo xl) (hh : RepO w s hi xh) (hv : Rep w s (.int k 0) x) (el : bndOf 0 lo = some l) (eh : bndOf len hi = some h) (h0 : l = 0) (h1 : h = 0)
    (hi0 : hi.isSome = true) : (Instr.sliceBounds true len cap xl xh (some x)).run P w = .ok (0, 0, 0) w := by
  subst h0 h1
  cases hv.int_inv
  have hb := fun (k : IntKind) (c : BoundsCode) (m : Nat) => run_bound (P := P) (w := w) (k := k) (c := c) (n := 0) (m := m) (Int.le_refl _) (by omega)
  cases hh with
  | none => cases hi0
  | some u y hu =>
    cases u with
    | int k' n' =>
      simp only [bndOf, Option.some.injEq] at eh
      subst eh
      cases hu.int_inv
      cases hl with
      | none => simp [Instr.sliceBounds, hb]
      | some v z hv =>
        cases v with
        | int k n =>
          simp only [bndOf, Option.some.injEq] at el
          subst el
          cases hv.int_inv
          simp [Instr.sliceBounds, hb]
        | _ => simp [bndOf] at el
    | _ => simp [bndOf] at eh
theorem pr_cut {es : List V} {ad : Option Addr} {cap sz l h : Nat} (hp : PR w s.K (.sl es none) (.slice ad es.length cap)) (hl : l ≤ h) (hh : h ≤ es.length) (hsz : ∀ sz', (∀ e ∈ es, e.cells.length = sz') → es ≠ [] → sz' = sz) :
    PR w s.K (.sl ((es.take h).drop l) none) (.slice (if cap = l then ad else ad.map (·.add (l * sz))) (h - l) (cap - l)) := by
  obtain ⟨ad', cap', sz', y, he, hc1, hc2, hall, h1, hcell⟩ := hp.sl_inv
  simp only [Value.slice.injEq] at he
  obtain ⟨rfl, _, rfl⟩ := he
  have hlen : ((es.take h).drop l).length = h - l := by simp; omega
  rw [← hlen]
  have hmem : ∀ e ∈ (es.take h).drop l, e ∈ es := fun e he => List.mem_of_mem_take (List.mem_of_mem_drop he)
  have hfm : ∀ c ∈ flat ((es.take h).drop l), c ∈ flat es := fun c hc => by
    obtain ⟨e, he, hce⟩ := List.mem_flatMap.1 hc
    exact List.mem_flatMap.2 ⟨e, hmem e he, hce⟩
  have hidx : ∀ j c, (flat ((es.take h).drop l))[j]? = some c → (flat es)[l * sz' + j]? = some c := fun j c hj => by
    have hsplit : es = es.take l ++ ((es.take h).drop l ++ es.drop h) := by
      have e1 : es.take h = es.take l ++ (es.take h).drop l := by
        conv => lhs; rw [← List.take_append_drop l (es.take h)]
        rw [List.take_take, Nat.min_eq_left hl]
      rw [← List.append_assoc, ← e1, List.take_append_drop]
    have hf : flat es = flat (es.take l) ++ (flat ((es.take h).drop l) ++ flat (es.drop h)) := by
      conv => lhs; rw [hsplit]
      rw [flat_append, flat_append]
    have hfl : (flat (es.take l)).length = l * sz' := by
      rw [flat_length (sz := sz') (fun e he => hall e (List.mem_of_mem_take he))]
      simp [Nat.min_eq_left (Nat.le_trans hl hh)]
    rw [hf, List.getElem?_append_right (by omega), hfl, show l * sz' + j - l * sz' = j by omega, List.getElem?_append_left (List.getElem?_eq_some_iff.1 hj).1]
    exact hj
  refine .sl _ _ _ sz' (fun j => y (l * sz' + j)) (by omega) (by omega) (fun e he => hall e (hmem e he)) (fun c hc => h1 c (hfm c hc)) (fun j c hj => ?_) (fun j c hj => (hcell _ c (hidx j c hj)).2)
  have hne : es ≠ [] := fun hn => by subst hn; simp at hj
  obtain rfl := hsz sz' hall hne
  obtain ⟨b, o, rfl, hc⟩ := (hcell _ c (hidx j c hj)).1
  have hlt : l < h := by
    apply Classical.byContradiction
    intro hn
    have : (es.take h).drop l = [] := List.eq_nil_of_length_eq_zero (by rw [hlen]; omega)
    rw [this] at hj
    simp at hj
  rw [if_neg (by omega)]
  refine ⟨b, o + l * sz', ?_, ?_⟩
  · simp [addr_add]
  · rw [Nat.add_assoc]
    exact hc
theorem slice_sound {t : TypeId} {lo hi mx : Option V} {xl xh xm : Option Value} (hx : Rep w s a x) (hl : RepO w s lo xl) (hh : RepO w s hi xh) (hm : RepO w s mx xm) (h : sliceP P t a lo hi mx K) :
    ∃ v z, (Instr.sliceAt t x xl xh xm).run P w = .ok z w ∧ Rep w s v z ∧ K v := by
  cases a with
  | str st =>
    obtain ⟨hu, h⟩ := h
    cases hx.str_inv
    cases mx with
    | some m => simp at h
    | none =>
      cases hm
      cases el : bndOf 0 lo with
      | none => simp [el] at h
      | some l =>
        cases eh : bndOf st.length hi with
        | none => simp [el, eh] at h
        | some hg =>
          rw [el, eh] at h
          obtain ⟨h0, h1, h2, h⟩ := h
          refine ⟨_, _, ?_, .pure _ _ (.str _), h⟩
          have hsz : (⟨st.toArray⟩ : ByteArray).size = st.length := by simp [ByteArray.size]
          have hb := run_bounds (P := P) (w := w) (isSlice := false) (len := st.length) (cap := st.length) hl hh el eh h0 h1 h2
          simp only [Instr.sliceAt, Instr.slice, Sem.run_bind, run_underlying hu, Result.andThen_ok, Option.isSome_none, Bool.false_eq_true, if_false, Sem.run_pure, hsz, hb, Result.ok.injEq, Value.string.injEq, and_true]
          apply ByteArray.ext
          apply Array.ext'
          rw [Lib.extract_data]
          simp [List.drop_take]
  | sl es tk =>
    simp only [sliceP] at h
    cases he : elt P t with
    | none => simp [he] at h
    | some o =>
      obtain ⟨e, sz, by_⟩ := o
      rw [he] at h
      obtain ⟨hu, hsize⟩ := elt_lay he w
      have hp : PR w s.K (.sl es none) x := hx.sl_inv
      obtain ⟨ad, cap, _, _, rfl, hcap, hmax, _⟩ := hp.sl_inv
      cases el : bndOf 0 lo with
      | none => cases mx <;> simp [el] at h
      | some l =>
        cases eh : bndOf es.length hi with
        | none => cases mx <;> simp [el, eh] at h
        | some hg =>
          cases mx with
          | none =>
            cases hm
            rw [el, eh] at h
            obtain ⟨hall, h0, h1, h2, h⟩ := h
            have hb := run_bounds (P := P) (w := w) (isSlice := true) (len := es.length) (cap := cap) hl hh el eh h0 h1 (by omega)
            refine ⟨_, _, ?_, .pure _ _ (pr_cut hp (l := l.toNat) (h := hg.toNat) (sz := sz) (by omega) (by omega) (fun sz' ha hne => by
              obtain ⟨e0, he0⟩ := List.exists_mem_of_ne_nil es hne
              exact (ha e0 he0).symm.trans (hall e0 he0))), h⟩
            simp only [Instr.sliceAt, Instr.slice, Sem.run_bind, run_underlying hu, Result.andThen_ok, Sem.run_pure, hb, hsize]
          | some m =>
            cases m with
            | int k n =>
              rw [el, eh] at h
              obtain ⟨hi0, rfl, h0, h1, h⟩ := h
              cases hm with
              | some _ xm hm =>
                have hb := run_bounds0 (P := P) (len := es.length) (cap := cap) hl hh hm el eh h0 h1 hi0
                refine ⟨_, _, ?_, .pure _ _ (.nil ad), h⟩
                simp [Instr.sliceAt, Instr.slice, run_underlying hu, hb, hsize]
            | _ => simp [el, eh] at h
  | nil =>
    simp only [sliceP] at h
    cases he : elt P t with
    | none => simp [he] at h
    | some o =>
      obtain ⟨e, sz, by_⟩ := o
      rw [he] at h
      obtain ⟨hu, hsize⟩ := elt_lay he w
      obtain ⟨ad, rfl⟩ := hx.nil_inv
      cases el : bndOf 0 lo with
      | none => cases mx <;> simp [el] at h
      | some l =>
        cases eh : bndOf 0 hi with
        | none => cases mx <;> simp [el, eh] at h
        | some hg =>
          cases mx with
          | none =>
            cases hm
            rw [el, eh] at h
            obtain ⟨rfl, rfl, h⟩ := h
            have hb := run_bounds (P := P) (w := w) (isSlice := true) (len := 0) (cap := 0) hl hh el eh (by omega) (by omega) (by omega)
            refine ⟨_, _, ?_, .pure _ _ (.nil ad), h⟩
            simp [Instr.sliceAt, Instr.slice, run_underlying hu, hb, hsize]
          | some m =>
            cases m with
            | int k n =>
              rw [el, eh] at h
              obtain ⟨hi0, rfl, h0, h1, h⟩ := h
              cases hm with
              | some _ xm hm =>
                have hb := run_bounds0 (P := P) (len := 0) (cap := 0) hl hh hm el eh h0 h1 hi0
                refine ⟨_, _, ?_, .pure _ _ (.nil ad), h⟩
                simp [Instr.sliceAt, Instr.slice, run_underlying hu, hb, hsize]
            | _ => simp [el, eh] at h
  | dptr cs =>
    simp only [sliceP] at h
    cases ha : arr P t with
    | none => simp [ha] at h
    | some o =>
      obtain ⟨len, sz, g⟩ := o
      rw [ha] at h
      rcases sz with _ | _ | sz
      · cases g <;> cases lo <;> cases hi <;> cases mx <;> simp at h
      · cases g with
        | true => simp at h
        | false =>
          cases lo with
          | some _ => simp at h
          | none =>
            cases hi with
            | some _ => simp at h
            | none =>
              cases mx with
              | some _ => simp at h
              | none =>
                obtain ⟨h1, h2, h3, h⟩ := h
                cases hl; cases hh; cases hm
                obtain ⟨e, hu, hle⟩ := arr_runs ha
                obtain ⟨bk, o, rfl, y, hy⟩ := hx.dptr_inv
                have hcell : ∀ v ∈ cs.take len, v.cells = [v] := fun v hv => by
                  have := List.all_eq_true.1 h3 v hv
                  cases v <;> first | rfl | simp [V.one] at this
                have hfl : flat (cs.take len) = cs.take len := by
                  have : ∀ l : List V, (∀ v ∈ l, v.cells = [v]) → flat l = l := fun l hl => by
                    induction l with
                    | nil => rfl
                    | cons v l ih => rw [flat_cons, hl v (by simp), ih (fun v hv => hl v (List.mem_cons_of_mem _ hv))]; rfl
                  exact this _ hcell
                have hlen : (cs.take len).length = len := by simp; omega
                refine ⟨_, .slice (some ⟨bk, o, none⟩) (cs.take len).length len, ?_, .pure _ _ (.sl (cs.take len) _ len 1 y (by omega) h2 (fun v hv => by rw [hcell v hv]; rfl) (fun c hc => by rw [hfl] at hc; exact List.all_eq_true.1 h3 c hc) (fun j c hj => ?_) (fun j c hj => ?_)), h⟩
                · have hne : ∀ m : Nat, (if m = 0 then (⟨bk, o, none⟩ : Addr) else ⟨bk, o, none⟩) = ⟨bk, o, none⟩ := fun m => by split <;> rfl
                  simp [Instr.sliceAt, Sem.run_bind, run_underlying hu, Instr.sureAddr, Instr.sliceBounds, (lay_runs hle w).1, Nat.min_eq_left h1, Addr.add]
                · rw [hfl] at hj
                  have hjl : j < len := by have := (List.getElem?_eq_some_iff.1 hj).1; omega
                  rw [List.getElem?_take_of_lt hjl] at hj
                  exact ⟨bk, o, rfl, (hy j c hj).1⟩
                · rw [hfl] at hj
                  have hjl : j < len := by have := (List.getElem?_eq_some_iff.1 hj).1; omega
                  rw [List.getElem?_take_of_lt hjl] at hj
                  exact (hy j c hj).2
      · cases g <;> cases lo <;> cases hi <;> cases mx <;> simp at h
  | _ => exact h.elim
end
end Go.Duo
