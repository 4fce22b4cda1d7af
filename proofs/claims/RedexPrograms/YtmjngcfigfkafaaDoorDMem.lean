/-
  A part of the proof.
-/
import Derived.Test.YtmjngcfigfkafaaDoorDOps
set_option linter.all false
namespace Go.Duo
open Go
section
variable {P : Program} {gl : Nat → V} {w : World} {s : S} {x y : Value} {a b : V}
theorem elt_runs {t e : TypeId} {sz by_ : Nat} (h : elt P t = some (e, sz, by_)) : P.underlying t = some (.slice e) ∧ ∃ i z, P.info? e = some i ∧ i.zero = some z ∧ i.size = sz ∧ i.bytes = by_ ∧ z.cells.size = sz ∧ 0 < sz := by
  unfold elt at h
  split at h
  · rename_i e' hu
    cases hi : P.info? e' with
    | none => simp [hi] at h
    | some i =>
      cases hz : i.zero with
      | none => simp [hi, hz] at h
      | some z =>
        simp only [hi, hz, Option.bind_some] at h
        split at h
        · rename_i hc
          simp only [Option.some.injEq, Prod.mk.injEq] at h
          obtain ⟨rfl, rfl, rfl⟩ := h
          exact ⟨hu, i, z, hi, hz, rfl, rfl, hc.1, hc.2⟩
        · cases h
  · cases h
/-- What an append comes to, of a row of one's own or of nothing. -/
theorem run_app {t ty e : TypeId} {sz by_ : Nat} (he : elt P t = some (e, sz, by_)) {v : Value} {n : Nat} {xs : List Value} (hown : w.ownsRow 0 e sz v n xs ∨ (∃ ad, v = .slice ad 0 0 ∧ n = 0 ∧ xs = []))
    {ad : Option Addr} {m c : Nat} {news : List Value} (hl : news.length = m * sz) (hnews : ∀ j u, news[j]? = some u → ∃ b o, ad = some ⟨b, o, none⟩ ∧ w.cell? ⟨b, o + j, none⟩ = some u) (h1 : ∀ u ∈ news, u.oneCell' = true)
    (h63 : n + m ≤ maxLen) (hbytes : (n + m) * by_ ≤ 140737488355328) :
    (m = 0 ∧ (Builtin.append_ #[t, t] ty #[v, .slice ad m c]).run P w = .ok v w) ∨
    (0 < m ∧ ∃ v' w', (Builtin.append_ #[t, t] ty #[v, .slice ad m c]).run P w = .ok v' w' ∧ w'.ownsRow 0 e sz v' (n + m) (xs ++ news) ∧ w'.os = w.os ∧ w'.tape = w.tape ∧ w'.output = w.output ∧ w.heap.size ≤ w'.heap.size ∧
      ((v'.ownBlock = v.ownBlock ∧ (∃ ad' cap, v = .slice (some ad') n cap ∧ n + m ≤ cap ∧ v' = .slice (some ad') (n + m) cap) ∧ w.ownsRow 0 e sz v n xs ∧ ∀ k, some k ≠ v.ownBlock → k < w.heap.size → w'.heap[k]? = w.heap[k]?) ∨ (v'.ownBlock = some w.heap.size ∧ ∀ k, k < w.heap.size → w'.heap[k]? = w.heap[k]?))) := by
  obtain ⟨ht, i, z, hi, hz, rfl, rfl, hzs, hsz⟩ := elt_runs he
  rcases Nat.eq_zero_or_pos m with rfl | hm
  · left
    refine ⟨rfl, ?_⟩
    have hf : (Builtin.firstCells i.size 0 (.slice ad 0 c)).run P w = .ok #[] w := by
      cases ad <;> simp [Builtin.firstCells, loadCells, loadCellsFrom]
    have hv : ∃ base cap, v = .slice base n cap ∧ n ≤ cap := by
      rcases hown with ⟨_, ⟨rfl, rfl⟩ | ⟨g, cap, cur, rfl, _, _, h, _⟩⟩ | ⟨ad', rfl, rfl, _⟩
      · exact ⟨none, 0, rfl, Nat.le_refl _⟩
      · exact ⟨_, cap, rfl, h⟩
      · exact ⟨ad', 0, rfl, Nat.le_refl _⟩
    obtain ⟨base, cap, rfl, hnc⟩ := hv
    cases base <;> simp [Builtin.append_, run_underlying ht, sizeOf, typeInfo, hi, Builtin.lenOf, hf, hnc, storeCells]
  · right
    refine ⟨hm, ?_⟩
    have hn0 : 0 < news.length := by rw [hl]; exact Nat.mul_pos hm hsz
    obtain ⟨b, o, rfl, _⟩ := hnews 0 news[0] (by rw [List.getElem?_eq_getElem])
    have hnews' : ∀ j u, news[j]? = some u → w.cell? ((⟨b, o, none⟩ : Addr).add j) = some u := fun j u hu => by
      obtain ⟨b', o', hb, hc⟩ := hnews j u hu
      simp only [Option.some.injEq, Addr.mk.injEq, and_true] at hb
      obtain ⟨rfl, rfl⟩ := hb
      rw [addr_add]
      exact hc
    have hlen : xs.length = n * i.size → (xs ++ news).length = (n + m) * i.size := fun h => by rw [List.length_append, h, hl, Nat.add_mul]
    have h63' : n + m ≤ 9223372036854775807 := by simp only [maxLen] at h63; omega
    have grown : ∀ (old : Nat), old < n + m → xs.length = n * i.size →
        (w.drew.alloc (.cells (xs.toArray ++ news.toArray ++ Builtin.zeroCells z.cells (grownCap w (n + m) old e - (n + m))) e)).ownsRow 0 e i.size
          (.slice (some ⟨w.heap.size, 0, none⟩) (n + m) (grownCap w (n + m) old e)) (n + m) (xs ++ news) := by
      intro old ho hx
      have hge := grownCap_ge w (n + m) old e
      have hcm : grownCap w (n + m) old e ≤ maxLen := grownCap_le_maxLen w (n + m) old e h63
      refine ⟨hlen hx, .inr ⟨w.heap.size, _, _, rfl, Nat.zero_le _, heap_alloc_new w.drew _, hge, hcm, ?_, ?_⟩⟩
      · simp only [Array.size_append, List.size_toArray, size_zeroCells, hzs, hx, hl, ← Nat.add_mul]
        congr 1
        omega
      · simp only [Array.toList_append, List.append_assoc]
        rw [← List.append_assoc, ← hlen hx]
        exact List.take_left
    have fresh : ∀ ob : Obj, (w.drew.alloc ob).os = w.os ∧ (w.drew.alloc ob).tape = w.tape ∧ (w.drew.alloc ob).output = w.output ∧ w.heap.size ≤ (w.drew.alloc ob).heap.size ∧ ∀ k, k < w.heap.size → (w.drew.alloc ob).heap[k]? = w.heap[k]? := fun ob =>
      ⟨rfl, rfl, rfl, by simp, fun k hk => heap_alloc_old w.drew ob k hk⟩
    have hcase : (∃ ad', v = .slice ad' 0 0 ∧ n = 0 ∧ xs = []) ∨ (w.ownsRow 0 e i.size v n xs ∧ ∃ g cap cur, v = .slice (some ⟨g, 0, none⟩) n cap ∧ w.heap[g]? = some (.cells cur e (0, 0)) ∧ n ≤ cap ∧ cap ≤ maxLen ∧ cur.size = cap * i.size ∧ cur.toList.take (n * i.size) = xs) := by
      rcases hown with hown | h
      · rcases hown.2 with ⟨hv, hn⟩ | ⟨g, cap, cur, hv, _, hrest⟩
        · exact .inl ⟨none, hv, hn, List.eq_nil_of_length_eq_zero (by simpa [hn] using hown.1)⟩
        · exact .inr ⟨hown, g, cap, cur, hv, hrest⟩
      · exact .inl h
    rcases hcase with ⟨ad', rfl, rfl, rfl⟩ | ⟨hown, g, cap, cur, rfl, hg, hnc, hcm, hcs, htake⟩
    · have hgr := grown 0 (by omega) (by simp)
      have hb' : m * i.bytes ≤ 140737488355328 := by simpa using hbytes
      cases ad' with
      | none =>
        have hr := run_append_nil (P := P) w t ty e i z ht hi hz ⟨b, o, none⟩ m c news hl hnews' (by omega) (by omega) (by omega)
        obtain ⟨f1, f2, f3, f4, f5⟩ := fresh (.cells (news.toArray ++ Builtin.zeroCells z.cells (grownCap w m 0 e - m)) e)
        refine ⟨_, _, hr, by simpa using hgr, f1, f2, f3, f4, .inr ⟨rfl, f5⟩⟩
      | some bd =>
        have hr := run_append_grow (P := P) w t ty e i z ht hi hz bd 0 0 [] (by simp) (by simp) ⟨b, o, none⟩ m c news hl hnews' (by omega) (by omega) (by simpa using growslice_fits (need := m) (old := 0) (by omega) hb')
        obtain ⟨f1, f2, f3, f4, f5⟩ := fresh (.cells ([].toArray ++ news.toArray ++ Builtin.zeroCells z.cells (grownCap w (0 + m) 0 e - (0 + m))) e)
        exact ⟨_, _, hr, hgr, f1, f2, f3, f4, .inr ⟨rfl, f5⟩⟩
    · by_cases hroom : n + m ≤ cap
      · have hfit : n * i.size + news.length ≤ cur.size := by rw [hl, hcs, ← Nat.add_mul]; exact Nat.mul_le_mul_right _ hroom
        have hr := run_append_room (P := P) w t ty e i ht hi g n cap cur hg ⟨b, o, none⟩ m c news hl hnews' h1 hroom hfit
        refine ⟨_, _, hr, ⟨hlen hown.1, .inr ⟨g, cap, _, rfl, Nat.zero_le _, setRow_heap w g cur _ e _ hg, hroom, hcm, ?_, ?_⟩⟩, rfl, rfl, rfl, by simp, .inl ⟨rfl, ⟨_, _, rfl, hroom, rfl⟩, hown, fun k hk _ => setRow_other w g k _ (fun e => hk (by simp [Value.ownBlock, e]))⟩⟩
        · simp only [List.size_toArray, List.length_append, List.length_take, List.length_drop, Array.length_toList]
          omega
        · rw [htake, ← hlen hown.1]
          exact List.take_left
      · have holds : ∀ j u, xs[j]? = some u → w.cell? ((⟨g, 0, none⟩ : Addr).add j) = some u := hown.cells (g := g) rfl
        have hr := run_append_grow (P := P) w t ty e i z ht hi hz ⟨g, 0, none⟩ n cap xs hown.1 holds ⟨b, o, none⟩ m c news hl hnews' (by omega) (by omega) (growslice_fits (by omega) hbytes)
        obtain ⟨f1, f2, f3, f4, f5⟩ := fresh (.cells (xs.toArray ++ news.toArray ++ Builtin.zeroCells z.cells (grownCap w (n + m) cap e - (n + m))) e)
        exact ⟨_, _, hr, grown cap (by omega) hown.1, f1, f2, f3, f4, .inr ⟨rfl, f5⟩⟩
/-- The elements of a row that is read. -/
def rowOf : V → Option (List V)
  | .sl es _ => some es
  | .nil => some []
  | _ => none
/-- A row's cells, one by one. -/
theorem row_cells {es : List V} (hr : rowOf a = some es) (h : Rep w s a x) : ∃ (ad : Option Addr) (cap : Nat) (news : List Value), x = .slice ad es.length cap ∧ news.length = (flat es).length ∧ (∀ u ∈ news, u.oneCell' = true) ∧
    (∀ j u, news[j]? = some u → ∃ b o, ad = some ⟨b, o, none⟩ ∧ w.cell? ⟨b, o + j, none⟩ = some u ∧ s.K b (o + j)) ∧ (∀ (j : Nat) (c : V) (u : Value), (flat es)[j]? = some c → news[j]? = some u → PR w s.K c u) ∧ es.length ≤ cap ∧ cap ≤ maxLen := by
  have key : ∀ es, PR w s.K (.sl es none) x → _ := fun es h => h.sl_inv
  cases a with
  | sl es' t =>
    simp only [rowOf, Option.some.injEq] at hr
    subst hr
    obtain ⟨ad, cap, sz, y, rfl, hc1, hc2, hsz, h1, hcell⟩ := h.sl_inv.sl_inv
    have hget : ∀ (j : Nat) (u : Value), ((List.range (flat es').length).map y)[j]? = some u → ∃ c, (flat es')[j]? = some c ∧ u = y j := fun j u hu => by
      have hj : j < (flat es').length := by have := (List.getElem?_eq_some_iff.1 hu).1; simpa using this
      rw [List.getElem?_map, List.getElem?_range hj] at hu
      simp only [Option.map_some, Option.some.injEq] at hu
      exact ⟨_, List.getElem?_eq_getElem hj, hu.symm⟩
    refine ⟨ad, cap, (List.range (flat es').length).map y, rfl, by simp, fun u hu => ?_, fun j u hu => ?_, fun j c u hc hu => ?_, hc1, hc2⟩
    · obtain ⟨j, hj, rfl⟩ := List.mem_iff_getElem.1 hu
      obtain ⟨c, hc, he⟩ := hget j _ (List.getElem?_eq_getElem hj)
      rw [he]
      exact (hcell j c hc).2.oneCell (h1 c (List.mem_iff_getElem?.2 ⟨j, hc⟩))
    · obtain ⟨c, hc, rfl⟩ := hget j u hu
      obtain ⟨b, o, hb, hcl, hk⟩ := (hcell j c hc).1
      exact ⟨b, o, hb, hcl, hk⟩
    · obtain ⟨c', hc', rfl⟩ := hget j u hu
      rw [hc] at hc'
      simp only [Option.some.injEq] at hc'
      exact (hcell j c hc).2
  | nil =>
    simp only [rowOf, Option.some.injEq] at hr
    subst hr
    obtain ⟨ad, rfl⟩ := h.nil_inv
    exact ⟨ad, 0, [], rfl, by simp, by simp, by simp, by simp, Nat.le_refl _, Nat.zero_le _⟩
  | _ => simp [rowOf] at hr
def appendP (P : Program) (t : TypeId) (st : List O) (x y : V) (K : V → List O → Prop) : Prop :=
  match elt P t, rowOf y with
  | some (e, sz, by_), some es2 => (∀ el ∈ es2, el.cells.length = sz) ∧ match x with
    | .nil => es2.length * by_ ≤ 140737488355328 ∧ es2.length ≤ maxLen ∧ (K (.sl es2 (some st.length)) (st ++ [.tok e sz es2.length]) ∨ ∃ k v, st[k]? = some (.arr e sz v []) ∧ K (.ref k (v + 1)) (st.set k (.arr e sz (v + 1) es2)))
    | .sl es (some id) => match st[id]? with
      | some (.tok e' sz' n) => e' = e ∧ sz' = sz ∧ n = es.length ∧ (es.length + es2.length) * by_ ≤ 140737488355328 ∧ es.length + es2.length ≤ maxLen ∧ K (.sl (es ++ es2) (some id)) (st.set id (.tok e sz (es.length + es2.length)))
      | _ => False
    | .ref id ver => match st[id]? with
      | some (.arr e' sz' v es) => e' = e ∧ sz' = sz ∧ v = ver ∧ (es.length + es2.length) * by_ ≤ 140737488355328 ∧ es.length + es2.length ≤ maxLen ∧ K (.ref id (ver + 1)) (st.set id (.arr e sz (ver + 1) (es ++ es2)))
      | _ => False
    | _ => False
  | _, _ => False
/-- What lies at the head of a block of one's own, as a row that is only read. -/
theorem pr_of_own {K : Nat → Nat → Prop} {e : TypeId} {sz n : Nat} {v : Value} {es : List V} {xs : List Value} (hown : w.ownsRow 0 e sz v n xs) (hn : n = es.length) (hpos : 0 < n) (hsz : ∀ el ∈ es, el.cells.length = sz) (h1 : ∀ c ∈ flat es, c.one = true)
    (hK : ∀ b j, v.ownBlock = some b → j < n * sz → K b j) (h : ∀ (j : Nat) (c : V) (u : Value), (flat es)[j]? = some c → xs[j]? = some u → PR w K c u) : PR w K (.sl es none) v := by
  subst hn
  rcases hown.2 with ⟨_, h0⟩ | ⟨g, cap, cur, rfl, _, hg, hnc, hcm, hcs, htake⟩
  · omega
  · have hfl := flat_length hsz
    have hx : ∀ j, j < (flat es).length → ∃ u, xs[j]? = some u ∧ w.cell? ⟨g, 0 + j, none⟩ = some u := fun j hj => by
      have hj' : j < xs.length := by rw [hown.1, ← hfl]; exact hj
      refine ⟨_, List.getElem?_eq_getElem hj', ?_⟩
      have := hown.cells (g := g) rfl j _ (List.getElem?_eq_getElem hj')
      rwa [addr_add] at this
    refine .sl es _ cap sz (fun j => xs.getD j undef) hnc hcm hsz h1 (fun j c hc => ?_) (fun j c hc => ?_)
    · have hj := (List.getElem?_eq_some_iff.1 hc).1
      obtain ⟨u, hu, hcell⟩ := hx j hj
      refine ⟨g, 0, rfl, ?_, hK g (0 + j) rfl (by rw [Nat.zero_add, ← hfl]; exact hj)⟩
      rw [List.getD_eq_getElem?_getD, hu]
      exact hcell
    · have hj := (List.getElem?_eq_some_iff.1 hc).1
      obtain ⟨u, hu, _⟩ := hx j hj
      show PR w K c (xs.getD j undef)
      rw [List.getD_eq_getElem?_getD, hu]
      exact h j c u hc hu
/-- append to a row of one's own. -/
theorem append_ref (hs : Sim P gl w s) {t ty e : TypeId} {sz by_ id ver : Nat} {es es2 : List V} (he : elt P t = some (e, sz, by_)) (hx : Rep w s (.ref id ver) x) (hy : Rep w s b y) (hr : rowOf b = some es2)
    (hsz2 : ∀ el ∈ es2, el.cells.length = sz) (hone2 : ∀ c ∈ flat es2, c.one = true) (ho : s.st[id]? = some (.arr e sz ver es)) (hb1 : (es.length + es2.length) * by_ ≤ 140737488355328) (hb2 : es.length + es2.length ≤ maxLen) :
    ∃ z w' s', (Builtin.append_ #[t, t] ty #[x, y]).run P w = .ok z w' ∧ Sim P gl w' s' ∧ Evolve w s w' s' ∧ Rep w' s' (.ref id (ver + 1)) z ∧ s'.st = s.st.set id (.arr e sz (ver + 1) (es ++ es2)) := by
  obtain ⟨ad, cap, news, rfl, hnl, hn1, hncell, hnrep, _, _⟩ := row_cells hr hy
  have hfl2 := flat_length hsz2
  have hsz : 0 < sz := by obtain ⟨_, i, z, _, _, rfl, _, _, h⟩ := elt_runs he; exact h
  have hnc' : ∀ j u, news[j]? = some u → ∃ b o, ad = some ⟨b, o, none⟩ ∧ w.cell? ⟨b, o + j, none⟩ = some u := fun j u hu => by
    obtain ⟨b, o, h1, h2, _⟩ := hncell j u hu
    exact ⟨b, o, h1, h2⟩
  have hx1 : x.oneCell' = true ∧ RefOK s id ver x := by
    cases hx with
    | pure _ _ h => cases h
    | ref _ _ _ h1 h => exact ⟨h1, h⟩
  obtain ⟨hxo, o', ho', hm⟩ := hx1
  rw [ho] at ho'
  simp only [Option.some.injEq] at ho'
  subst ho'
  obtain ⟨_, hm⟩ := hm
  obtain ⟨x0, hg0⟩ := hs.wf.arr id _ _ _ _ ho
  obtain ⟨xs0, hown0, hsz1, hone1, hxl0, hpr0⟩ := hs.obj id _ _ ho hg0
  have hszA : ∀ el ∈ es ++ es2, el.cells.length = sz := fun el hel => (List.mem_append.1 hel).elim (hsz1 el) (hsz2 el)
  have hone : ∀ c ∈ flat (es ++ es2), c.one = true := fun c hc => by rw [flat_append] at hc; exact (List.mem_append.1 hc).elim (hone1 c) (hone2 c)
  have hnK : ∀ b j, x0.ownBlock = some b → ¬ s.K b j := fun b j hb => hs.kout id b j _ ⟨_, _, ho, rfl, hg0, hb⟩ ho trivial
  have hown1 : w.ownsRow 0 e sz x es.length xs0 ∨ (∃ ad, x = .slice ad 0 0 ∧ es.length = 0 ∧ xs0 = []) := by
    rcases hm rfl with hg | ⟨h0, ad', rfl⟩
    · rw [hg0] at hg
      simp only [Option.some.injEq, Gh.row.injEq] at hg
      subst hg
      exact .inl hown0
    · subst h0
      exact .inr ⟨ad', rfl, rfl, List.eq_nil_of_length_eq_zero (by simpa using hxl0)⟩
  have hsame : x = x0 ∨ (es = [] ∧ ∃ a, x = .slice a 0 0) := by
    rcases hm rfl with hg | h
    · rw [hg0] at hg
      simp only [Option.some.injEq, Gh.row.injEq] at hg
      exact .inl hg.symm
    · exact .inr h
  have hcell : ∀ (K' : Nat → Nat → Prop) (w' : World), Keeps w s.K w' K' → ∀ (j : Nat) (c : V) (u : Value), (flat (es ++ es2))[j]? = some c → (xs0 ++ news)[j]? = some u → PR w' K' c u := fun K' w' hk j c u hc hu => by
    rw [flat_append] at hc
    by_cases hj : j < (flat es).length
    · rw [List.getElem?_append_left hj] at hc
      rw [List.getElem?_append_left (by omega)] at hu
      exact (hpr0 j c u hc hu).keeps hk
    · rw [List.getElem?_append_right (by omega)] at hc
      rw [List.getElem?_append_right (by omega)] at hu
      rw [show j - xs0.length = j - (flat es).length by omega] at hu
      exact (hnrep _ c u hc hu).keeps hk
  rcases run_app (ty := ty) he hown1 (hnl.trans hfl2) hnc' hn1 hb2 hb1 with ⟨h0, hrun⟩ | ⟨hpos, v', w', hrun, hown, f1, f2, f3, f4, hwhere⟩
  · obtain rfl := List.eq_nil_of_length_eq_zero h0
    obtain rfl : news = [] := List.eq_nil_of_length_eq_zero (by simpa using hnl)
    rw [List.append_nil] at hcell hszA hone
    rw [List.append_nil]
    obtain ⟨hE, hS⟩ := turn hs (w' := w) (o' := .arr e sz (ver + 1) es) (g' := .row x0) (K' := s.K) ho hg0 rfl rfl rfl rfl (Nat.le_refl _) (fun _ _ _ => rfl) ⟨fun _ _ h => h, fun _ _ _ _ h => h, fun _ _ _ _ h => h, fun _ _ _ _ h => h⟩ (fun _ _ h => .inl h)
      hs.kin (.inr ⟨_, _, rfl, by omega, fun e => by omega, fun b hb => .inl hb⟩) rfl (fun b j hb _ => hnK b j hb) (fun hE => ⟨xs0, hown0, hsz1, hone1, hxl0, fun j c u hc hu => (hpr0 j c u hc hu).keeps hE.keeps⟩)
    refine ⟨x, w, _, hrun, hS, hE, .ref id (ver + 1) x hxo ⟨.arr e sz (ver + 1) es, ?_, Nat.le_refl _, fun _ => ?_⟩, rfl⟩
    · simp [S.turn, (List.getElem?_eq_some_iff.1 ho).1]
    · rcases hsame with rfl | h
      · exact .inl (by simp [S.turn, (List.getElem?_eq_some_iff.1 hg0).1])
      · exact .inr h
  · have hold : ∀ k, k < w.heap.size → x0.ownBlock ≠ some k → w'.heap[k]? = w.heap[k]? := fun k hk hne => by
      rcases hwhere with ⟨_, ⟨ad', cap', hv, _, _⟩, _, hold⟩ | ⟨_, hold⟩
      · rcases hsame with rfl | ⟨_, a, rfl⟩
        · exact hold k (fun e => hne e.symm) hk
        · exfalso
          simp only [Value.slice.injEq] at hv
          omega
      · exact hold k hk
    have hat : ∀ b, v'.ownBlock = some b → x0.ownBlock = some b ∨ w.heap.size ≤ b := fun b hb => by
      rcases hwhere with ⟨h1, ⟨ad', cap', hv, _, _⟩, _, _⟩ | ⟨h1, _⟩
      · rcases hsame with rfl | ⟨_, a, rfl⟩
        · exact .inl (h1.symm.trans hb)
        · exfalso
          simp only [Value.slice.injEq] at hv
          omega
      · rw [h1] at hb
        simp only [Option.some.injEq] at hb
        exact .inr (by omega)
    have hne : ∀ b j, s.K b j → x0.ownBlock ≠ some b := fun b j hk h => hnK b j h hk
    obtain ⟨hE, hS⟩ := turn hs (w' := w') (o' := .arr e sz (ver + 1) (es ++ es2)) (g' := .row v') (K' := s.K) ho hg0 rfl f1 f2 f3 f4 (fun k hk h => hold k hk h)
      ⟨fun _ _ h => h, fun b j z hk hz => by rw [World.cell?_of_block (w := w) (hold b (World.block_lt_of_cell? w _ hz) (hne b j hk))]; exact hz, fun b es0 c hk hz => by rw [hold b (Array.getElem?_eq_some_iff.1 hz).1 (hne b 0 hk)]; exact hz, fun b j n hk hz => hz.same (hold b hz.lt (hne b j hk))⟩
      (fun _ _ h => .inl h) (fun b j hk => Nat.lt_of_lt_of_le (hs.kin b j hk) f4) (.inr ⟨_, _, rfl, by omega, fun e => by omega, fun b hb => hat b hb⟩) rfl
      (fun b j hb _ hk => by
        rcases hat b hb with h | h
        · exact hnK b j h hk
        · have := hs.kin b j hk
          omega)
      (fun hE => ⟨xs0 ++ news, by rw [List.length_append]; exact hown, hszA, hone, by rw [List.length_append, flat_append, List.length_append, hxl0, hnl], fun j c u hc hu => hcell _ _ hE.keeps j c u hc hu⟩)
    have hv1 : v'.oneCell' = true := by
      rcases hown.2 with ⟨rfl, _⟩ | ⟨g, cap, cur, rfl, _⟩ <;> rfl
    refine ⟨v', w', _, hrun, hS, hE, .ref id (ver + 1) v' hv1 ⟨.arr e sz (ver + 1) (es ++ es2), ?_, Nat.le_refl _, fun _ => .inl ?_⟩, rfl⟩
    · simp [S.turn, (List.getElem?_eq_some_iff.1 ho).1]
    · simp [S.turn, (List.getElem?_eq_some_iff.1 hg0).1]
theorem append_sound (hs : Sim P gl w s) {t ty : TypeId} {K : V → List O → Prop} (hx : Rep w s a x) (hy : Rep w s b y) (h : appendP P t s.st a b K) :
    ∃ v z w' s', (Builtin.append_ #[t, t] ty #[x, y]).run P w = .ok z w' ∧ Sim P gl w' s' ∧ Evolve w s w' s' ∧ Rep w' s' v z ∧ K v s'.st := by
  unfold appendP at h
  cases he : elt P t with
  | none => simp [he] at h
  | some esb =>
    obtain ⟨e, sz, by_⟩ := esb
    cases hr : rowOf b with
    | none => simp [he, hr] at h
    | some es2 =>
      rw [he, hr] at h
      simp only at h
      obtain ⟨hsz2, h⟩ := h
      obtain ⟨ad, cap, news, rfl, hnl, hn1, hncell, hnrep, _, _⟩ := row_cells hr hy
      have hfl2 := flat_length hsz2
      have hsz : 0 < sz := by obtain ⟨_, i, z, _, _, rfl, _, _, h⟩ := elt_runs he; exact h
      have hone2 : ∀ c ∈ flat es2, c.one = true := by
        cases b with
        | sl es' t' =>
          simp only [rowOf, Option.some.injEq] at hr
          subst hr
          obtain ⟨_, _, _, _, _, _, _, _, h1, _⟩ := hy.sl_inv.sl_inv
          exact h1
        | nil => simp only [rowOf, Option.some.injEq] at hr; subst hr; simp
        | _ => simp [rowOf] at hr
      have hnc' : ∀ j u, news[j]? = some u → ∃ b o, ad = some ⟨b, o, none⟩ ∧ w.cell? ⟨b, o + j, none⟩ = some u := fun j u hu => by
        obtain ⟨b, o, h1, h2, _⟩ := hncell j u hu
        exact ⟨b, o, h1, h2⟩
      cases a with
      | nil =>
        simp only at h
        obtain ⟨hb1, hb2, hK1 | ⟨k, v, hok, hKr⟩⟩ := h
        rotate_left
        · obtain ⟨ax, rfl⟩ := hx.nil_inv
          have hx2 : Rep w s (.ref k v) (.slice ax 0 0) := .ref k v _ rfl ⟨_, hok, Nat.le_refl _, fun _ => .inr ⟨rfl, ax, rfl⟩⟩
          obtain ⟨z, w', s', h1, h2, h3, h4, h5⟩ := append_ref (ty := ty) hs he hx2 hy hr hsz2 hone2 hok (by simpa using hb1) (by simpa using hb2)
          exact ⟨_, z, w', s', h1, h2, h3, h4, by rw [h5]; exact hKr⟩
        obtain ⟨ax, rfl⟩ := hx.nil_inv
        rcases run_app (ty := ty) (n := 0) (xs := []) he (.inr ⟨ax, rfl, rfl, rfl⟩) (hnl.trans hfl2) hnc' hn1 (by omega) (by simpa using hb1) with ⟨h0, hrun⟩ | ⟨hpos, v', w', hrun, hown, f1, f2, f3, f4, hwhere⟩
        · obtain rfl := List.eq_nil_of_length_eq_zero h0
          have hS : Sim P gl w (s.push (.tok e sz 0) (.row (.slice none 0 0))) := hs.push (fun _ _ _ h => by cases h) (fun _ _ _ h => by cases h) (fun _ _ h => by cases h) (fun _ _ _ => by simp) ⟨[], by simp, .inl ⟨rfl, rfl⟩⟩ (fun _ _ h => by cases h)
          have hE : Evolve w s w (s.push (.tok e sz 0) (.row (.slice none 0 0))) := Evolve.push hs.wf (Evolve.refl hs.wf) _ _ (fun _ _ h => by cases h) (fun _ _ _ => by simp)
          exact ⟨_, _, w, _, hrun, hS, hE, .tok [] s.st.length _ (PR.nil_sl ax) ⟨.tok e sz 0, by simp [S.push], Nat.le_refl _, fun _ => .inr ⟨rfl, ax, rfl⟩, by simp⟩, hK1⟩
        · rcases hwhere with ⟨_, ⟨_, _, hno, hle, _⟩, _⟩ | ⟨hat, hold⟩
          · simp only [Value.slice.injEq] at hno
            omega
          · have hN : ∀ b j, (b = w.heap.size ∧ j < es2.length * sz) → w.heap.size ≤ b ∧ b < w'.heap.size := fun b j hb => by
              have := (hown.lt _ hat).2
              omega
            have hE0 := Evolve.grow hs.wf f1 f2 f3 f4 hold (fun b j => b = w.heap.size ∧ j < es2.length * sz) hN
            have hS0 := hs.grow f1 f2 f3 f4 hold (fun b j => b = w.heap.size ∧ j < es2.length * sz) hN
            have hpr := pr_of_own (K := fun b j => s.K b j ∨ (b = w.heap.size ∧ j < es2.length * sz)) hown (by omega) (by omega) hsz2 hone2 (fun b j hb hj => by rw [hat] at hb; simp only [Option.some.injEq] at hb; exact .inr ⟨hb.symm, by simpa using hj⟩)
              (fun j c u hc hu => (hnrep j c u hc (by simpa using hu)).keeps hE0.keeps)
            refine ⟨.sl es2 (some s.st.length), v', w', _, hrun, ?_, Evolve.push hs.wf hE0 (.tok e sz es2.length) (.row v') (fun _ b hb => by simp only [Gh.at] at hb; rw [hat] at hb; simp only [Option.some.injEq] at hb; omega) (fun _ _ _ => by simp), ?_, hK1⟩
            · refine hS0.push (fun i b _ hb hi => ?_) (fun b j _ hb hwr hk => ?_) (fun b _ hb hf => ?_) (fun _ _ _ => by simp) ⟨_, by simpa using hown⟩ (fun b _ hb => by simp only [Gh.at] at hb; rw [hat] at hb; simp only [Option.some.injEq] at hb; subst hb; exact (show s.late _ from hs.late (Nat.le_refl _)))
              · simp only [Gh.at] at hb
                rw [hat] at hb
                simp only [Option.some.injEq] at hb
                subst hb
                obtain ⟨o', g', ho', hlv, hg', hat'⟩ := hi
                have := hs.mine_lt ⟨i, o', g', ho', hlv, hg', hat'⟩
                omega
              · simp only [Gh.at] at hb
                rw [hat] at hb
                simp only [Option.some.injEq] at hb
                subst hb
                simp only [O.writes] at hwr
                rcases hk with hk | ⟨_, hk⟩
                · have := hs.kin _ _ hk
                  omega
                · omega
              · simp only [Gh.at] at hb
                rw [hat] at hb
                simp only [Option.some.injEq] at hb
                subst hb
                have := (hs.fgn _ hf).1
                omega
            · refine .tok _ _ _ hpr ⟨.tok e sz es2.length, by simp [S.push], Nat.le_refl _, fun _ => .inl (by simp [S.push, hs.len]), hsz2⟩
      | sl es tk =>
        cases tk with
        | none => exact h.elim
        | some id =>
          simp only at h
          cases ho : s.st[id]? with
          | none => simp [ho] at h
          | some o =>
            rw [ho] at h
            cases o with
            | tok e' sz' n =>
              simp only at h
              obtain ⟨rfl, rfl, rfl, hb1, hb2, hK⟩ := h
              have hpx : PR w s.K (.sl es none) x := hx.sl_inv
              have htk : TokOK s id es x := by
                cases hx with
                | pure _ _ h => cases h
                | tok _ _ _ _ ht => exact ht
              obtain ⟨o', ho', hm⟩ := htk
              rw [ho] at ho'
              simp only [Option.some.injEq] at ho'
              subst ho'
              obtain ⟨_, hg, hsz1⟩ := hm
              rcases hg rfl with hg | ⟨h0, ad', rfl⟩
              case inr =>
                obtain rfl := List.eq_nil_of_length_eq_zero h0
                obtain ⟨x0, hg⟩ := hs.wf.tok id _ _ _ ho
                rcases run_app (ty := ty) (n := 0) (xs := []) he (.inr ⟨ad', rfl, rfl, rfl⟩) (hnl.trans hfl2) hnc' hn1 (by omega) (by simpa using hb1) with ⟨h0, hrun⟩ | ⟨hpos, v', w', hrun, hown, f1, f2, f3, f4, hwhere⟩
                · obtain rfl := List.eq_nil_of_length_eq_zero h0
                  have hst : s.st.set id (.tok e' sz' (([] : List V).length + ([] : List V).length)) = s.st := by
                    apply List.ext_getElem?
                    intro j
                    rw [List.getElem?_set]
                    split
                    · subst_vars
                      split
                      · rw [ho]; simp
                      · rename_i hj; rw [List.getElem?_eq_none (by omega)]
                    · rfl
                  rw [hst, List.append_nil] at hK
                  exact ⟨_, _, w, s, hrun, hs, Evolve.refl hs.wf, hx, hK⟩
                · rcases hwhere with ⟨_, ⟨_, _, hno, hle, _⟩, _⟩ | ⟨hat, hold⟩
                  · simp only [Value.slice.injEq] at hno
                    omega
                  · obtain ⟨hE, hS⟩ := turn hs (w' := w') (o' := .tok e' sz' es2.length) (g' := .row v') (K' := fun b j => s.K b j ∨ (b = w.heap.size ∧ j < es2.length * sz')) ho hg rfl f1 f2 f3 f4
                      (fun b hb _ => hold b hb)
                      ⟨fun _ _ h => .inl h, fun b j z _ hz => by rw [World.cell?_of_block (w := w) (hold b (World.block_lt_of_cell? w _ hz))]; exact hz, fun b es0 c _ hz => by rw [hold b (Array.getElem?_eq_some_iff.1 hz).1]; exact hz, fun b _ n _ hz => hz.same (hold b hz.lt)⟩
                      (fun b j hk => by
                        rcases hk with hk | ⟨hk, _⟩
                        · exact .inl hk
                        · exact .inr (.inl (by omega)))
                      (fun b j hk => by
                        rcases hk with hk | ⟨rfl, _⟩
                        · have := hs.kin b j hk; omega
                        · exact (hown.lt _ hat).2)
                      (.inr ⟨_, rfl, by simp, fun e => by rw [e] at hpos; simp at hpos, fun b hb => by simp only [Gh.at] at hb; rw [hat] at hb; simp only [Option.some.injEq] at hb; exact .inr (by omega)⟩) rfl
                      (fun b j hb hwr hk => by
                        simp only [O.writes, Gh.at] at hwr hb
                        rw [hat] at hb
                        simp only [Option.some.injEq] at hb
                        rcases hk with hk | ⟨_, hk⟩
                        · have := hs.kin b j hk; omega
                        · omega)
                      (fun _ => ⟨_, by simpa using hown⟩)
                    have hpr := pr_of_own (K := fun b j => s.K b j ∨ (b = w.heap.size ∧ j < es2.length * sz')) hown (by omega) (by omega) hsz2 hone2 (fun b j hb hj => by rw [hat] at hb; simp only [Option.some.injEq] at hb; exact .inr ⟨hb.symm, by simpa using hj⟩)
                      (fun j c u hc hu => (hnrep j c u hc (by simpa using hu)).keeps hE.keeps)
                    refine ⟨.sl es2 (some id), v', w', _, hrun, hS, hE, .tok _ _ _ hpr ⟨.tok e' sz' es2.length, ?_, by simp, fun _ => .inl ?_, hsz2⟩, by simp only [List.nil_append, List.length_nil, Nat.zero_add] at hK; exact hK⟩
                    · simp [S.turn, (List.getElem?_eq_some_iff.1 ho).1]
                    · simp [S.turn, (List.getElem?_eq_some_iff.1 hg).1]
              obtain ⟨xs, hown0⟩ := hs.obj id _ _ ho hg
              have hfl1 := flat_length hsz1
              have hlv : s.own id = fun b => x.ownBlock = some b := by
                funext b
                refine propext ⟨fun ⟨o1, g1, h1, _, h3, h4⟩ => ?_, fun h => ⟨_, _, ho, rfl, hg, h⟩⟩
                rw [hg] at h3
                simp only [Option.some.injEq] at h3
                subst h3
                exact h4
              rcases run_app (ty := ty) he (.inl hown0) (hnl.trans hfl2) hnc' hn1 hb2 hb1 with ⟨h0, hrun⟩ | ⟨hpos, v', w', hrun, hown, f1, f2, f3, f4, hwhere⟩
              · obtain rfl := List.eq_nil_of_length_eq_zero h0
                have hst : s.st.set id (.tok e' sz' (es.length + ([] : List V).length)) = s.st := by
                  apply List.ext_getElem?
                  intro j
                  rw [List.getElem?_set]
                  split
                  · subst_vars
                    split
                    · rw [ho]; simp
                    · rename_i hj; rw [List.getElem?_eq_none (by omega)]
                  · rfl
                rw [hst, List.append_nil] at hK
                exact ⟨_, _, w, s, hrun, hs, Evolve.refl hs.wf, hx, hK⟩
              · have hKlt : ∀ b j, x.ownBlock = some b → s.K b j → j < es.length * sz' := fun b j hb hk => by
                  have := hs.kout id b j _ ⟨_, _, ho, rfl, hg, hb⟩ ho
                  simp only [O.writes] at this
                  apply Classical.byContradiction
                  intro hc
                  exact this (by omega) hk
                have hxs : xs.length = es.length * sz' := hown0.1
                obtain ⟨hE, hS⟩ := turn hs (w' := w') (o' := .tok e' sz' (es.length + es2.length)) (g' := .row v') (K' := fun b j => s.K b j ∨ (v'.ownBlock = some b ∧ j < (es.length + es2.length) * sz')) ho hg rfl f1 f2 f3 f4
                  (fun b hb hne => by
                    rcases hwhere with ⟨_, _, _, hold⟩ | ⟨_, hold⟩
                    · exact hold b (fun e => hne e.symm) hb
                    · exact hold b hb)
                  ⟨fun _ _ h => .inl h, fun b j z hk hz => by
                    rcases hwhere with ⟨hsame, _, _, hold⟩ | ⟨_, hold⟩
                    · by_cases hb : x.ownBlock = some b
                      · have hj := hKlt b j hb hk
                        have e1 := hown0.cells hb j (xs[j]'(by omega)) (List.getElem?_eq_getElem _)
                        have e2 := hown.cells (hsame.trans hb) j (xs[j]'(by omega)) (by rw [List.getElem?_append_left (by omega)]; exact List.getElem?_eq_getElem _)
                        rw [addr_add, Nat.zero_add] at e1 e2
                        rw [hz] at e1
                        rw [e2, e1]
                      · have hbl := World.block_lt_of_cell? w _ hz
                        rw [World.cell?_of_block (w := w) (hold b (fun e => hb e.symm) hbl)]
                        exact hz
                    · have hbl := World.block_lt_of_cell? w _ hz
                      rw [World.cell?_of_block (w := w) (hold b hbl)]
                      exact hz, fun b es0 c hk hz => by
                    have hbl := (Array.getElem?_eq_some_iff.1 hz).1
                    rcases hwhere with ⟨hsame, _, _, hold⟩ | ⟨_, hold⟩
                    · by_cases hb : x.ownBlock = some b
                      · rcases hown0.2 with ⟨rfl, _⟩ | ⟨g, cap', cur, rfl, _, hcur, _⟩
                        · simp [Value.ownBlock] at hb
                        · simp only [Value.ownBlock, Option.some.injEq] at hb
                          subst hb
                          rw [hcur] at hz
                          simp at hz
                      · rw [hold b (fun e => hb e.symm) hbl]; exact hz
                    · rw [hold b hbl]; exact hz, fun b j n hk hz => by
                    rcases hwhere with ⟨hsame, ⟨ad', cap', hv, _, hv'⟩, _, hold⟩ | ⟨_, hold⟩
                    · by_cases hb : x.ownBlock = some b
                      · rcases hown0.2 with ⟨rfl, _⟩ | ⟨g, cap1, cur1, rfl, _, hcur1, _, _, hs1, _⟩
                        · simp [Value.ownBlock] at hb
                        · simp only [Value.ownBlock, Option.some.injEq] at hb
                          subst hb
                          simp only [Value.slice.injEq, Option.some.injEq] at hv
                          obtain ⟨rfl, _, rfl⟩ := hv
                          rcases hown.2 with ⟨h0, _⟩ | ⟨g2, cap2, cur2, h2, _, hcur2, _, _, hs2, _⟩
                          · rw [hv'] at h0; cases h0
                          · rw [hv'] at h2
                            simp only [Value.slice.injEq, Option.some.injEq, Addr.mk.injEq, and_true, true_and] at h2
                            obtain ⟨rfl, rfl⟩ := h2
                            obtain ⟨cs, t, fr, q1, q2⟩ := hz
                            rw [hcur1] at q1
                            simp only [Option.some.injEq, Obj.cells.injEq] at q1
                            obtain ⟨rfl, rfl, rfl⟩ := q1
                            exact ⟨_, _, _, hcur2, by omega⟩
                      · exact hz.same (hold b (fun e => hb e.symm) hz.lt)
                    · exact hz.same (hold b hz.lt)⟩
                  (fun b j hk => by
                    rcases hk with hk | ⟨hk, _⟩
                    · exact .inl hk
                    · rcases hwhere with ⟨hsame, _, _, _⟩ | ⟨hat, _⟩
                      · exact .inr (.inr (hsame.symm.trans hk))
                      · rw [hat] at hk; simp only [Option.some.injEq] at hk; exact .inr (.inl (by omega)))
                  (fun b j hk => by
                    rcases hk with hk | ⟨hk, _⟩
                    · have := hs.kin b j hk; omega
                    · exact (hown.lt b hk).2)
                  (.inr ⟨_, rfl, by omega, fun e => by omega, fun b hb => by
                    rcases hwhere with ⟨hsame, _, _, _⟩ | ⟨hat, _⟩
                    · exact .inl (hsame.symm.trans hb)
                    · simp only [Gh.at] at hb; rw [hat] at hb; simp only [Option.some.injEq] at hb; exact .inr (by omega)⟩) rfl
                  (fun b j hb hwr hk => by
                    simp only [O.writes, Gh.at] at hwr hb
                    rcases hk with hk | ⟨_, hk⟩
                    · rcases hwhere with ⟨hsame, _, _, _⟩ | ⟨hat, _⟩
                      · have := hKlt b j (hsame.symm.trans hb) hk
                        have : es.length * sz' ≤ (es.length + es2.length) * sz' := Nat.mul_le_mul_right _ (by omega)
                        omega
                      · rw [hat] at hb
                        simp only [Option.some.injEq] at hb
                        have := hs.kin b j hk
                        omega
                    · omega)
                  (fun _ => ⟨_, hown⟩)
                have hszA : ∀ el ∈ es ++ es2, el.cells.length = sz' := fun el hel => (List.mem_append.1 hel).elim (hsz1 el) (hsz2 el)
                have hone1 : ∀ c ∈ flat es, c.one = true := by obtain ⟨_, _, _, _, _, _, _, _, h1, _⟩ := hpx.sl_inv; exact h1
                have hpr := pr_of_own (K := fun b j => s.K b j ∨ (v'.ownBlock = some b ∧ j < (es.length + es2.length) * sz')) hown (by rw [List.length_append]) (by omega) hszA
                  (fun c hc => by rw [flat_append] at hc; exact (List.mem_append.1 hc).elim (hone1 c) (hone2 c)) (fun b j hb hj => .inr ⟨hb, hj⟩)
                  (fun j c u hc hu => by
                    rw [flat_append] at hc
                    by_cases hj : j < (flat es).length
                    · rw [List.getElem?_append_left hj] at hc
                      rw [List.getElem?_append_left (by omega)] at hu
                      obtain ⟨ad0, cap0, sz0, y0, hx0, _, _, _, _, hcell⟩ := hpx.sl_inv
                      obtain ⟨⟨b0, o0, hb0, hc0, _⟩, hp0⟩ := hcell j c hc
                      have : y0 j = u := by
                        have hob : x.ownBlock = some b0 := by rw [hx0, hb0]; rfl
                        have e1 := hown0.cells hob j u hu
                        rcases hown0.2 with ⟨h1, _⟩ | ⟨g, cap', cur, h1, _⟩
                        · rw [hx0, hb0] at h1; simp at h1
                        · rw [hx0, hb0] at h1
                          simp only [Value.slice.injEq, Option.some.injEq, Addr.mk.injEq, and_true] at h1
                          obtain ⟨⟨_, rfl⟩, _⟩ := h1
                          rw [addr_add] at e1
                          rw [hc0] at e1
                          simpa using e1
                      rw [← this]
                      exact hp0.keeps hE.keeps
                    · rw [List.getElem?_append_right (by omega)] at hc
                      rw [List.getElem?_append_right (by omega)] at hu
                      rw [show j - xs.length = j - (flat es).length by omega] at hu
                      exact (hnrep _ c u hc hu).keeps hE.keeps)
                refine ⟨_, v', w', _, hrun, hS, hE, .tok _ _ _ hpr ⟨.tok e' sz' (es.length + es2.length), ?_, by simp, fun _ => .inl ?_, hszA⟩, hK⟩
                · simp [S.turn, (List.getElem?_eq_some_iff.1 ho).1]
                · simp [S.turn, (List.getElem?_eq_some_iff.1 hg).1]
            | _ => exact h.elim
      | ref id ver =>
        simp only at h
        cases ho : s.st[id]? with
        | none => simp [ho] at h
        | some o =>
          rw [ho] at h
          cases o with
          | arr e' sz' v es =>
            simp only at h
            obtain ⟨rfl, rfl, rfl, hb1, hb2, hK⟩ := h
            obtain ⟨z, w', s', h1, h2, h3, h4, h5⟩ := append_ref (ty := ty) hs he hx hy hr hsz2 hone2 ho hb1 hb2
            exact ⟨_, z, w', s', h1, h2, h3, h4, h5 ▸ hK⟩
          | _ => exact h.elim
      | _ => exact h.elim
end
end Go.Duo
