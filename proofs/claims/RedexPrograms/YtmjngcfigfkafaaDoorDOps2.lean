/-
  A part of the proof.
-/
import Derived.Test.YtmjngcfigfkafaaDoorDMem
import Derived.Laws.Strings
import Derived.Lib.Strings
set_option linter.all false
namespace Go.Duo
open Go
def faP (P : Program) (t : TypeId) (st : List O) (f : Nat) (x : V) (K : V → Prop) : Prop :=
  match fld P t f with
  | none => False
  | some (off, n, _) => 0 < n ∧ match x with
    | .ptr id o => K (.ptr id (o + off))
    | .dptr cs => K (.dptr (cs.drop off))
    | .rptr id ver o => match st[id]? with
      | some (.arr _ _ v _) => ver = v ∧ K (.rptr id ver (o + off))
      | _ => False
    | _ => False
def fieldP (P : Program) (t : TypeId) (f : Nat) (x : V) (K : V → Prop) : Prop :=
  match fld P t f with
  | none => False
  | some (off, n, g) => match x with
    | .agg cs => off + n ≤ cs.length ∧ K (pack g n (cs.drop off))
    | _ => False
def iaP (P : Program) (t : TypeId) (st : List O) (x i : V) (K : V → Prop) : Prop :=
  match i with
  | .int _ n => match elt P t with
    | some (_, sz, _) => match x with
      | .sl es _ => 0 ≤ n ∧ n < es.length ∧ (es.getD n.toNat .undef).cells.length = sz ∧ K (.dptr (es.getD n.toNat .undef).cells)
      | .ref id ver => match st[id]? with
        | some (.arr _ sz' v es) => ver = v ∧ sz' = sz ∧ 0 ≤ n ∧ n < es.length ∧ K (.rptr id ver (n.toNat * sz))
        | _ => False
      | _ => False
    | none => match arr P t with
      | some (len, sz, _) => 0 ≤ n ∧ n < len ∧ match x with
        | .ptr id o => K (.ptr id (o + n.toNat * sz))
        | .dptr cs => K (.dptr (cs.drop (n.toNat * sz)))
        | _ => False
      | none => False
  | _ => False
def ixP (P : Program) (t : TypeId) (x i : V) (K : V → Prop) : Prop :=
  match i with
  | .int _ n => match x with
    | .str s => P.underlying t = some .string ∧ 0 ≤ n ∧ n < s.length ∧ K (.int .u8 (s.getD n.toNat 0).toNat)
    | .agg cs => match arr P t with
      | some (len, sz, g) => 0 ≤ n ∧ n < len ∧ n.toNat * sz + sz ≤ cs.length ∧ K (pack g sz (cs.drop (n.toNat * sz)))
      | none => False
    | _ => False
  | _ => False
section
variable {P : Program} {gl : Nat → V} {w : World} {s : S} {x y : Value} {a b : V} {K : V → Prop}
theorem fld_runs {t : TypeId} {f off n : Nat} {g : Bool} (h : fld P t f = some (off, n, g)) : ∃ fs fd, P.underlying t = some (.struct fs) ∧ fs[f]? = some fd ∧ lay P fd.type = some (n, g) ∧ fd.offset = off := by
  unfold fld at h
  split at h
  · rename_i fs hu
    cases hf : fs[f]? with
    | none => simp [hf] at h
    | some fd =>
      simp only [hf, Option.bind_some, Option.map_eq_some_iff, Prod.mk.injEq] at h
      obtain ⟨⟨n', g'⟩, h1, h2, h3⟩ := h
      simp only [Prod.mk.injEq] at h3
      obtain ⟨rfl, rfl⟩ := h3
      exact ⟨fs, fd, hu, hf, h1, h2⟩
  · cases h
theorem dptr_drop {cs : List V} {bk o : Nat} (h : PR w s.K (.dptr cs) (.pointer (some ⟨bk, o, none⟩))) (off : Nat) : PR w s.K (.dptr (cs.drop off)) (.pointer (some ⟨bk, o + off, none⟩)) := by
  cases h with
  | dptr _ _ _ y hc h =>
    refine .dptr _ bk (o + off) (fun j => y (off + j)) (fun j c hj => ?_) (fun j c hj => ?_)
    · rw [List.getElem?_drop] at hj
      rw [Nat.add_assoc]
      exact hc _ c hj
    · rw [List.getElem?_drop] at hj
      exact h _ c hj
theorem Rep.rptr_inv {id ver off : Nat} (h : Rep w s (.rptr id ver off) x) : x.oneCell' = true ∧ RptrOK s id ver off x := by
  cases h with
  | pure _ _ h => cases h
  | rptr _ _ _ _ h1 h => exact ⟨h1, h⟩
theorem fa_sound {t : TypeId} {f : Nat} (hx : Rep w s a x) (h : faP P t s.st f a K) : (∃ v z, (Instr.fieldAt t x f).run P w = .ok z w ∧ Rep w s v z ∧ K v) := by
  unfold faP at h
  cases hf : fld P t f with
  | none => simp [hf] at h
  | some o =>
    obtain ⟨off, n, g⟩ := o
    rw [hf] at h
    simp only at h
    obtain ⟨hn, h⟩ := h
    obtain ⟨fs, fd, hu, hfd, hl, rfl⟩ := fld_runs hf
    have hrun : ∀ bk o, (Instr.fieldAt t (.pointer (some ⟨bk, o, none⟩)) f).run P w = .ok (.pointer (some ⟨bk, o + fd.offset, none⟩)) w := fun bk o => by
      simp only [Instr.fieldAt, Sem.run_bind, run_underlying hu, Result.andThen_ok, hfd, Instr.sureAddr, Sem.run_pure, fieldPlace, (lay_runs hl w).1]
      rw [if_neg (by omega)]
      simp [addr_add]
    cases a with
    | ptr id o =>
      obtain ⟨bk, rfl, hg⟩ := hx.ptr_inv
      exact ⟨_, _, hrun bk o, .ptr _ _ bk hg, h⟩
    | dptr cs =>
      obtain ⟨bk, o, rfl, _⟩ := hx.dptr_inv
      exact ⟨_, _, hrun bk o, .pure _ _ (dptr_drop hx.dptr_pr _), h⟩
    | rptr id ver o =>
      simp only at h
      obtain ⟨_, o', ho, hm⟩ := hx.rptr_inv
      rw [ho] at h
      cases o' with
      | arr e sz v es =>
        obtain ⟨rfl, h⟩ := h
        obtain ⟨y, bk, hg, hat, rfl⟩ := hm.2 rfl
        exact ⟨_, _, hrun bk o, .rptr _ _ _ _ rfl ⟨_, ho, Nat.le_refl _, fun _ => ⟨y, bk, hg, hat, rfl⟩⟩, h⟩
      | _ => exact h.elim
    | _ => exact h.elim
theorem field_sound {t : TypeId} {f : Nat} (hx : Rep w s a x) (h : fieldP P t f a K) : ∃ v z, (Instr.field t x f).run P w = .ok z w ∧ Rep w s v z ∧ K v := by
  unfold fieldP at h
  cases hf : fld P t f with
  | none => simp [hf] at h
  | some o =>
    obtain ⟨off, n, g⟩ := o
    rw [hf] at h
    obtain ⟨fs, fd, hu, hfd, hl, rfl⟩ := fld_runs hf
    cases a with
    | agg cs =>
      obtain ⟨hoff, h⟩ := h
      obtain ⟨xs, rfl, hlen, hr⟩ := hx.agg_inv
      refine ⟨_, _, ?_, rep_pack (xs := (xs.drop fd.offset).take n) (lay_runs hl w).2.2 (by simp; omega) (by simp; omega) (fun j c z hj hc hz => ?_), h⟩
      · simp only [Instr.field, Sem.run_bind, run_underlying hu, Result.andThen_ok, hfd, asAgg, Sem.run_pure]
        exact run_part hl (by omega)
      · rw [List.getElem?_take_of_lt hj, List.getElem?_drop] at hz
        rw [List.getElem?_drop] at hc
        exact hr _ c z hc hz
    | _ => exact h.elim
theorem arr_runs {t : TypeId} {len sz : Nat} {g : Bool} (h : arr P t = some (len, sz, g)) : ∃ e, P.underlying t = some (.array len e) ∧ lay P e = some (sz, g) := by
  unfold arr at h
  split at h
  · rename_i n e hu
    simp only [Option.map_eq_some_iff, Prod.mk.injEq] at h
    obtain ⟨⟨m, g'⟩, h1, rfl, h2⟩ := h
    simp only [Prod.mk.injEq] at h2
    obtain ⟨rfl, rfl⟩ := h2
    exact ⟨e, hu, h1⟩
  · cases h
theorem elt_lay {t e : TypeId} {sz by_ : Nat} (h : elt P t = some (e, sz, by_)) (w : World) : P.underlying t = some (.slice e) ∧ (sizeOf e).run P w = .ok sz w := by
  obtain ⟨h1, i, z, h2, h3, h4, h5, h6, h7⟩ := elt_runs h
  exact ⟨h1, by simp [sizeOf, typeInfo, h2, h4]⟩
theorem flat_at {es : List V} {sz : Nat} (hall : ∀ e ∈ es, e.cells.length = sz) : ∀ {i : Nat} (hi : i < es.length) {j : Nat} {c : V}, (es[i]).cells[j]? = some c → (flat es)[i * sz + j]? = some c := by
  induction es with
  | nil => intro i hi; simp at hi
  | cons e es ih =>
    intro i hi j c hj
    cases i with
    | zero =>
      simp only [List.getElem_cons_zero] at hj
      rw [flat_cons, Nat.zero_mul, Nat.zero_add, List.getElem?_append_left (List.getElem?_eq_some_iff.1 hj).1]
      exact hj
    | succ i =>
      simp only [List.getElem_cons_succ] at hj
      rw [flat_cons, List.getElem?_append_right (by rw [hall e (by simp), Nat.add_mul]; omega), hall e (by simp)]
      rw [show (i + 1) * sz + j - sz = i * sz + j by rw [Nat.add_mul]; omega]
      exact ih (fun e he => hall e (List.mem_cons_of_mem _ he)) (by simpa using hi) hj
/-- One element of a row that is read, by its address. -/
theorem dptr_of_row {es : List V} {ad : Option Addr} {cap i sz : Nat} (hp : PR w s.K (.sl es none) (.slice ad es.length cap)) (hi : i < es.length) (hsz : (es.getD i .undef).cells.length = sz) (hpos : 0 < sz) :
    ∃ b o, ad = some ⟨b, o, none⟩ ∧ PR w s.K (.dptr (es.getD i .undef).cells) (.pointer (some ⟨b, o + i * sz, none⟩)) := by
  obtain ⟨ad', cap', sz', y, he, _, _, hall, _, hcell⟩ := hp.sl_inv
  simp only [Value.slice.injEq] at he
  obtain ⟨rfl, _, rfl⟩ := he
  have hgi : es.getD i .undef = es[i] := by rw [List.getD_eq_getElem?_getD, List.getElem?_eq_getElem hi]; rfl
  rw [hgi] at hsz ⊢
  have hs : sz' = sz := (hall _ (List.getElem_mem _)).symm.trans hsz
  subst hs
  have hfl : ∀ j c, (es[i]).cells[j]? = some c → (flat es)[i * sz' + j]? = some c := fun j c hj => flat_at hall hi hj
  obtain ⟨⟨b, o, rfl, _⟩, _⟩ := hcell (i * sz' + 0) ((es[i]).cells[0]'(by omega)) (hfl 0 _ (List.getElem?_eq_getElem _))
  refine ⟨b, o, rfl, .dptr _ b _ (fun j => y (i * sz' + j)) (fun j c hj => ?_) (fun j c hj => ?_)⟩
  · obtain ⟨b', o', hb, hc⟩ := (hcell _ c (hfl j c hj)).1
    simp only [Option.some.injEq, Addr.mk.injEq, and_true] at hb
    obtain ⟨rfl, rfl⟩ := hb
    rw [Nat.add_assoc]
    exact hc
  · exact (hcell _ c (hfl j c hj)).2
theorem ref_inv {id ver : Nat} (h : Rep w s (.ref id ver) x) : RefOK s id ver x := by
  cases h with
  | pure _ _ h => cases h
  | ref _ _ _ _ h => exact h
theorem ia_sound (hs : Sim P gl w s) {t : TypeId} (hx : Rep w s a x) (hy : Rep w s b y) (h : iaP P t s.st a b K) : ∃ v z, (Instr.indexAt t x y).run P w = .ok z w ∧ Rep w s v z ∧ K v := by
  cases b with
  | int k n =>
    cases hy.int_inv
    simp only [iaP] at h
    cases he : elt P t with
    | some o =>
      obtain ⟨e, sz, by_⟩ := o
      rw [he] at h
      obtain ⟨hu, hsize⟩ := elt_lay he w
      have hpos : 0 < sz := by obtain ⟨_, i, z, _, _, rfl, _, _, h⟩ := elt_runs he; exact h
      have hrun : ∀ bk o len cap, 0 ≤ n → n < (len : Nat) → (Instr.indexAt t (.slice (some ⟨bk, o, none⟩) len cap) (.int k n)).run P w = .ok (.pointer (some ⟨bk, o + n.toNat * sz, none⟩)) w := fun bk o len cap h0 h1 => by
        simp only [Instr.indexAt, asIntOf, Sem.run_bind, Sem.run_pure, Result.andThen_ok, run_underlying hu]
        rw [if_pos ⟨h0, h1⟩]
        simp [hsize, addr_add]
      cases a with
      | sl es tk =>
        simp only at h
        obtain ⟨h0, h1, hsz, h⟩ := h
        have hp : PR w s.K (.sl es none) x := hx.sl_inv
        obtain ⟨ad, cap, _, _, rfl, _⟩ := hp.sl_inv
        obtain ⟨bk, o, rfl, hd⟩ := dptr_of_row hp (i := n.toNat) (by omega) hsz hpos
        exact ⟨_, _, hrun bk o _ cap h0 h1, .pure _ _ hd, h⟩
      | ref id ver =>
        simp only at h
        obtain ⟨o', ho, hm⟩ := ref_inv hx
        rw [ho] at h
        cases o' with
        | arr e' sz' v es =>
          obtain ⟨rfl, rfl, h0, h1, h⟩ := h
          rcases hm.2 rfl with hg | ⟨rfl, _⟩
          rotate_left
          · simp at h1; omega
          obtain ⟨xs, hown, _⟩ := hs.obj id _ _ ho hg
          rcases hown.2 with ⟨_, h0'⟩ | ⟨g, cap, cur, rfl, _⟩
          · rw [h0'] at h1; omega
          · exact ⟨_, _, hrun g 0 _ cap h0 h1, .rptr _ _ _ _ rfl ⟨_, ho, Nat.le_refl _, fun _ => ⟨_, g, hg, rfl, by rw [Nat.zero_add]⟩⟩, h⟩
        | _ => exact h.elim
      | _ => exact h.elim
    | none =>
      rw [he] at h
      cases ha : arr P t with
      | none => simp [ha] at h
      | some o =>
        obtain ⟨len, sz, g⟩ := o
        rw [ha] at h
        obtain ⟨h0, h1, h⟩ := h
        obtain ⟨e, hu, hl⟩ := arr_runs ha
        have hrun : ∀ bk o, (Instr.indexAt t (.pointer (some ⟨bk, o, none⟩)) (.int k n)).run P w = .ok (.pointer (some ⟨bk, o + n.toNat * sz, none⟩)) w := fun bk o => by
          simp only [Instr.indexAt, asIntOf, Sem.run_bind, Sem.run_pure, Result.andThen_ok, run_underlying hu, Instr.sureAddr]
          rw [if_pos ⟨h0, h1⟩]
          simp [(lay_runs hl w).1, addr_add]
        cases a with
        | ptr id o =>
          obtain ⟨bk, rfl, hg⟩ := hx.ptr_inv
          exact ⟨_, _, hrun bk o, .ptr _ _ bk hg, h⟩
        | dptr cs =>
          obtain ⟨bk, o, rfl, _⟩ := hx.dptr_inv
          exact ⟨_, _, hrun bk o, .pure _ _ (dptr_drop hx.dptr_pr _), h⟩
        | _ => exact h.elim
  | _ => exact h.elim
theorem ix_sound {t : TypeId} (hx : Rep w s a x) (hy : Rep w s b y) (h : ixP P t a b K) : ∃ v z, (Instr.index t x y).run P w = .ok z w ∧ Rep w s v z ∧ K v := by
  cases b with
  | int k n =>
    cases hy.int_inv
    simp only [ixP] at h
    cases a with
    | str l =>
      obtain ⟨hu, h0, h1, h⟩ := h
      cases hx.str_inv
      refine ⟨_, .int .u8 (l.getD n.toNat 0).toNat, ?_, .pure _ _ (.int _ _), h⟩
      simp only [Instr.index, asIntOf, Sem.run_bind, Sem.run_pure, Result.andThen_ok, run_underlying hu]
      rw [if_pos h0]
      have hlt : n.toNat < (⟨l.toArray⟩ : ByteArray).size := by simp [ByteArray.size]; omega
      rw [ByteArray.getElem?_lt' _ _ hlt]
      have : (⟨l.toArray⟩ : ByteArray)[n.toNat] = l.getD n.toNat 0 := by
        rw [List.getD_eq_getElem?_getD, List.getElem?_eq_getElem (by omega)]
        rfl
      rw [this]
      rfl
    | agg cs =>
      cases ha : arr P t with
      | none => simp [ha] at h
      | some o =>
        obtain ⟨len, sz, g⟩ := o
        rw [ha] at h
        obtain ⟨h0, h1, h2, h⟩ := h
        obtain ⟨e, hu, hl⟩ := arr_runs ha
        obtain ⟨xs, rfl, hlen, hr⟩ := hx.agg_inv
        refine ⟨_, _, ?_, rep_pack (xs := (xs.drop (n.toNat * sz)).take sz) (lay_runs hl w).2.2 (by simp; omega) (by simp; omega) (fun j c z hj hc hz => ?_), h⟩
        · simp only [Instr.index, asIntOf, Sem.run_bind, Sem.run_pure, Result.andThen_ok, run_underlying hu]
          rw [if_pos ⟨h0, h1⟩, Sem.run_bind, (lay_runs hl w).1, Result.andThen_ok]
          exact run_part hl (by omega)
        · rw [List.getElem?_take_of_lt hj, List.getElem?_drop] at hz
          rw [List.getElem?_drop] at hc
          exact hr _ c z hc hz
    | _ => exact h.elim
  | _ => exact h.elim
end
end Go.Duo
