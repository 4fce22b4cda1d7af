/-
  A part of the proof.
-/
import Derived.Test.YtdlcnihacaboiaaGreatDoorGL
import Derived.Test.YtdlcnihacaboiaaGreatDoorGK
import Derived.Lib.ParseIntBCases
import Derived.Lib.Join
import Derived.Test.YtdlcnihacaboiaaGreatDoorGJ
set_option linter.all false
namespace Go.Duo
open Go
def outA (l : List Vl) : List Str := (l.filter fun x => decide (x.kind = 1)).map Vl.name
def freeB (b : List Str) (l : List Str) : List Str := l.filter fun s => decide (s ∉ b)
theorem outA_yes {l : List Vl} {i : Nat} (h : i < l.length) (hk : l[i].kind = 1) : outA (l.take (i + 1)) = outA (l.take i) ++ [l[i].name] := by
  unfold outA; rw [take_at h, List.filter_append, List.map_append]; simp [hk]
theorem outA_no {l : List Vl} {i : Nat} (h : i < l.length) (hk : ¬ l[i].kind = 1) : outA (l.take (i + 1)) = outA (l.take i) := by
  unfold outA; rw [take_at h, List.filter_append, List.map_append]; simp [hk]
theorem freeB_yes {b l : List Str} {i : Nat} (h : i < l.length) (hk : l[i] ∉ b) : freeB b (l.take (i + 1)) = freeB b (l.take i) ++ [l[i]] := by
  unfold freeB; rw [take_at h, List.filter_append]; simp [hk]
theorem freeB_no {b l : List Str} {i : Nat} (h : i < l.length) (hk : l[i] ∈ b) : freeB b (l.take (i + 1)) = freeB b (l.take i) := by
  unfold freeB; rw [take_at h, List.filter_append]; simp [hk]
theorem outA_len (l : List Vl) : (outA l).length ≤ l.length := by
  unfold outA; rw [List.length_map]; exact List.length_filter_le _ _
theorem freeB_len (b l : List Str) : (freeB b l).length ≤ l.length := List.length_filter_le _ _
def outP (p : Pr) : List Str := (if preK p.kind = true then [p.chan] else []) ++ outA p.args
def bndP (p : Pr) (b : List Str) : List Str := b ++ (if p.kind = 3 then [p.var] else if p.kind = 6 then [p.chan, p.var] else [])
theorem usesP_eq (p : Pr) (b : List Str) : usesP p b = freeB b (outP p) ++ usesPs p.kids (bndP p b) := by
  cases p; rw [usesP]; rfl
theorem outP_len (p : Pr) : (outP p).length ≤ p.args.length + 1 := by
  unfold outP; rw [List.length_append]
  have := outA_len p.args
  split <;> simp <;> omega
theorem usesPs_take {ks : List Pr} {b : List Str} {i : Nat} (h : i < ks.length) : usesPs (ks.take (i + 1)) b = usesPs (ks.take i) b ++ usesP ks[i] b := by
  have key : ∀ (l l2 : List Pr), usesPs (l ++ l2) b = usesPs l b ++ usesPs l2 b := fun l l2 => by
    induction l with
    | nil => rfl
    | cons q l ih => rw [List.cons_append, usesPs, usesPs, ih, List.append_assoc]
  rw [take_at h, key]; simp [usesPs]
theorem uses_len (p : Pr) : ∀ b, smA p → (usesP p b).length ≤ p.sz * 2000001 := by
  induction p using Pr.ind with
  | _ k c v l a ty ks ih =>
    intro b h
    obtain ⟨h1, h2, h3, h4⟩ := (smA_iff _).1 h
    rw [usesP_eq, List.length_append, Pr.sz_eq]
    have e1 := freeB_len b (outP (.mk k c v l a ty ks))
    have e2 := outP_len (.mk k c v l a ty ks)
    have e3 : ∀ (b : List Str) (l : List Pr), (∀ q ∈ l, q ∈ ks) → (usesPs l b).length ≤ Pr.szs l * 2000001 := fun b l => by
      induction l with
      | nil => intro _; simp [usesPs]
      | cons q l ih2 =>
        intro hl
        rw [usesPs, List.length_append, Pr.szs]
        have := ih q (hl q (by simp)) b (h4 q (hl q (by simp)))
        have := ih2 fun x hx => hl x (List.mem_cons_of_mem _ hx)
        omega
    have := e3 (bndP (.mk k c v l a ty ks) b) ks fun _ h => h
    simp only [Pr.args, Pr.kids] at e2 h2 this ⊢
    omega
theorem usesPs_len {ks : List Pr} {b : List Str} (h : ∀ q ∈ ks, smA q) : (usesPs ks b).length ≤ Pr.szs ks * 2000001 := by
  induction ks with
  | nil => simp [usesPs]
  | cons q l ih2 =>
    rw [usesPs, List.length_append, Pr.szs]
    have := uses_len q b (h q (by simp))
    have := ih2 fun x hx => h x (List.mem_cons_of_mem _ hx)
    omega
end Go.Duo

namespace Go.Duo
open Go
def Pr.zero : Pr := .mk 0 [] [] [] [] Ty.zero []
end Go.Duo

namespace Go.Duo
open Go
def addS (out : List Str) (s : Str) : List Str := if s ∈ out then out else out ++ [s]
def dedS (l : List Str) : List Str := l.foldl addS []
def freeS (p : Pr) : List Str := dedS (usesP p [])
theorem dedS_take {l : List Str} {i : Nat} (h : i < l.length) : dedS (l.take (i + 1)) = addS (dedS (l.take i)) l[i] := by
  unfold dedS; rw [take_at h, List.foldl_append]; rfl
theorem dedS_yes {l : List Str} {i : Nat} (h : i < l.length) (hk : l[i] ∈ dedS (l.take i)) : dedS (l.take (i + 1)) = dedS (l.take i) := by
  rw [dedS_take h, addS, if_pos hk]
theorem dedS_no {l : List Str} {i : Nat} (h : i < l.length) (hk : l[i] ∉ dedS (l.take i)) : dedS (l.take (i + 1)) = dedS (l.take i) ++ [l[i]] := by
  rw [dedS_take h, addS, if_neg hk]
theorem addS_len (l : List Str) : ∀ out : List Str, (l.foldl addS out).length ≤ out.length + l.length := by
  induction l with
  | nil => intro out; simp
  | cons s l ih =>
    intro out
    have h := ih (addS out s)
    have : (addS out s).length ≤ out.length + 1 := by unfold addS; split <;> simp
    simp only [List.foldl_cons, List.length_cons]; omega
theorem dedS_len (l : List Str) : (dedS l).length ≤ l.length := by have := addS_len l []; simpa [dedS] using this
theorem addS_mem {s : Str} (l : List Str) : ∀ out : List Str, s ∈ l.foldl addS out ↔ s ∈ out ∨ s ∈ l := by
  induction l with
  | nil => intro out; simp
  | cons x l ih =>
    intro out
    rw [List.foldl_cons, ih (addS out x)]
    have : s ∈ addS out x ↔ s ∈ out ∨ s = x := by
      unfold addS; split
      · rename_i hx
        exact ⟨.inl, fun h => h.elim id fun h => h ▸ hx⟩
      · simp
    rw [this, List.mem_cons, or_assoc]
theorem dedS_mem {s : Str} {l : List Str} : s ∈ dedS l ↔ s ∈ l := by rw [dedS, addS_mem]; simp
theorem sameTs_rfl {l : List Ty} (h : ∀ t ∈ l, sameT t t = true) : sameTs l l = true := by
  induction l with
  | nil => rfl
  | cons t l ih => rw [sameTs, h t (by simp), ih fun x hx => h x (List.mem_cons_of_mem _ hx)]; rfl
theorem sameT_rfl (t : Ty) : sameT t t = true := by
  induction t using Ty.ind with
  | _ k p n s l ks ih => rw [sameT, sameTs_rfl ih]; simp
theorem samePs_rfl {l : List Pr} (h : ∀ t ∈ l, sameP t t = true) : samePs l l = true := by
  induction l with
  | nil => rfl
  | cons t l ih => rw [samePs, h t (by simp), ih fun x hx => h x (List.mem_cons_of_mem _ hx)]; rfl
theorem sameP_rfl (p : Pr) : sameP p p = true := by
  induction p using Pr.ind with
  | _ k c v l a ty ks ih => rw [sameP, samePs_rfl ih, sameT_rfl]; simp
def DOL : Str := [36]
theorem nameB_dol {s d : Str} (h : nameB s = true) : s ≠ 36 :: d := by
  rintro rfl
  have : isWord (36 :: d) = false := by rw [isWord_at (by simp)]; simp [letB]
  simp [nameB, this] at h
theorem nil_dol {d : Str} : ([] : Str) ≠ 36 :: d := by simp
theorem value_okN {x : Vl} (h : valueB x = true) (hk : x.kind = 1) : nameB x.name = true ∧ x.n = 0 := by
  unfold valueB at h
  rw [hk] at h
  simpa using h
theorem node_of {p : Pr} (h : nodeB p = true) : (∀ x ∈ p.args, valueB x = true) ∧ (p.chan = [] ∨ nameB p.chan = true) ∧ (p.var = [] ∨ nameB p.var = true) ∧ (p.kind = 6 → p.chan ≠ p.var) ∧ (preK p.kind = true → nameB p.chan = true) := by
  unfold nodeB at h
  rw [Bool.and_eq_true, List.all_eq_true] at h
  refine ⟨h.1, ?_⟩
  have h2 := h.2
  clear h
  by_cases h1 : p.kind = 1
  · rw [if_pos h1] at h2; simp only [Bool.and_eq_true, decide_eq_true_eq] at h2; refine ⟨.inl h2.1, .inl h2.2.1, by omega, fun h => ?_⟩; simp [preK] at h; omega
  rw [if_neg h1] at h2
  by_cases h1 : p.kind = 2
  · rw [if_pos h1] at h2; simp only [Bool.and_eq_true, decide_eq_true_eq] at h2; exact ⟨.inr h2.1, .inl h2.2.1, by omega, fun _ => h2.1⟩
  rw [if_neg h1] at h2
  by_cases h1 : p.kind = 3
  · rw [if_pos h1] at h2; simp only [Bool.and_eq_true, decide_eq_true_eq] at h2; exact ⟨.inr h2.1, .inr h2.2.1, by omega, fun _ => h2.1⟩
  rw [if_neg h1] at h2
  by_cases h1 : p.kind = 4
  · rw [if_pos h1] at h2; simp only [Bool.and_eq_true, decide_eq_true_eq] at h2; exact ⟨.inr h2.1, .inl h2.2.1, by omega, fun _ => h2.1⟩
  rw [if_neg h1] at h2
  by_cases h1 : p.kind = 5
  · rw [if_pos h1] at h2; simp only [Bool.and_eq_true, decide_eq_true_eq] at h2; exact ⟨.inr h2.1, .inl h2.2.1, by omega, fun _ => h2.1⟩
  rw [if_neg h1] at h2
  by_cases h1 : p.kind = 6
  · rw [if_pos h1] at h2; simp only [Bool.and_eq_true, decide_eq_true_eq] at h2; refine ⟨.inr h2.1, .inr h2.2.1, fun _ => h2.2.2.1, fun h => ?_⟩; simp [preK] at h; omega
  rw [if_neg h1] at h2
  by_cases h1 : p.kind = 7
  · rw [if_pos h1] at h2; simp only [Bool.and_eq_true, decide_eq_true_eq] at h2; refine ⟨.inl h2.2.1, .inl h2.2.2.1, by omega, fun h => ?_⟩; simp [preK] at h; omega
  rw [if_neg h1] at h2
  by_cases h1 : p.kind = 8
  · rw [if_pos h1] at h2; simp only [Bool.and_eq_true, decide_eq_true_eq] at h2; refine ⟨.inr h2.1, .inl h2.2.1, by omega, fun h => ?_⟩; simp [preK] at h; omega
  rw [if_neg h1] at h2; cases h2
theorem nodes_kid {p : Pr} (h : nodesB p = true) : nodeB p = true ∧ ∀ q ∈ p.kids, nodesB q = true := by
  rw [nodesB_eq, Bool.and_eq_true, nodesBs_eq, List.all_eq_true] at h; exact h
theorem nodes_noN {d : Str} (p : Pr) : nodesB p = true → noN (36 :: d) p := by
  induction p using Pr.ind with
  | _ k c v l a ty ks ih =>
    intro h
    obtain ⟨h1, h2⟩ := nodes_kid h
    obtain ⟨n1, n2, n3, n4⟩ := node_of h1
    refine .mk _ _ _ _ _ _ _ ?_ ?_ (fun x hx hk => nameB_dol (value_okN (n1 x hx) hk).1) fun q hq => ih q hq (h2 q hq)
    · rcases n2 with n2 | n2
      · simp only [Pr.chan] at n2; rw [n2]; exact nil_dol
      · exact nameB_dol n2
    · rcases n3 with n3 | n3
      · simp only [Pr.var] at n3; rw [n3]; exact nil_dol
      · exact nameB_dol n3
theorem nodes_okN (p : Pr) : nodesB p = true → okN p := by
  induction p using Pr.ind with
  | _ k c v l a ty ks ih =>
    intro h
    obtain ⟨h1, h2⟩ := nodes_kid h
    obtain ⟨n1, _⟩ := node_of h1
    exact .mk _ _ _ _ _ _ _ (fun x hx hk => (value_okN (n1 x hx) hk).2) fun q hq => ih q hq (h2 q hq)
theorem right_nodes {p : Pr} (h : rightP p = 0) : nodesB p = true := by
  unfold rightP at h
  split at h
  · omega
  · split at h
    · assumption
    · omega
theorem few_of {p : Pr} (h : fewPr p 300 = true) : p.sz ≤ 300 ∧ p.dp ≤ 150 ∧ tyS p := by
  unfold fewPr at h
  simp only [Bool.and_eq_true, decide_eq_true_eq] at h
  have := fewPr_sz (t := p) (m := 300) (by omega) h.1
  exact ⟨by omega, h.2, leftPr_tyS p 300 (by omega) h.1⟩
theorem tget_mem {t : Tb} {s : Str} {v : Vl} (h : tget t s = some v) : (s, v) ∈ t := by
  induction t with
  | nil => cases h
  | cons p t ih =>
    obtain ⟨k, x⟩ := p
    simp only [tget] at h
    split at h
    · rename_i hk; cases h; rw [hk]; exact List.mem_cons_self ..
    · exact List.mem_cons_of_mem _ (ih h)
theorem tdel_sub {t : Tb} {s : Str} {q : Str × Vl} (h : q ∈ tdel t s) : q ∈ t := by
  induction t with
  | nil => exact h
  | cons p t ih =>
    obtain ⟨k, x⟩ := p
    simp only [tdel] at h
    split at h
    · exact List.mem_cons_of_mem _ h
    · rcases List.mem_cons.1 h with h | h
      · rw [h]; exact List.mem_cons_self ..
      · exact List.mem_cons_of_mem _ (ih h)
theorem innerS_sub {t : Tb} {k : Int} {c v : Str} {q : Str × Vl} (h : q ∈ innerS t k c v) : q ∈ t := by
  unfold innerS at h
  split at h
  · split at h
    · exact tdel_sub h
    · exact h
  · split at h
    · exact tdel_sub (tdel_sub h)
    · exact h
/-- Every value is a name. -/
def nmTb (t : Tb) : Prop := ∀ q ∈ t, q.2.kind = 1 ∧ inS q.2.name ∧ q.2.n = 0
theorem nmTb.ok {t : Tb} (h : nmTb t) : okTb t := fun q hq => by
  obtain ⟨h1, h2, h3⟩ := h q hq
  exact ⟨by rw [h1]; unfold inI; omega, h2, by rw [h3]; unfold inI; omega⟩
theorem nmTb.one {o n : Str} (h : inS n) : nmTb [(o, ⟨1, n, 0⟩)] := fun q hq => by
  rw [List.mem_singleton] at hq; subst hq; exact ⟨rfl, h, rfl⟩
theorem valueS_n {x : Vl} (h : x.kind = 1) : valueS x = x.name := by
  unfold valueS; rw [if_neg (by omega), if_neg (by omega), if_neg (by omega)]
theorem sub_okP (p : Pr) : ∀ t : Tb, nmTb t → okP p → okP (subP t p) := by
  induction p using Pr.ind with
  | _ k c v l a ty ks ih =>
    intro t ht h
    obtain ⟨h1, h2, h3, h4, h5, h6, h7, h8⟩ := (okP_iff _).1 h
    rw [subP, subPs_eq, okP_iff]
    simp only [Pr.kind, Pr.chan, Pr.var, Pr.labels, Pr.args, Pr.typ, Pr.kids] at *
    refine ⟨h1, ?_, h3, h4, ⟨?_, fun x hx => ?_⟩, h6, ?_, fun u hu => ?_⟩
    · split
      · unfold chanS
        split
        · rename_i w hw
          have := ht _ (tget_mem hw)
          rw [valueS_n this.1]; exact this.2.1
        · exact h2
      · exact h2
    · have := h5.1; unfold inL at this ⊢; rw [List.length_map]; exact this
    · obtain ⟨y, hy, rfl⟩ := List.mem_map.1 hx
      unfold valS
      split
      · rename_i w hw
        split
        · exact ht.ok _ (tget_mem hw)
        · exact h5.2 y hy
      · exact h5.2 y hy
    · unfold inL at h7 ⊢; rw [List.length_map]; exact h7
    · obtain ⟨q, hq, rfl⟩ := List.mem_map.1 hu
      exact ih q hq _ (fun z hz => ht z (innerS_sub hz)) (h8 q hq)
theorem renames_law {p : Pr} {old new : Str} (h : nodesB p = true) : sameP (subP [(DOL, ⟨1, new, 0⟩)] (subP [(old, ⟨1, DOL, 0⟩)] p)) (subP [(old, ⟨1, new, 0⟩)] p) = true ∧ sameP (subP [(old, ⟨1, old, 0⟩)] p) p = true ∧ (old ∈ freeS p ∨ sameP (subP [(old, ⟨1, DOL, 0⟩)] p) p = true) := by
  refine ⟨?_, ?_, ?_⟩
  · rw [show subP [(DOL, ⟨1, new, 0⟩)] (subP [(old, ⟨1, DOL, 0⟩)] p) = _ from sub_two (nodes_noN (d := []) p h)]; exact sameP_rfl _
  · rw [sub_self (nodes_okN p h)]; exact sameP_rfl _
  · by_cases hm : old ∈ freeS p
    · exact .inl hm
    · right
      rw [sub_free (b := []) (by simp) (fun h => hm (dedS_mem.2 h))]; exact sameP_rfl _
end Go.Duo

namespace Go.Duo
open Go
def LETS : Str := [65, 66, 67, 68, 69, 70, 71, 72, 73, 74, 75, 76, 77, 78, 79, 80, 81, 82, 83, 84, 85, 86, 87, 88, 89, 90, 97, 98, 99, 100, 101, 102, 103, 104, 105, 106, 107, 108, 109, 110, 111, 112, 113, 114, 115, 116, 117, 118, 119, 120, 121, 122, 95]
def DIGS : Str := [48, 49, 50, 51, 52, 53, 54, 55, 56, 57]
theorem let_in (c : UInt8) : decide (c ∈ LETS) = letB c := by
  have := u8_all (fun c => decide (c ∈ LETS) == letB c) (by decide +kernel) c
  simpa using this
theorem dig_in (c : UInt8) : decide (c ∈ DIGS) = dig c := by
  have := u8_all (fun c => decide (c ∈ DIGS) == dig c) (by decide +kernel) c
  simpa using this
section
variable {s : Str} {a i : Nat}
theorem word_cons (h : 0 < s.length) (hl : letB s[0] = true) : isWord s = (s.drop 1).all wordB := by
  cases s with
  | nil => simp at h
  | cons c r => simp only [List.getElem_cons_zero] at hl; simp [isWord, hl]
theorem word_no (h : 0 < s.length) (hl : letB s[0] = false) : isWord s = false := by
  cases s with
  | nil => simp at h
  | cons c r => simp only [List.getElem_cons_zero] at hl; simp [isWord, hl]
theorem all_at {p : UInt8 → Bool} (h : i < s.length) : (s.drop i).all p = (p s[i] && (s.drop (i + 1)).all p) := by rw [drop_at h, List.all_cons]
theorem all_yes {p : UInt8 → Bool} {b : Bool} (hb : b = (s.drop i).all p) (h : i < s.length) (hp : p s[i] = true) : b = (s.drop (i + 1)).all p := by rw [hb, all_at h, hp, Bool.true_and]
theorem all_no {p : UInt8 → Bool} {b : Bool} (hb : b = (s.drop i).all p) (h : i < s.length) (hp : p s[i] = false) : b = false := by rw [hb, all_at h, hp, Bool.false_and]
theorem all_end' {p : UInt8 → Bool} {b : Bool} (hb : b = (s.drop i).all p) (h : s.length ≤ i) : b = true := by rw [hb, List.drop_eq_nil_of_le h]; rfl
theorem num_zero (h : s = [48]) : isNum s = true := by subst h; decide
theorem num_minus (h : 0 < s.length) (hm : s[0] = 45) (h1 : s.length ≤ 1) : isNum s = false := by
  cases s with
  | nil => simp at h
  | cons c r =>
    simp only [List.getElem_cons_zero] at hm; subst hm
    cases r with
    | nil => rfl
    | cons d r => simp at h1
theorem num_minus0 (h : 1 < s.length) (hm : s[0] = 45) (h1 : s[1] = 48) : isNum s = false := by
  cases s with
  | nil => simp at h
  | cons c r =>
    simp only [List.getElem_cons_zero] at hm; subst hm
    cases r with
    | nil => simp at h
    | cons d r => simp only [List.getElem_cons_succ, List.getElem_cons_zero] at h1; subst h1; rw [isNum_minus]; simp
theorem num_minus1 (h : 1 < s.length) (hm : s[0] = 45) (h1 : ¬ s[1] = 48) : isNum s = (s.drop 1).all dig := by
  cases s with
  | nil => simp at h
  | cons c r =>
    simp only [List.getElem_cons_zero] at hm; subst hm
    cases r with
    | nil => simp at h
    | cons d r => simp only [List.getElem_cons_succ, List.getElem_cons_zero] at h1; rw [isNum_minus]; simp [h1]
theorem num_nil (h : s.length = 0) : isNum s = false := by
  obtain rfl := List.eq_nil_of_length_eq_zero h; rfl
theorem num_0 (h : 0 < s.length) (h0 : s[0] = 48) (hs : ¬ s = [48]) : isNum s = false := by
  cases s with
  | nil => simp at h
  | cons c r =>
    simp only [List.getElem_cons_zero] at h0; subst h0
    rw [isNum_zero]; cases r with
    | nil => exact absurd rfl hs
    | cons d r => simp
theorem num_plain (h : 0 < s.length) (hm : ¬ s[0] = 45) (h0 : ¬ s[0] = 48) : isNum s = s.all dig := by
  cases s with
  | nil => simp at h
  | cons c r =>
    simp only [List.getElem_cons_zero] at hm h0
    by_cases hd : dig c = true
    · rw [isNum_dig hd h0, List.all_cons, hd, Bool.true_and]
    · have hd : dig c = false := by simpa using hd
      rw [isNum_other hd hm, List.all_cons, hd, Bool.false_and]
end
def valL (s : Str) : Option Int := match Lib.parseIntB 64 s with | .ok n => some n | _ => none
def fd (s : Str) (a i : Nat) : Nat := foldD 0 ((s.take i).drop a)
theorem foldD_app (n : Nat) (l m : Str) : foldD n (l ++ m) = foldD (foldD n l) m := by unfold foldD; rw [List.foldl_append]
section
variable {s : Str} {a i : Nat}
theorem fd_self (s : Str) (a : Nat) : fd s a a = 0 := by unfold fd; rw [List.drop_eq_nil_of_le (by rw [List.length_take]; omega)]; rfl
theorem fd_step (ha : a ≤ i) (h : i < s.length) : fd s a (i + 1) = 10 * fd s a i + (s[i].toNat - 48) := by
  unfold fd
  rw [take_at h, List.drop_append_of_le_length (by rw [List.length_take]; omega), foldD_app, foldD_cons]; rfl
theorem fd_end (h : s.length ≤ i) : fd s a i = foldD 0 (s.drop a) := by unfold fd; rw [List.take_of_length_le h]
theorem fd_le (ha : a ≤ i) : fd s a i ≤ foldD 0 (s.drop a) := by
  unfold fd
  by_cases h : i ≤ s.length
  · have e : s.drop a = (s.take i).drop a ++ s.drop i := by
      conv => lhs; rw [← List.take_append_drop i s]
      rw [List.drop_append_of_le_length (by rw [List.length_take]; omega)]
    rw [e, foldD_app]; exact foldD_ge _ _
  · rw [List.take_of_length_le (by omega)]; exact Nat.le_refl _
end
theorem parseM_dig (l : Str) : ∀ (acc : Nat), (∀ c ∈ l, dig c = true) → acc ≤ 18446744073709551615 → Lib.parseUintM 18446744073709551615 acc l = if foldD acc l ≤ 18446744073709551615 then .ok (foldD acc l) else .range := by
  induction l with
  | nil => intro acc _ h; rw [show foldD acc [] = acc from rfl, if_pos h]; rfl
  | cons c l ih =>
    intro acc hd h
    have hc := hd c (List.mem_cons_self ..)
    simp only [dig, Bool.and_eq_true, decide_eq_true_eq] at hc
    have h1 := foldD_ge l (10 * acc + (c.toNat - 48))
    rw [foldD_cons]
    by_cases h2 : 1844674407370955162 ≤ acc
    · rw [if_neg (by omega)]
      simp [Lib.parseUintM, hc, h2]
    · by_cases h3 : 18446744073709551615 < acc * 10 + (c.toNat - 48)
      · rw [if_neg (by omega)]
        simp [Lib.parseUintM, hc, h2, h3]
      · rw [parseUintM_step hc h2 h3, Nat.mul_comm acc 10]
        exact ih _ (fun c hc => hd c (List.mem_cons_of_mem _ hc)) (by omega)
theorem parseB_dig (l : Str) (hl : ¬ l = []) (hd : l.all dig = true) : Lib.parseUintB 64 l = if foldD 0 l ≤ 18446744073709551615 then .ok (foldD 0 l) else .range := by
  unfold Lib.parseUintB
  rw [if_neg hl]
  exact parseM_dig l 0 (by simpa using hd) (by omega)
theorem val_neg {s : Str} (hn : isNum s = true) (h : 0 < s.length) (hm : s[0] = 45) : valL s = if foldD 0 (s.drop 1) ≤ 9223372036854775808 then some (-((foldD 0 (s.drop 1) : Nat) : Int)) else none := by
  cases s with
  | nil => simp at h
  | cons c r =>
    simp only [List.getElem_cons_zero] at hm; subst hm
    rw [isNum_minus] at hn
    cases r with
    | nil => cases hn
    | cons d r =>
      simp only [Bool.and_eq_true] at hn
      unfold valL
      rw [Lib.parseIntB_minus, parseB_dig _ (by simp) (by rw [List.all_cons]; simpa using hn.2)]
      rw [List.drop_succ_cons, List.drop_zero]
      by_cases h1 : foldD 0 (d :: r) ≤ 18446744073709551615
      · rw [if_pos h1]
        by_cases h2 : foldD 0 (d :: r) ≤ 9223372036854775808
        · rw [if_pos h2]; simp only [Lib.signedC]; rw [if_neg (by simp; omega)]
        · rw [if_neg h2]; simp only [Lib.signedC]; rw [if_pos (by simp; omega)]
      · rw [if_neg h1, if_neg (by omega)]; rfl
theorem val_pos {s : Str} (hn : isNum s = true) (h : 0 < s.length) (hm : ¬ s[0] = 45) : valL s = if foldD 0 s ≤ 9223372036854775807 then some ((foldD 0 s : Nat) : Int) else none := by
  have hd : s.all dig = true := by
    by_cases h0 : s[0] = 48
    · by_cases hs : s = [48]
      · subst hs; decide
      · rw [num_0 h h0 hs] at hn; cases hn
    · rw [num_plain h hm h0] at hn; exact hn
  cases s with
  | nil => simp at h
  | cons c r =>
    simp only [List.getElem_cons_zero] at hm
    have hc : dig c = true := by rw [List.all_cons] at hd; simp only [Bool.and_eq_true] at hd; exact hd.1
    simp only [dig, Bool.and_eq_true, decide_eq_true_eq] at hc
    unfold valL
    rw [Lib.parseIntB_plain 64 c r (by omega) (by omega), parseB_dig _ (by simp) hd]
    by_cases h1 : foldD 0 (c :: r) ≤ 18446744073709551615
    · rw [if_pos h1]
      by_cases h2 : foldD 0 (c :: r) ≤ 9223372036854775807
      · rw [if_pos h2]; simp only [Lib.signlessC]; rw [if_neg (by simp; omega)]
      · rw [if_neg h2]; simp only [Lib.signlessC]; rw [if_pos (by simp; omega)]
    · rw [if_neg h1, if_neg (by omega)]; rfl
theorem num_dig {s : Str} {i : Nat} (hn : isNum s = true) (hi : i < s.length) (h : 1 ≤ i ∨ ¬ s[0]'(by omega) = 45) : 48 ≤ s[i].toNat ∧ s[i].toNat ≤ 57 := by
  have hd : dig s[i] = true := by
    by_cases hm : s[0]'(by omega) = 45
    · have hi1 : 1 ≤ i := by rcases h with h | h; exact h; exact absurd hm h
      by_cases h1 : s[1]'(by omega) = 48
      · rw [num_minus0 (by omega) hm h1] at hn; cases hn
      · rw [num_minus1 (by omega) hm h1] at hn
        refine List.all_eq_true.1 hn _ ?_
        rw [List.mem_iff_getElem]
        exact ⟨i - 1, by rw [List.length_drop]; omega, by rw [List.getElem_drop]; congr 1; omega⟩
    · by_cases h0 : s[0]'(by omega) = 48
      · by_cases hs : s = [48]
        · subst hs; simp at hi; subst hi; rfl
        · rw [num_0 (by omega) h0 hs] at hn; cases hn
      · rw [num_plain (by omega) hm h0] at hn
        exact List.all_eq_true.1 hn _ (List.getElem_mem _)
  simpa only [dig, Bool.and_eq_true, decide_eq_true_eq] using hd
theorem tdiv_m10 {x : Int} (h : x ≤ 0) : Int.tdiv x 10 = -((-x) / 10) := by
  obtain ⟨y, rfl⟩ : ∃ y : Int, x = -y := ⟨-x, by omega⟩
  rw [Int.neg_tdiv, Int.tdiv_eq_ediv_of_nonneg (by omega), Int.neg_neg]
theorem tok_minus {t : Str} (h : t.head? = some 45) : tokN t ≠ 1 := by
  cases t with
  | nil => cases h
  | cons c r =>
    simp only [List.head?_cons, Option.some.injEq] at h; subst h
    cases r with
    | nil => decide
    | cons d r =>
      simp only [tokN, show letB 45 = false from by decide, Bool.false_eq_true, if_false, numN, if_true, show signB 45 = false from by decide]
      split
      · split <;> omega
      · split <;> omega
/-- Where the longest token ends that is known so far. -/
def endL (t : Str) (k : Nat) : Nat := if preOK t k = true then k else 0
theorem pre_iff {t : Str} {k : Nat} : preOK t k = true ↔ 1 ≤ k ∧ k ≤ tokN t ∧ ¬ (k = 1 ∧ t.head? = some 45) := by
  unfold preOK
  simp only [Bool.and_eq_true, decide_eq_true_eq, Bool.not_eq_true', Bool.and_eq_false_imp, decide_eq_false_iff_not]
  constructor
  · rintro ⟨⟨h1, h2⟩, h3⟩; exact ⟨h1, h2, fun h => h3 h.1 h.2⟩
  · rintro ⟨h1, h2, h3⟩; exact ⟨⟨h1, h2⟩, fun h h' => h3 ⟨h, h'⟩⟩
theorem endL_yes {t : Str} {k : Nat} (h : preOK t k = true) : endL t k = k := if_pos h
theorem endL_0 (t : Str) : endL t 0 = 0 := by unfold endL; split <;> rfl
theorem endL_1 {t : Str} (h : preOK t 1 = false) : endL t 1 = 0 := by unfold endL; rw [h]; rfl
theorem endL_out {t : Str} {k : Nat} (hk : 1 ≤ k) (h : k ≤ 1 ∨ preOK t k = true) (hn : preOK t (k + 1) = false) : endL t k = tokN t := by
  have hn' : ¬ preOK t (k + 1) = true := by rw [hn]; simp
  rw [pre_iff] at hn'
  have h2 : tokN t ≤ k := by
    rcases Nat.lt_or_ge k (tokN t) with h | h
    · exact absurd ⟨by omega, by omega, fun h => by omega⟩ hn'
    · exact h
  unfold endL
  by_cases hp : preOK t k = true
  · rw [if_pos hp]; have := (pre_iff.1 hp).2.1; omega
  · rw [if_neg hp]
    have hk1 : k = 1 := by rcases h with h | h; omega; exact absurd h hp
    subst hk1
    rcases Nat.lt_or_ge (tokN t) 1 with h3 | h3
    · omega
    · have h4 : tokN t = 1 := by omega
      exact absurd (pre_iff.2 ⟨by omega, by omega, fun h => tok_minus h.2 h4⟩) hp
theorem endL_end {t : Str} (hk : 1 ≤ t.length) (h : t.length ≤ 1 ∨ preOK t t.length = true) : endL t t.length = tokN t := by
  refine endL_out hk h ?_
  have := tokN_le t
  cases hp : preOK t (t.length + 1) with
  | false => rfl
  | true => have := (pre_iff.1 hp).2.1; omega
def inB (c : UInt8) (s : Str) : Bool := decide (c ∈ s)
theorem inB_let (c : UInt8) : inB c LETS = letB c := let_in c
theorem inB_dig (c : UInt8) : inB c DIGS = dig c := dig_in c
theorem inB_sign (c : UInt8) : inB c [33, 63, 46, 40, 41, 123, 125, 60, 62, 44, 58, 59, 124, 38, 43, 61] = signB c := rfl
theorem inB_blank (c : UInt8) : inB c [32, 9, 10, 13] = blankB c := blank_in c
theorem inB_yes {c : UInt8} {s : Str} {i : Nat} (h : i < s.length) (hc : s[i] = c) : inB c s = true := by
  subst hc; unfold inB; rw [decide_eq_true_eq]; exact List.getElem_mem _
theorem inB_no {c : UInt8} {s : Str} (h : c ∉ s) : inB c s = false := by unfold inB; rw [decide_eq_false_iff_not]; exact h
theorem notin_at {α : Type} {l : List α} {c : α} {i : Nat} (h : c ∉ l.take i) (hlt : i < l.length) (hq : ¬ l[i] = c) : c ∉ l.take (i + 1) := by
  rw [take_at hlt, List.mem_append, List.mem_singleton]
  rintro (h' | h')
  · exact h h'
  · exact hq h'.symm
theorem word_nil {s : Str} (h : s.length = 0) : isWord s = false := by
  obtain rfl := List.eq_nil_of_length_eq_zero h; rfl
theorem len_drop1 (s : Str) : (s.drop 1).length = s.length - 1 := List.length_drop
theorem kindL_word {s : Str} (h : isWord s = true) : kindL s = 1 := by unfold kindL; rw [if_pos h]
theorem kindL_num {s : Str} (h : isWord s = false) (h2 : isNum s = true) : kindL s = 2 := by unfold kindL; rw [if_neg (by rw [h]; simp), if_pos h2]
theorem kindL_one {s : Str} (h : isWord s = false) (h2 : isNum s = false) (h3 : s.length = 1) : kindL s = if signB (s[0]'(by omega)) = true then 3 else 0 := by
  unfold kindL; rw [if_neg (by rw [h]; simp), if_neg (by rw [h2]; simp)]
  match s, h3 with
  | [c], _ => rfl
theorem kindL_none {s : Str} (h : isWord s = false) (h2 : isNum s = false) (h3 : ¬ s.length = 1) : kindL s = 0 := by
  unfold kindL; rw [if_neg (by rw [h]; simp), if_neg (by rw [h2]; simp)]
  match s, h3 with
  | [], _ => rfl
  | [c], h => simp at h
  | c :: d :: r, _ => rfl
/-- What is taken of a text from a place on. -/
theorem slice_take {s : Str} {a e : Nat} (h : a ≤ e) : (s.take e).drop a = (s.drop a).take (e - a) := by rw [List.drop_take]
theorem kind_at {s : Str} {a i : Nat} (h : a < i) (hi : i ≤ s.length) : (0 < kindL ((s.take i).drop a)) = (preOK (s.drop a) (i - a) = true) := by
  rw [slice_take (by omega), kind_take (by omega) (by rw [List.length_drop]; omega)]
section
variable {s : Str} {a k : Nat}
theorem endL_kind (h : 0 < kindL ((s.take (a + (k + 1))).drop a)) (hk : a + k < s.length) : preOK (s.drop a) (k + 1) = true := by
  rw [kind_at (by omega) (by omega), show a + (k + 1) - a = k + 1 from by omega] at h; exact h
theorem endL_kno (h : kindL ((s.take (a + (k + 1))).drop a) ≤ 0) (hk : a + k < s.length) : preOK (s.drop a) (k + 1) = false := by
  cases hp : preOK (s.drop a) (k + 1) with
  | false => rfl
  | true =>
    have h2 : 0 < kindL ((s.take (a + (k + 1))).drop a) := by rw [kind_at (by omega) (by omega), show a + (k + 1) - a = k + 1 from by omega]; exact hp
    omega
theorem endL_skip (h : kindL ((s.take (a + (k + 1))).drop a) ≤ 0) (hk : a + k < s.length) (h0 : k = 0) : endL (s.drop a) (k + 1) = endL (s.drop a) k := by
  subst h0
  rw [endL_1 (endL_kno h hk), endL_0]
theorem endL_fin (ha : a < s.length) (hk : a + k ≤ s.length) (h : s.length ≤ a + k) (hp : k ≤ 1 ∨ preOK (s.drop a) k = true) : endL (s.drop a) k = tokN (s.drop a) := by
  have e : k = (s.drop a).length := by rw [List.length_drop]; omega
  subst e
  exact endL_end (by rw [List.length_drop]; omega) hp
end
def valN (s : Str) : Int := (valL s).getD 0
def valB (s : Str) : Bool := (valL s).isSome
def txA (s : Str) (a : Nat) : Str := (s.take (a + tokN (s.drop a))).drop a
def rT (s : Str) (a : Nat) (v : Int) : Tok := ⟨kindL ((s.take (a + tokN (s.drop a))).drop a), (s.take (a + tokN (s.drop a))).drop a, v, a⟩
def encT3 (x : List Tok × Int × Int) : V := .tuple [.sl (x.1.map encK) none, .int .i64 x.2.1, .int .i64 x.2.2]
theorem nil_tupL (st : List O) (l : List V) : V.le st (.tuple (.nil :: l)) (.tuple (.sl [] none :: l)) := by
  refine V.le_tuple rfl fun i c d hc hd => ?_
  cases i with
  | zero => simp at hc hd; subst hc hd; exact V.le_nil _
  | succ i => simp at hc hd; rw [hc] at hd; cases hd; exact V.le_refl _ _
section
variable {s : Str} {a p : Nat}
theorem tokN_at (h : a < s.length) : a + tokN (s.drop a) ≤ s.length := by
  have := tokN_le (s.drop a)
  rw [List.length_drop] at this; omega
theorem txA_eq (s : Str) (a : Nat) : (s.take (a + tokN (s.drop a))).drop a = (s.drop a).take (tokN (s.drop a)) := by
  rw [List.drop_take]; congr 1; omega
theorem note_end1 (hp : lexA s true p = lexA s false a) (h : s.length ≤ p) : lexA s false p = lexA s false a := by rw [← hp, lexA_end h, lexA_end h]
theorem note_end2 {h : p < s.length} (hp : lexA s true p = lexA s false a) (hc : s[p] = 10) : lexA s false p = lexA s false a := by rw [← hp, lexA_line h hc]
theorem kind2_num {u : Str} (h : kindL u = 2) : isNum u = true := by
  unfold kindL at h
  split at h
  · cases h
  · split at h
    · assumption
    · split at h
      · split at h <;> cases h
      · cases h
theorem num_pos {u : Str} (h : isNum u = true) : 0 < u.length := by
  rcases Nat.eq_zero_or_pos u.length with h0 | h0
  · rw [num_nil h0] at h; cases h
  · exact h0
theorem rT_word (h : a < s.length) (hb : blankB s[a] = false) (hh : ¬ s[a] = 35) (h0 : ¬ tokN (s.drop a) = 0) (hk : ¬ kindL ((s.take (a + tokN (s.drop a))).drop a) = 2) : lexA s false a = (lexA s false (a + tokN (s.drop a))).map (rT s a 0 :: ·) := by
  rw [txA_eq, kind_tok h0] at hk
  rw [lexA_tok (v := 0) h hb hh h0 (by unfold tokV; rw [if_neg hk])]
  unfold rT; rw [txA_eq, kind_tok h0]
theorem rT_num (h : a < s.length) (hb : blankB s[a] = false) (hh : ¬ s[a] = 35) (h0 : ¬ tokN (s.drop a) = 0) (hk : kindL ((s.take (a + tokN (s.drop a))).drop a) = 2) (hv : valB ((s.take (a + tokN (s.drop a))).drop a) = true) : lexA s false a = (lexA s false (a + tokN (s.drop a))).map (rT s a (valN ((s.take (a + tokN (s.drop a))).drop a)) :: ·) := by
  rw [txA_eq, kind_tok h0] at hk
  rw [txA_eq] at hv
  rw [lexA_tok (v := valN ((s.drop a).take (tokN (s.drop a)))) h hb hh h0 (by
    unfold tokV valN; rw [if_pos hk]
    unfold valB valL at hv; unfold valL
    cases hh : Lib.parseIntB 64 ((s.drop a).take (tokN (s.drop a))) <;> rw [hh] at hv <;> first | rfl | cases hv)]
  unfold rT; rw [txA_eq, kind_tok h0]
theorem rT_big (h : a < s.length) (hb : blankB s[a] = false) (hh : ¬ s[a] = 35) (h0 : ¬ tokN (s.drop a) = 0) (hk : kindL ((s.take (a + tokN (s.drop a))).drop a) = 2) (hv : valB ((s.take (a + tokN (s.drop a))).drop a) = false) : lexA s false a = .error (2, (a : Int)) := by
  rw [txA_eq, kind_tok h0] at hk
  rw [txA_eq] at hv
  refine lexA_big h hb hh h0 ?_
  unfold tokV; rw [if_pos hk]
  unfold valB valL at hv
  cases hh : Lib.parseIntB 64 ((s.drop a).take (tokN (s.drop a))) <;> rw [hh] at hv <;> first | rfl | cases hv
theorem map_snoc {l : List Tok} {t : Tok} {x y z : LexR} (h : z = x.map (l ++ ·)) (h2 : x = y.map (t :: ·)) : z = y.map ((l ++ [t]) ++ ·) := by
  subst h2; subst h
  cases y <;> simp [Except.map]
theorem map_same {l : List Tok} {x y z : LexR} (h : z = x.map (l ++ ·)) (h2 : y = x) : z = y.map (l ++ ·) := by rw [h2]; exact h
theorem map_nil (x : LexR) : x = x.map (([] : List Tok) ++ ·) := by cases x <;> simp [Except.map]
theorem lexT_err {l : List Tok} {x : LexR} {e q : Int} (h : s.length ≤ 65536) (hp : lexA s false 0 = x.map (l ++ ·)) (hx : x = .error (e, q)) : lexT s = ([], e, q) := by
  unfold lexT; rw [if_neg (by omega), hp, hx]; rfl
theorem lexT_fin {l : List Tok} (h : s.length ≤ 65536) (hp : lexA s false 0 = (lexA s false a).map (l ++ ·)) (ha : s.length ≤ a) : lexT s = (l, 0, 0) := by
  rw [lexA_end ha] at hp
  unfold lexT; rw [if_neg (by omega), hp]; simp [Except.map]
end
end Go.Duo
namespace Go.Duo
open Go
end Go.Duo

namespace Go.Duo
open Go
theorem getDu (s : Str) (i : Nat) (u : UInt8) (h : i < s.length) : s.getD i u = s[i] := getD_ltI s i u h
theorem kwT : (KW.map V.str).take 10 = KW.map V.str := rfl
theorem kwL : KW.length = 10 := rfl
theorem kwO : (KW.map V.str).all V.one = true := rfl
attribute [go_sem] kwT kwL kwO u8_45 u8_48 u8_35 u8_10 u8_43 u8_eq getDu
end Go.Duo

namespace Go.Duo
open Go
end Go.Duo
