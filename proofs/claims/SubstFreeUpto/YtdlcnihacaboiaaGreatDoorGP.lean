/-
  A part of the proof.
-/
import Derived.Test.YtdlcnihacaboiaaGreatDoorGM
import Derived.Test.YtdlcnihacaboiaaGreatDoorGL
import Derived.Lib.ParseIntBCases
import Derived.Lib.Join
import Derived.Lib.ItoaMem
import Derived.Lib.ItoaLen
import Derived.Test.YtdlcnihacaboiaaGreatDoorGK
import Derived.Test.YtdlcnihacaboiaaGreatDoorGJ
set_option linter.all false
namespace Go.Duo
open Go
def outA (l : List Vl) : List Str := (l.filter fun x => decide (x.kind = 1)).map Vl.name
def freeB (b : List Str) (l : List Str) : List Str := l.filter fun s => decide (s ∉ b)
theorem outA_yes {l : List Vl} {i : Nat} (h : i < l.length) (hk : l[i].kind = 1) : outA (l.take (i + 1)) = outA (l.take i) ++ [l[i].name] := by
  unfold outA; rw [take_at h, List.filter_append, List.map_append]; simp [hk]
theorem outA_no {l : List Vl} {i : Nat} (h : i < l.length) (hk : ¬ l[i].kind = 1) : outA (l.take (i + 1)) = outA (l.take i) := by
  unfold outA; rw [take_at h, List.filter_append, List.map_append]; simp [hk]
theorem freeB_yes {b l : List Str} {i : Nat} (h : i < l.length) (hk : l[i] ∉ b) : freeB b (l.take (i + 1)) = freeB b (l.take i) ++ [l[i]] := by
  unfold freeB; rw [take_at h, List.filter_append]; simp [hk]
theorem freeB_no {b l : List Str} {i : Nat} (h : i < l.length) (hk : l[i] ∈ b) : freeB b (l.take (i + 1)) = freeB b (l.take i) := by
  unfold freeB; rw [take_at h, List.filter_append]; simp [hk]
theorem outA_len (l : List Vl) : (outA l).length ≤ l.length := by
  unfold outA; rw [List.length_map]; exact List.length_filter_le _ _
theorem freeB_len (b l : List Str) : (freeB b l).length ≤ l.length := List.length_filter_le _ _
def outP (p : Pr) : List Str := (if preK p.kind = true then [p.chan] else []) ++ outA p.args
def bndP (p : Pr) (b : List Str) : List Str := b ++ (if p.kind = 3 then [p.var] else if p.kind = 6 then [p.chan, p.var] else [])
theorem usesP_eq (p : Pr) (b : List Str) : usesP p b = freeB b (outP p) ++ usesPs p.kids (bndP p b) := by
  cases p; rw [usesP]; rfl
theorem outP_len (p : Pr) : (outP p).length ≤ p.args.length + 1 := by
  unfold outP; rw [List.length_append]
  have := outA_len p.args
  split <;> simp <;> omega
theorem usesPs_take {ks : List Pr} {b : List Str} {i : Nat} (h : i < ks.length) : usesPs (ks.take (i + 1)) b = usesPs (ks.take i) b ++ usesP ks[i] b := by
  have key : ∀ (l l2 : List Pr), usesPs (l ++ l2) b = usesPs l b ++ usesPs l2 b := fun l l2 => by
    induction l with
    | nil => rfl
    | cons q l ih => rw [List.cons_append, usesPs, usesPs, ih, List.append_assoc]
  rw [take_at h, key]; simp [usesPs]
theorem uses_len (p : Pr) : ∀ b, smA p → (usesP p b).length ≤ p.sz * 2000001 := by
  induction p using Pr.ind with
  | _ k c v l a ty ks ih =>
    intro b h
    obtain ⟨h1, h2, h3, h4⟩ := (smA_iff _).1 h
    rw [usesP_eq, List.length_append, Pr.sz_eq]
    have e1 := freeB_len b (outP (.mk k c v l a ty ks))
    have e2 := outP_len (.mk k c v l a ty ks)
    have e3 : ∀ (b : List Str) (l : List Pr), (∀ q ∈ l, q ∈ ks) → (usesPs l b).length ≤ Pr.szs l * 2000001 := fun b l => by
      induction l with
      | nil => intro _; simp [usesPs]
      | cons q l ih2 =>
        intro hl
        rw [usesPs, List.length_append, Pr.szs]
        have := ih q (hl q (by simp)) b (h4 q (hl q (by simp)))
        have := ih2 fun x hx => hl x (List.mem_cons_of_mem _ hx)
        omega
    have := e3 (bndP (.mk k c v l a ty ks) b) ks fun _ h => h
    simp only [Pr.args, Pr.kids] at e2 h2 this ⊢
    omega
theorem usesPs_len {ks : List Pr} {b : List Str} (h : ∀ q ∈ ks, smA q) : (usesPs ks b).length ≤ Pr.szs ks * 2000001 := by
  induction ks with
  | nil => simp [usesPs]
  | cons q l ih2 =>
    rw [usesPs, List.length_append, Pr.szs]
    have := uses_len q b (h q (by simp))
    have := ih2 fun x hx => h x (List.mem_cons_of_mem _ hx)
    omega
end Go.Duo

namespace Go.Duo
open Go
def Pr.zero : Pr := .mk 0 [] [] [] [] Ty.zero []
end Go.Duo

namespace Go.Duo
open Go
def addS (out : List Str) (s : Str) : List Str := if s ∈ out then out else out ++ [s]
def dedS (l : List Str) : List Str := l.foldl addS []
def freeS (p : Pr) : List Str := dedS (usesP p [])
theorem dedS_take {l : List Str} {i : Nat} (h : i < l.length) : dedS (l.take (i + 1)) = addS (dedS (l.take i)) l[i] := by
  unfold dedS; rw [take_at h, List.foldl_append]; rfl
theorem dedS_yes {l : List Str} {i : Nat} (h : i < l.length) (hk : l[i] ∈ dedS (l.take i)) : dedS (l.take (i + 1)) = dedS (l.take i) := by
  rw [dedS_take h, addS, if_pos hk]
theorem dedS_no {l : List Str} {i : Nat} (h : i < l.length) (hk : l[i] ∉ dedS (l.take i)) : dedS (l.take (i + 1)) = dedS (l.take i) ++ [l[i]] := by
  rw [dedS_take h, addS, if_neg hk]
theorem addS_len (l : List Str) : ∀ out : List Str, (l.foldl addS out).length ≤ out.length + l.length := by
  induction l with
  | nil => intro out; simp
  | cons s l ih =>
    intro out
    have h := ih (addS out s)
    have : (addS out s).length ≤ out.length + 1 := by unfold addS; split <;> simp
    simp only [List.foldl_cons, List.length_cons]; omega
theorem dedS_len (l : List Str) : (dedS l).length ≤ l.length := by have := addS_len l []; simpa [dedS] using this
theorem addS_mem {s : Str} (l : List Str) : ∀ out : List Str, s ∈ l.foldl addS out ↔ s ∈ out ∨ s ∈ l := by
  induction l with
  | nil => intro out; simp
  | cons x l ih =>
    intro out
    rw [List.foldl_cons, ih (addS out x)]
    have : s ∈ addS out x ↔ s ∈ out ∨ s = x := by
      unfold addS; split
      · rename_i hx
        exact ⟨.inl, fun h => h.elim id fun h => h ▸ hx⟩
      · simp
    rw [this, List.mem_cons, or_assoc]
theorem dedS_mem {s : Str} {l : List Str} : s ∈ dedS l ↔ s ∈ l := by rw [dedS, addS_mem]; simp
theorem addS_nodup (l : List Str) : ∀ out : List Str, out.Nodup → (l.foldl addS out).Nodup := by
  induction l with
  | nil => intro out h; exact h
  | cons x l ih =>
    intro out h
    refine ih _ ?_
    unfold addS; split
    · exact h
    · rename_i hx
      rw [List.nodup_append]
      exact ⟨h, by simp, fun a ha b hb => by simp at hb; subst hb; rintro rfl; exact hx ha⟩
theorem dedS_nodup (l : List Str) : (dedS l).Nodup := addS_nodup l [] (by simp)
theorem sameTs_rfl {l : List Ty} (h : ∀ t ∈ l, sameT t t = true) : sameTs l l = true := by
  induction l with
  | nil => rfl
  | cons t l ih => rw [sameTs, h t (by simp), ih fun x hx => h x (List.mem_cons_of_mem _ hx)]; rfl
theorem sameT_rfl (t : Ty) : sameT t t = true := by
  induction t using Ty.ind with
  | _ k p n s l ks ih => rw [sameT, sameTs_rfl ih]; simp
theorem samePs_rfl {l : List Pr} (h : ∀ t ∈ l, sameP t t = true) : samePs l l = true := by
  induction l with
  | nil => rfl
  | cons t l ih => rw [samePs, h t (by simp), ih fun x hx => h x (List.mem_cons_of_mem _ hx)]; rfl
theorem sameP_rfl (p : Pr) : sameP p p = true := by
  induction p using Pr.ind with
  | _ k c v l a ty ks ih => rw [sameP, samePs_rfl ih, sameT_rfl]; simp
theorem nameB_dol {s d : Str} (h : nameB s = true) : s ≠ 36 :: d := by
  rintro rfl
  have : isWord (36 :: d) = false := by rw [isWord_at (by simp)]; simp [letB]
  simp [nameB, this] at h
theorem nil_dol {d : Str} : ([] : Str) ≠ 36 :: d := by simp
theorem value_okN {x : Vl} (h : valueB x = true) (hk : x.kind = 1) : nameB x.name = true ∧ x.n = 0 := by
  unfold valueB at h
  rw [hk] at h
  simpa using h
theorem node_of {p : Pr} (h : nodeB p = true) : (∀ x ∈ p.args, valueB x = true) ∧ (p.chan = [] ∨ nameB p.chan = true) ∧ (p.var = [] ∨ nameB p.var = true) ∧ (p.kind = 6 → p.chan ≠ p.var) ∧ (preK p.kind = true → nameB p.chan = true) := by
  unfold nodeB at h
  rw [Bool.and_eq_true, List.all_eq_true] at h
  refine ⟨h.1, ?_⟩
  have h2 := h.2
  clear h
  by_cases h1 : p.kind = 1
  · rw [if_pos h1] at h2; simp only [Bool.and_eq_true, decide_eq_true_eq] at h2; refine ⟨.inl h2.1, .inl h2.2.1, by omega, fun h => ?_⟩; simp [preK] at h; omega
  rw [if_neg h1] at h2
  by_cases h1 : p.kind = 2
  · rw [if_pos h1] at h2; simp only [Bool.and_eq_true, decide_eq_true_eq] at h2; exact ⟨.inr h2.1, .inl h2.2.1, by omega, fun _ => h2.1⟩
  rw [if_neg h1] at h2
  by_cases h1 : p.kind = 3
  · rw [if_pos h1] at h2; simp only [Bool.and_eq_true, decide_eq_true_eq] at h2; exact ⟨.inr h2.1, .inr h2.2.1, by omega, fun _ => h2.1⟩
  rw [if_neg h1] at h2
  by_cases h1 : p.kind = 4
  · rw [if_pos h1] at h2; simp only [Bool.and_eq_true, decide_eq_true_eq] at h2; exact ⟨.inr h2.1, .inl h2.2.1, by omega, fun _ => h2.1⟩
  rw [if_neg h1] at h2
  by_cases h1 : p.kind = 5
  · rw [if_pos h1] at h2; simp only [Bool.and_eq_true, decide_eq_true_eq] at h2; exact ⟨.inr h2.1, .inl h2.2.1, by omega, fun _ => h2.1⟩
  rw [if_neg h1] at h2
  by_cases h1 : p.kind = 6
  · rw [if_pos h1] at h2; simp only [Bool.and_eq_true, decide_eq_true_eq] at h2; refine ⟨.inr h2.1, .inr h2.2.1, fun _ => h2.2.2.1, fun h => ?_⟩; simp [preK] at h; omega
  rw [if_neg h1] at h2
  by_cases h1 : p.kind = 7
  · rw [if_pos h1] at h2; simp only [Bool.and_eq_true, decide_eq_true_eq] at h2; refine ⟨.inl h2.2.1, .inl h2.2.2.1, by omega, fun h => ?_⟩; simp [preK] at h; omega
  rw [if_neg h1] at h2
  by_cases h1 : p.kind = 8
  · rw [if_pos h1] at h2; simp only [Bool.and_eq_true, decide_eq_true_eq] at h2; refine ⟨.inr h2.1, .inl h2.2.1, by omega, fun h => ?_⟩; simp [preK] at h; omega
  rw [if_neg h1] at h2; cases h2
theorem nodes_kid {p : Pr} (h : nodesB p = true) : nodeB p = true ∧ ∀ q ∈ p.kids, nodesB q = true := by
  rw [nodesB_eq, Bool.and_eq_true, nodesBs_eq, List.all_eq_true] at h; exact h
theorem right_nodes {p : Pr} (h : rightP p = 0) : nodesB p = true := by
  unfold rightP at h
  split at h
  · omega
  · split at h
    · assumption
    · omega
theorem few_of {p : Pr} (h : fewPr p 300 = true) : p.sz ≤ 300 ∧ p.dp ≤ 150 ∧ tyS p := by
  unfold fewPr at h
  simp only [Bool.and_eq_true, decide_eq_true_eq] at h
  have := fewPr_sz (t := p) (m := 300) (by omega) h.1
  exact ⟨by omega, h.2, leftPr_tyS p 300 (by omega) h.1⟩
theorem tget_mem {t : Tb} {s : Str} {v : Vl} (h : tget t s = some v) : (s, v) ∈ t := by
  induction t with
  | nil => cases h
  | cons p t ih =>
    obtain ⟨k, x⟩ := p
    simp only [tget] at h
    split at h
    · rename_i hk; cases h; rw [hk]; exact List.mem_cons_self ..
    · exact List.mem_cons_of_mem _ (ih h)
theorem tdel_sub {t : Tb} {s : Str} {q : Str × Vl} (h : q ∈ tdel t s) : q ∈ t := by
  induction t with
  | nil => exact h
  | cons p t ih =>
    obtain ⟨k, x⟩ := p
    simp only [tdel] at h
    split at h
    · exact List.mem_cons_of_mem _ h
    · rcases List.mem_cons.1 h with h | h
      · rw [h]; exact List.mem_cons_self ..
      · exact List.mem_cons_of_mem _ (ih h)
theorem innerS_sub {t : Tb} {k : Int} {c v : Str} {q : Str × Vl} (h : q ∈ innerS t k c v) : q ∈ t := by
  unfold innerS at h
  split at h
  · split at h
    · exact tdel_sub h
    · exact h
  · split at h
    · exact tdel_sub (tdel_sub h)
    · exact h
/-- Every value is a name. -/
def nmTb (t : Tb) : Prop := ∀ q ∈ t, q.2.kind = 1 ∧ inS q.2.name ∧ q.2.n = 0
theorem nmTb.ok {t : Tb} (h : nmTb t) : okTb t := fun q hq => by
  obtain ⟨h1, h2, h3⟩ := h q hq
  exact ⟨by rw [h1]; unfold inI; omega, h2, by rw [h3]; unfold inI; omega⟩
theorem nmTb.one {o n : Str} (h : inS n) : nmTb [(o, ⟨1, n, 0⟩)] := fun q hq => by
  rw [List.mem_singleton] at hq; subst hq; exact ⟨rfl, h, rfl⟩
theorem valueS_n {x : Vl} (h : x.kind = 1) : valueS x = x.name := by
  unfold valueS; rw [if_neg (by omega), if_neg (by omega), if_neg (by omega)]
theorem sub_okP (p : Pr) : ∀ t : Tb, nmTb t → okP p → okP (subP t p) := by
  induction p using Pr.ind with
  | _ k c v l a ty ks ih =>
    intro t ht h
    obtain ⟨h1, h2, h3, h4, h5, h6, h7, h8⟩ := (okP_iff _).1 h
    rw [subP, subPs_eq, okP_iff]
    simp only [Pr.kind, Pr.chan, Pr.var, Pr.labels, Pr.args, Pr.typ, Pr.kids] at *
    refine ⟨h1, ?_, h3, h4, ⟨?_, fun x hx => ?_⟩, h6, ?_, fun u hu => ?_⟩
    · split
      · unfold chanS
        split
        · rename_i w hw
          have := ht _ (tget_mem hw)
          rw [valueS_n this.1]; exact this.2.1
        · exact h2
      · exact h2
    · have := h5.1; unfold inL at this ⊢; rw [List.length_map]; exact this
    · obtain ⟨y, hy, rfl⟩ := List.mem_map.1 hx
      unfold valS
      split
      · rename_i w hw
        split
        · exact ht.ok _ (tget_mem hw)
        · exact h5.2 y hy
      · exact h5.2 y hy
    · unfold inL at h7 ⊢; rw [List.length_map]; exact h7
    · obtain ⟨q, hq, rfl⟩ := List.mem_map.1 hu
      exact ih q hq _ (fun z hz => ht z (innerS_sub hz)) (h8 q hq)
theorem sub_dp (p : Pr) : ∀ t : Tb, (subP t p).dp = p.dp := by
  induction p using Pr.ind with
  | _ k c v l a ty ks ih =>
    intro t
    rw [Pr.dp_eq, Pr.dp_eq (.mk k c v l a ty ks), subP, subPs_eq]
    congr 1
    simp only [Pr.kids]
    generalize innerS t k c v = t2
    induction ks with
    | nil => rfl
    | cons q ks ih2 =>
      simp only [List.map_cons, Pr.dps]
      rw [ih q (by simp), ih2 (fun q hq => ih q (List.mem_cons_of_mem _ hq))]
end Go.Duo

namespace Go.Duo
open Go
def LETS : Str := [65, 66, 67, 68, 69, 70, 71, 72, 73, 74, 75, 76, 77, 78, 79, 80, 81, 82, 83, 84, 85, 86, 87, 88, 89, 90, 97, 98, 99, 100, 101, 102, 103, 104, 105, 106, 107, 108, 109, 110, 111, 112, 113, 114, 115, 116, 117, 118, 119, 120, 121, 122, 95]
def DIGS : Str := [48, 49, 50, 51, 52, 53, 54, 55, 56, 57]
theorem let_in (c : UInt8) : decide (c ∈ LETS) = letB c := by
  have := u8_all (fun c => decide (c ∈ LETS) == letB c) (by decide +kernel) c
  simpa using this
theorem dig_in (c : UInt8) : decide (c ∈ DIGS) = dig c := by
  have := u8_all (fun c => decide (c ∈ DIGS) == dig c) (by decide +kernel) c
  simpa using this
section
variable {s : Str} {a i : Nat}
theorem word_cons (h : 0 < s.length) (hl : letB s[0] = true) : isWord s = (s.drop 1).all wordB := by
  cases s with
  | nil => simp at h
  | cons c r => simp only [List.getElem_cons_zero] at hl; simp [isWord, hl]
theorem word_no (h : 0 < s.length) (hl : letB s[0] = false) : isWord s = false := by
  cases s with
  | nil => simp at h
  | cons c r => simp only [List.getElem_cons_zero] at hl; simp [isWord, hl]
theorem all_at {p : UInt8 → Bool} (h : i < s.length) : (s.drop i).all p = (p s[i] && (s.drop (i + 1)).all p) := by rw [drop_at h, List.all_cons]
theorem all_yes {p : UInt8 → Bool} {b : Bool} (hb : b = (s.drop i).all p) (h : i < s.length) (hp : p s[i] = true) : b = (s.drop (i + 1)).all p := by rw [hb, all_at h, hp, Bool.true_and]
theorem all_no {p : UInt8 → Bool} {b : Bool} (hb : b = (s.drop i).all p) (h : i < s.length) (hp : p s[i] = false) : b = false := by rw [hb, all_at h, hp, Bool.false_and]
theorem all_end' {p : UInt8 → Bool} {b : Bool} (hb : b = (s.drop i).all p) (h : s.length ≤ i) : b = true := by rw [hb, List.drop_eq_nil_of_le h]; rfl
theorem num_zero (h : s = [48]) : isNum s = true := by subst h; decide
theorem num_minus (h : 0 < s.length) (hm : s[0] = 45) (h1 : s.length ≤ 1) : isNum s = false := by
  cases s with
  | nil => simp at h
  | cons c r =>
    simp only [List.getElem_cons_zero] at hm; subst hm
    cases r with
    | nil => rfl
    | cons d r => simp at h1
theorem num_minus0 (h : 1 < s.length) (hm : s[0] = 45) (h1 : s[1] = 48) : isNum s = false := by
  cases s with
  | nil => simp at h
  | cons c r =>
    simp only [List.getElem_cons_zero] at hm; subst hm
    cases r with
    | nil => simp at h
    | cons d r => simp only [List.getElem_cons_succ, List.getElem_cons_zero] at h1; subst h1; rw [isNum_minus]; simp
theorem num_minus1 (h : 1 < s.length) (hm : s[0] = 45) (h1 : ¬ s[1] = 48) : isNum s = (s.drop 1).all dig := by
  cases s with
  | nil => simp at h
  | cons c r =>
    simp only [List.getElem_cons_zero] at hm; subst hm
    cases r with
    | nil => simp at h
    | cons d r => simp only [List.getElem_cons_succ, List.getElem_cons_zero] at h1; rw [isNum_minus]; simp [h1]
theorem num_nil (h : s.length = 0) : isNum s = false := by
  obtain rfl := List.eq_nil_of_length_eq_zero h; rfl
theorem num_0 (h : 0 < s.length) (h0 : s[0] = 48) (hs : ¬ s = [48]) : isNum s = false := by
  cases s with
  | nil => simp at h
  | cons c r =>
    simp only [List.getElem_cons_zero] at h0; subst h0
    rw [isNum_zero]; cases r with
    | nil => exact absurd rfl hs
    | cons d r => simp
theorem num_plain (h : 0 < s.length) (hm : ¬ s[0] = 45) (h0 : ¬ s[0] = 48) : isNum s = s.all dig := by
  cases s with
  | nil => simp at h
  | cons c r =>
    simp only [List.getElem_cons_zero] at hm h0
    by_cases hd : dig c = true
    · rw [isNum_dig hd h0, List.all_cons, hd, Bool.true_and]
    · have hd : dig c = false := by simpa using hd
      rw [isNum_other hd hm, List.all_cons, hd, Bool.false_and]
end
def valL (s : Str) : Option Int := match Lib.parseIntB 64 s with | .ok n => some n | _ => none
def fd (s : Str) (a i : Nat) : Nat := foldD 0 ((s.take i).drop a)
theorem foldD_app (n : Nat) (l m : Str) : foldD n (l ++ m) = foldD (foldD n l) m := by unfold foldD; rw [List.foldl_append]
section
variable {s : Str} {a i : Nat}
theorem fd_self (s : Str) (a : Nat) : fd s a a = 0 := by unfold fd; rw [List.drop_eq_nil_of_le (by rw [List.length_take]; omega)]; rfl
theorem fd_step (ha : a ≤ i) (h : i < s.length) : fd s a (i + 1) = 10 * fd s a i + (s[i].toNat - 48) := by
  unfold fd
  rw [take_at h, List.drop_append_of_le_length (by rw [List.length_take]; omega), foldD_app, foldD_cons]; rfl
theorem fd_end (h : s.length ≤ i) : fd s a i = foldD 0 (s.drop a) := by unfold fd; rw [List.take_of_length_le h]
theorem fd_le (ha : a ≤ i) : fd s a i ≤ foldD 0 (s.drop a) := by
  unfold fd
  by_cases h : i ≤ s.length
  · have e : s.drop a = (s.take i).drop a ++ s.drop i := by
      conv => lhs; rw [← List.take_append_drop i s]
      rw [List.drop_append_of_le_length (by rw [List.length_take]; omega)]
    rw [e, foldD_app]; exact foldD_ge _ _
  · rw [List.take_of_length_le (by omega)]; exact Nat.le_refl _
end
theorem parseM_dig (l : Str) : ∀ (acc : Nat), (∀ c ∈ l, dig c = true) → acc ≤ 18446744073709551615 → Lib.parseUintM 18446744073709551615 acc l = if foldD acc l ≤ 18446744073709551615 then .ok (foldD acc l) else .range := by
  induction l with
  | nil => intro acc _ h; rw [show foldD acc [] = acc from rfl, if_pos h]; rfl
  | cons c l ih =>
    intro acc hd h
    have hc := hd c (List.mem_cons_self ..)
    simp only [dig, Bool.and_eq_true, decide_eq_true_eq] at hc
    have h1 := foldD_ge l (10 * acc + (c.toNat - 48))
    rw [foldD_cons]
    by_cases h2 : 1844674407370955162 ≤ acc
    · rw [if_neg (by omega)]
      simp [Lib.parseUintM, hc, h2]
    · by_cases h3 : 18446744073709551615 < acc * 10 + (c.toNat - 48)
      · rw [if_neg (by omega)]
        simp [Lib.parseUintM, hc, h2, h3]
      · rw [parseUintM_step hc h2 h3, Nat.mul_comm acc 10]
        exact ih _ (fun c hc => hd c (List.mem_cons_of_mem _ hc)) (by omega)
theorem parseB_dig (l : Str) (hl : ¬ l = []) (hd : l.all dig = true) : Lib.parseUintB 64 l = if foldD 0 l ≤ 18446744073709551615 then .ok (foldD 0 l) else .range := by
  unfold Lib.parseUintB
  rw [if_neg hl]
  exact parseM_dig l 0 (by simpa using hd) (by omega)
theorem val_neg {s : Str} (hn : isNum s = true) (h : 0 < s.length) (hm : s[0] = 45) : valL s = if foldD 0 (s.drop 1) ≤ 9223372036854775808 then some (-((foldD 0 (s.drop 1) : Nat) : Int)) else none := by
  cases s with
  | nil => simp at h
  | cons c r =>
    simp only [List.getElem_cons_zero] at hm; subst hm
    rw [isNum_minus] at hn
    cases r with
    | nil => cases hn
    | cons d r =>
      simp only [Bool.and_eq_true] at hn
      unfold valL
      rw [Lib.parseIntB_minus, parseB_dig _ (by simp) (by rw [List.all_cons]; simpa using hn.2)]
      rw [List.drop_succ_cons, List.drop_zero]
      by_cases h1 : foldD 0 (d :: r) ≤ 18446744073709551615
      · rw [if_pos h1]
        by_cases h2 : foldD 0 (d :: r) ≤ 9223372036854775808
        · rw [if_pos h2]; simp only [Lib.signedC]; rw [if_neg (by simp; omega)]
        · rw [if_neg h2]; simp only [Lib.signedC]; rw [if_pos (by simp; omega)]
      · rw [if_neg h1, if_neg (by omega)]; rfl
theorem val_pos {s : Str} (hn : isNum s = true) (h : 0 < s.length) (hm : ¬ s[0] = 45) : valL s = if foldD 0 s ≤ 9223372036854775807 then some ((foldD 0 s : Nat) : Int) else none := by
  have hd : s.all dig = true := by
    by_cases h0 : s[0] = 48
    · by_cases hs : s = [48]
      · subst hs; decide
      · rw [num_0 h h0 hs] at hn; cases hn
    · rw [num_plain h hm h0] at hn; exact hn
  cases s with
  | nil => simp at h
  | cons c r =>
    simp only [List.getElem_cons_zero] at hm
    have hc : dig c = true := by rw [List.all_cons] at hd; simp only [Bool.and_eq_true] at hd; exact hd.1
    simp only [dig, Bool.and_eq_true, decide_eq_true_eq] at hc
    unfold valL
    rw [Lib.parseIntB_plain 64 c r (by omega) (by omega), parseB_dig _ (by simp) hd]
    by_cases h1 : foldD 0 (c :: r) ≤ 18446744073709551615
    · rw [if_pos h1]
      by_cases h2 : foldD 0 (c :: r) ≤ 9223372036854775807
      · rw [if_pos h2]; simp only [Lib.signlessC]; rw [if_neg (by simp; omega)]
      · rw [if_neg h2]; simp only [Lib.signlessC]; rw [if_pos (by simp; omega)]
    · rw [if_neg h1, if_neg (by omega)]; rfl
theorem num_dig {s : Str} {i : Nat} (hn : isNum s = true) (hi : i < s.length) (h : 1 ≤ i ∨ ¬ s[0]'(by omega) = 45) : 48 ≤ s[i].toNat ∧ s[i].toNat ≤ 57 := by
  have hd : dig s[i] = true := by
    by_cases hm : s[0]'(by omega) = 45
    · have hi1 : 1 ≤ i := by rcases h with h | h; exact h; exact absurd hm h
      by_cases h1 : s[1]'(by omega) = 48
      · rw [num_minus0 (by omega) hm h1] at hn; cases hn
      · rw [num_minus1 (by omega) hm h1] at hn
        refine List.all_eq_true.1 hn _ ?_
        rw [List.mem_iff_getElem]
        exact ⟨i - 1, by rw [List.length_drop]; omega, by rw [List.getElem_drop]; congr 1; omega⟩
    · by_cases h0 : s[0]'(by omega) = 48
      · by_cases hs : s = [48]
        · subst hs; simp at hi; subst hi; rfl
        · rw [num_0 (by omega) h0 hs] at hn; cases hn
      · rw [num_plain (by omega) hm h0] at hn
        exact List.all_eq_true.1 hn _ (List.getElem_mem _)
  simpa only [dig, Bool.and_eq_true, decide_eq_true_eq] using hd
theorem tdiv_m10 {x : Int} (h : x ≤ 0) : Int.tdiv x 10 = -((-x) / 10) := by
  obtain ⟨y, rfl⟩ : ∃ y : Int, x = -y := ⟨-x, by omega⟩
  rw [Int.neg_tdiv, Int.tdiv_eq_ediv_of_nonneg (by omega), Int.neg_neg]
theorem tok_minus {t : Str} (h : t.head? = some 45) : tokN t ≠ 1 := by
  cases t with
  | nil => cases h
  | cons c r =>
    simp only [List.head?_cons, Option.some.injEq] at h; subst h
    cases r with
    | nil => decide
    | cons d r =>
      simp only [tokN, show letB 45 = false from by decide, Bool.false_eq_true, if_false, numN, if_true, show signB 45 = false from by decide]
      split
      · split <;> omega
      · split <;> omega
/-- Where the longest token ends that is known so far. -/
def endL (t : Str) (k : Nat) : Nat := if preOK t k = true then k else 0
theorem pre_iff {t : Str} {k : Nat} : preOK t k = true ↔ 1 ≤ k ∧ k ≤ tokN t ∧ ¬ (k = 1 ∧ t.head? = some 45) := by
  unfold preOK
  simp only [Bool.and_eq_true, decide_eq_true_eq, Bool.not_eq_true', Bool.and_eq_false_imp, decide_eq_false_iff_not]
  constructor
  · rintro ⟨⟨h1, h2⟩, h3⟩; exact ⟨h1, h2, fun h => h3 h.1 h.2⟩
  · rintro ⟨h1, h2, h3⟩; exact ⟨⟨h1, h2⟩, fun h h' => h3 ⟨h, h'⟩⟩
theorem endL_yes {t : Str} {k : Nat} (h : preOK t k = true) : endL t k = k := if_pos h
theorem endL_0 (t : Str) : endL t 0 = 0 := by unfold endL; split <;> rfl
theorem endL_1 {t : Str} (h : preOK t 1 = false) : endL t 1 = 0 := by unfold endL; rw [h]; rfl
theorem endL_out {t : Str} {k : Nat} (hk : 1 ≤ k) (h : k ≤ 1 ∨ preOK t k = true) (hn : preOK t (k + 1) = false) : endL t k = tokN t := by
  have hn' : ¬ preOK t (k + 1) = true := by rw [hn]; simp
  rw [pre_iff] at hn'
  have h2 : tokN t ≤ k := by
    rcases Nat.lt_or_ge k (tokN t) with h | h
    · exact absurd ⟨by omega, by omega, fun h => by omega⟩ hn'
    · exact h
  unfold endL
  by_cases hp : preOK t k = true
  · rw [if_pos hp]; have := (pre_iff.1 hp).2.1; omega
  · rw [if_neg hp]
    have hk1 : k = 1 := by rcases h with h | h; omega; exact absurd h hp
    subst hk1
    rcases Nat.lt_or_ge (tokN t) 1 with h3 | h3
    · omega
    · have h4 : tokN t = 1 := by omega
      exact absurd (pre_iff.2 ⟨by omega, by omega, fun h => tok_minus h.2 h4⟩) hp
theorem endL_end {t : Str} (hk : 1 ≤ t.length) (h : t.length ≤ 1 ∨ preOK t t.length = true) : endL t t.length = tokN t := by
  refine endL_out hk h ?_
  have := tokN_le t
  cases hp : preOK t (t.length + 1) with
  | false => rfl
  | true => have := (pre_iff.1 hp).2.1; omega
def inB (c : UInt8) (s : Str) : Bool := decide (c ∈ s)
theorem inB_let (c : UInt8) : inB c LETS = letB c := let_in c
theorem inB_dig (c : UInt8) : inB c DIGS = dig c := dig_in c
theorem inB_sign (c : UInt8) : inB c [33, 63, 46, 40, 41, 123, 125, 60, 62, 44, 58, 59, 124, 38, 43, 61] = signB c := rfl
theorem inB_blank (c : UInt8) : inB c [32, 9, 10, 13] = blankB c := blank_in c
theorem inB_yes {c : UInt8} {s : Str} {i : Nat} (h : i < s.length) (hc : s[i] = c) : inB c s = true := by
  subst hc; unfold inB; rw [decide_eq_true_eq]; exact List.getElem_mem _
theorem inB_no {c : UInt8} {s : Str} (h : c ∉ s) : inB c s = false := by unfold inB; rw [decide_eq_false_iff_not]; exact h
theorem notin_at {α : Type} {l : List α} {c : α} {i : Nat} (h : c ∉ l.take i) (hlt : i < l.length) (hq : ¬ l[i] = c) : c ∉ l.take (i + 1) := by
  rw [take_at hlt, List.mem_append, List.mem_singleton]
  rintro (h' | h')
  · exact h h'
  · exact hq h'.symm
theorem word_nil {s : Str} (h : s.length = 0) : isWord s = false := by
  obtain rfl := List.eq_nil_of_length_eq_zero h; rfl
theorem len_drop1 (s : Str) : (s.drop 1).length = s.length - 1 := List.length_drop
theorem kindL_word {s : Str} (h : isWord s = true) : kindL s = 1 := by unfold kindL; rw [if_pos h]
theorem kindL_num {s : Str} (h : isWord s = false) (h2 : isNum s = true) : kindL s = 2 := by unfold kindL; rw [if_neg (by rw [h]; simp), if_pos h2]
theorem kindL_one {s : Str} (h : isWord s = false) (h2 : isNum s = false) (h3 : s.length = 1) : kindL s = if signB (s[0]'(by omega)) = true then 3 else 0 := by
  unfold kindL; rw [if_neg (by rw [h]; simp), if_neg (by rw [h2]; simp)]
  match s, h3 with
  | [c], _ => rfl
theorem kindL_none {s : Str} (h : isWord s = false) (h2 : isNum s = false) (h3 : ¬ s.length = 1) : kindL s = 0 := by
  unfold kindL; rw [if_neg (by rw [h]; simp), if_neg (by rw [h2]; simp)]
  match s, h3 with
  | [], _ => rfl
  | [c], h => simp at h
  | c :: d :: r, _ => rfl
/-- What is taken of a text from a place on. -/
theorem slice_take {s : Str} {a e : Nat} (h : a ≤ e) : (s.take e).drop a = (s.drop a).take (e - a) := by rw [List.drop_take]
theorem kind_at {s : Str} {a i : Nat} (h : a < i) (hi : i ≤ s.length) : (0 < kindL ((s.take i).drop a)) = (preOK (s.drop a) (i - a) = true) := by
  rw [slice_take (by omega), kind_take (by omega) (by rw [List.length_drop]; omega)]
section
variable {s : Str} {a k : Nat}
theorem endL_kind (h : 0 < kindL ((s.take (a + (k + 1))).drop a)) (hk : a + k < s.length) : preOK (s.drop a) (k + 1) = true := by
  rw [kind_at (by omega) (by omega), show a + (k + 1) - a = k + 1 from by omega] at h; exact h
theorem endL_kno (h : kindL ((s.take (a + (k + 1))).drop a) ≤ 0) (hk : a + k < s.length) : preOK (s.drop a) (k + 1) = false := by
  cases hp : preOK (s.drop a) (k + 1) with
  | false => rfl
  | true =>
    have h2 : 0 < kindL ((s.take (a + (k + 1))).drop a) := by rw [kind_at (by omega) (by omega), show a + (k + 1) - a = k + 1 from by omega]; exact hp
    omega
theorem endL_skip (h : kindL ((s.take (a + (k + 1))).drop a) ≤ 0) (hk : a + k < s.length) (h0 : k = 0) : endL (s.drop a) (k + 1) = endL (s.drop a) k := by
  subst h0
  rw [endL_1 (endL_kno h hk), endL_0]
theorem endL_fin (ha : a < s.length) (hk : a + k ≤ s.length) (h : s.length ≤ a + k) (hp : k ≤ 1 ∨ preOK (s.drop a) k = true) : endL (s.drop a) k = tokN (s.drop a) := by
  have e : k = (s.drop a).length := by rw [List.length_drop]; omega
  subst e
  exact endL_end (by rw [List.length_drop]; omega) hp
end
def valN (s : Str) : Int := (valL s).getD 0
def valB (s : Str) : Bool := (valL s).isSome
def txA (s : Str) (a : Nat) : Str := (s.take (a + tokN (s.drop a))).drop a
def rT (s : Str) (a : Nat) (v : Int) : Tok := ⟨kindL ((s.take (a + tokN (s.drop a))).drop a), (s.take (a + tokN (s.drop a))).drop a, v, a⟩
def encT3 (x : List Tok × Int × Int) : V := .tuple [.sl (x.1.map encK) none, .int .i64 x.2.1, .int .i64 x.2.2]
theorem nil_tupL (st : List O) (l : List V) : V.le st (.tuple (.nil :: l)) (.tuple (.sl [] none :: l)) := by
  refine V.le_tuple rfl fun i c d hc hd => ?_
  cases i with
  | zero => simp at hc hd; subst hc hd; exact V.le_nil _
  | succ i => simp at hc hd; rw [hc] at hd; cases hd; exact V.le_refl _ _
section
variable {s : Str} {a p : Nat}
theorem tokN_at (h : a < s.length) : a + tokN (s.drop a) ≤ s.length := by
  have := tokN_le (s.drop a)
  rw [List.length_drop] at this; omega
theorem txA_eq (s : Str) (a : Nat) : (s.take (a + tokN (s.drop a))).drop a = (s.drop a).take (tokN (s.drop a)) := by
  rw [List.drop_take]; congr 1; omega
theorem note_end1 (hp : lexA s true p = lexA s false a) (h : s.length ≤ p) : lexA s false p = lexA s false a := by rw [← hp, lexA_end h, lexA_end h]
theorem note_end2 {h : p < s.length} (hp : lexA s true p = lexA s false a) (hc : s[p] = 10) : lexA s false p = lexA s false a := by rw [← hp, lexA_line h hc]
theorem kind2_num {u : Str} (h : kindL u = 2) : isNum u = true := by
  unfold kindL at h
  split at h
  · cases h
  · split at h
    · assumption
    · split at h
      · split at h <;> cases h
      · cases h
theorem num_pos {u : Str} (h : isNum u = true) : 0 < u.length := by
  rcases Nat.eq_zero_or_pos u.length with h0 | h0
  · rw [num_nil h0] at h; cases h
  · exact h0
theorem rT_word (h : a < s.length) (hb : blankB s[a] = false) (hh : ¬ s[a] = 35) (h0 : ¬ tokN (s.drop a) = 0) (hk : ¬ kindL ((s.take (a + tokN (s.drop a))).drop a) = 2) : lexA s false a = (lexA s false (a + tokN (s.drop a))).map (rT s a 0 :: ·) := by
  rw [txA_eq, kind_tok h0] at hk
  rw [lexA_tok (v := 0) h hb hh h0 (by unfold tokV; rw [if_neg hk])]
  unfold rT; rw [txA_eq, kind_tok h0]
theorem rT_num (h : a < s.length) (hb : blankB s[a] = false) (hh : ¬ s[a] = 35) (h0 : ¬ tokN (s.drop a) = 0) (hk : kindL ((s.take (a + tokN (s.drop a))).drop a) = 2) (hv : valB ((s.take (a + tokN (s.drop a))).drop a) = true) : lexA s false a = (lexA s false (a + tokN (s.drop a))).map (rT s a (valN ((s.take (a + tokN (s.drop a))).drop a)) :: ·) := by
  rw [txA_eq, kind_tok h0] at hk
  rw [txA_eq] at hv
  rw [lexA_tok (v := valN ((s.drop a).take (tokN (s.drop a)))) h hb hh h0 (by
    unfold tokV valN; rw [if_pos hk]
    unfold valB valL at hv; unfold valL
    cases hh : Lib.parseIntB 64 ((s.drop a).take (tokN (s.drop a))) <;> rw [hh] at hv <;> first | rfl | cases hv)]
  unfold rT; rw [txA_eq, kind_tok h0]
theorem rT_big (h : a < s.length) (hb : blankB s[a] = false) (hh : ¬ s[a] = 35) (h0 : ¬ tokN (s.drop a) = 0) (hk : kindL ((s.take (a + tokN (s.drop a))).drop a) = 2) (hv : valB ((s.take (a + tokN (s.drop a))).drop a) = false) : lexA s false a = .error (2, (a : Int)) := by
  rw [txA_eq, kind_tok h0] at hk
  rw [txA_eq] at hv
  refine lexA_big h hb hh h0 ?_
  unfold tokV; rw [if_pos hk]
  unfold valB valL at hv
  cases hh : Lib.parseIntB 64 ((s.drop a).take (tokN (s.drop a))) <;> rw [hh] at hv <;> first | rfl | cases hv
theorem map_snoc {l : List Tok} {t : Tok} {x y z : LexR} (h : z = x.map (l ++ ·)) (h2 : x = y.map (t :: ·)) : z = y.map ((l ++ [t]) ++ ·) := by
  subst h2; subst h
  cases y <;> simp [Except.map]
theorem map_same {l : List Tok} {x y z : LexR} (h : z = x.map (l ++ ·)) (h2 : y = x) : z = y.map (l ++ ·) := by rw [h2]; exact h
theorem map_nil (x : LexR) : x = x.map (([] : List Tok) ++ ·) := by cases x <;> simp [Except.map]
theorem lexT_err {l : List Tok} {x : LexR} {e q : Int} (h : s.length ≤ 65536) (hp : lexA s false 0 = x.map (l ++ ·)) (hx : x = .error (e, q)) : lexT s = ([], e, q) := by
  unfold lexT; rw [if_neg (by omega), hp, hx]; rfl
theorem lexT_fin {l : List Tok} (h : s.length ≤ 65536) (hp : lexA s false 0 = (lexA s false a).map (l ++ ·)) (ha : s.length ≤ a) : lexT s = (l, 0, 0) := by
  rw [lexA_end ha] at hp
  unfold lexT; rw [if_neg (by omega), hp]; simp [Except.map]
end
end Go.Duo
namespace Go.Duo
open Go
end Go.Duo

namespace Go.Duo
open Go
end Go.Duo

namespace Go.Duo
open Go
theorem dec_step {a : Nat} (h : 9 < a) : Lib.decDigits a = Lib.decDigits (a / 10) ++ [UInt8.ofNat (48 + a % 10)] := by
  conv => lhs; rw [Lib.decDigits]
  rw [dif_neg (by omega)]
theorem dec_last {a : Nat} (h : a ≤ 9) : Lib.decDigits a = [UInt8.ofNat (48 + a)] := by
  rw [Lib.decDigits, dif_pos (by omega)]
theorem dec_head {u : Nat} (h : 1 ≤ u) : ∃ c l, Lib.decDigits u = c :: l ∧ dig c = true ∧ c ≠ 48 := by
  induction u using Nat.strongRecOn with
  | ind u ih =>
    rcases Nat.lt_or_ge 9 u with h9 | h9
    · obtain ⟨c, l, hl, hc, hn⟩ := ih (u / 10) (by omega) (by omega)
      exact ⟨c, l ++ [UInt8.ofNat (48 + u % 10)], by rw [dec_step h9, hl]; rfl, hc, hn⟩
    · refine ⟨_, [], dec_last h9, ?_, ?_⟩
      · simp only [dig, Bool.and_eq_true, decide_eq_true_eq, UInt8.toNat_ofNat']; omega
      · intro he
        have := congrArg UInt8.toNat he
        simp only [UInt8.toNat_ofNat'] at this
        have e48 : (48 : UInt8).toNat = 48 := rfl
        omega
theorem parse_itoa {n : Int} (h1 : -9223372036854775808 ≤ n) (h2 : n ≤ 9223372036854775807) : Lib.parseIntB 64 (Lib.itoa n) = .ok n := by
  rcases Int.lt_or_le n 0 with hn | hn
  · obtain ⟨u, rfl⟩ : ∃ u : Nat, n = -(u : Int) := ⟨n.natAbs, by omega⟩
    have hu : 1 ≤ u := by omega
    rw [Lib.itoa_neg u hu, Lib.parseIntB_minus, parseB_dig _ (by obtain ⟨c, l, hl, _⟩ := dec_head hu; rw [hl]; simp) (List.all_eq_true.2 (decDigits_dig u)), foldD_dec, if_pos (by omega)]
    simp only [Lib.signedC]; rw [if_neg (by simp; omega)]
  · obtain ⟨u, rfl⟩ : ∃ u : Nat, n = (u : Int) := ⟨n.natAbs, by omega⟩
    rw [Lib.itoa_nonneg]
    obtain ⟨c, l, hl, hc⟩ := decDigits_cons u
    have hp := parseB_dig (Lib.decDigits u) (by rw [hl]; simp) (List.all_eq_true.2 (decDigits_dig u))
    rw [foldD_dec, if_pos (by omega)] at hp
    simp only [dig, Bool.and_eq_true, decide_eq_true_eq] at hc
    rw [hl] at hp ⊢
    rw [Lib.parseIntB_plain 64 c l (by omega) (by omega), hp]
    simp only [Lib.signlessC]; rw [if_neg (by simp; omega)]
end Go.Duo

namespace Go.Duo
open Go
def nw (i : Nat) : Str := 36 :: Lib.itoa (i : Int)
theorem nw_inj {i j : Nat} (hi : i ≤ 9223372036854775807) (hj : j ≤ 9223372036854775807) (h : nw i = nw j) : i = j := by
  have h1 := parse_itoa (n := (i : Int)) (by omega) (by omega)
  have h2 := parse_itoa (n := (j : Int)) (by omega) (by omega)
  rw [(List.cons.inj h).2, h2] at h1
  injection h1 with h1
  omega
def news (n : Nat) : List Str := (List.range n).map nw
def nmV (s : Str) : Vl := ⟨1, s, 0⟩
theorem news_len (n : Nat) : (news n).length = n := by simp [news]
theorem news_at {n i : Nat} (h : i < (news n).length) : (news n)[i] = nw i := by simp [news]
theorem news_nodup {n : Nat} (hn : n ≤ 9223372036854775807) : (news n).Nodup := by
  rw [List.nodup_iff_pairwise_ne, List.pairwise_iff_getElem]
  intro i j hi hj hij h
  have e := news_len n
  rw [news_at, news_at] at h
  have := nw_inj (by omega) (by omega) h
  omega
theorem news_take {n : Nat} : news (n + 1) = news n ++ [nw n] := by simp [news, List.range_succ]
theorem news_dol {n : Nat} {s : Str} (h : s ∈ news n) : ∃ d, s = 36 :: d := by
  obtain ⟨i, _, rfl⟩ := List.mem_map.1 h
  exact ⟨_, rfl⟩
theorem tget_zip {ks : List Str} {vs : List Vl} {i : Nat} (hn : ks.Nodup) (h : i < ks.length) (h2 : i < vs.length) : tget (ks.zip vs) ks[i] = some vs[i] := by
  induction ks generalizing vs i with
  | nil => cases h
  | cons k ks ih =>
    cases vs with
    | nil => cases h2
    | cons v vs =>
      rw [List.nodup_cons] at hn
      cases i with
      | zero => simp [tget]
      | succ i =>
        simp only [List.length_cons] at h h2
        have hne : ¬ ks[i] = k := fun e => hn.1 (e ▸ List.getElem_mem _)
        simp only [List.zip_cons_cons, List.getElem_cons_succ, tget, hne, if_false]
        exact ih hn.2 (by omega) (by omega)
theorem tget_none {ks : List Str} {vs : List Vl} {s : Str} (h : s ∉ ks) : tget (ks.zip vs) s = none := by
  induction ks generalizing vs with
  | nil => rfl
  | cons k ks ih =>
    cases vs with
    | nil => rfl
    | cons v vs =>
      simp only [List.mem_cons, not_or] at h
      simp only [List.zip_cons_cons, tget, h.1, if_false]
      exact ih h.2
theorem tdel_none {t : Tb} {s : Str} (h : tget t s = none) : tdel t s = t := by
  induction t with
  | nil => rfl
  | cons p t ih =>
    obtain ⟨k, x⟩ := p
    simp only [tget] at h
    split at h
    · cases h
    · rename_i hk; rw [tdel, if_neg hk, ih h]
theorem tdel_ne {t : Tb} {s d : Str} (h : s ≠ d) : tget (tdel t d) s = tget t s := by
  induction t with
  | nil => rfl
  | cons p t ih =>
    obtain ⟨k, x⟩ := p
    simp only [tdel]
    split
    · rename_i hk; simp only [tget]; rw [if_neg (by rw [← hk]; exact h)]
    · simp only [tget]; rw [ih]
abbrev keysN (t : Tb) : Prop := (t.map Prod.fst).Nodup
theorem tget_key {t : Tb} {s : Str} (h : s ∉ t.map Prod.fst) : tget t s = none := by
  induction t with
  | nil => rfl
  | cons p t ih =>
    obtain ⟨k, x⟩ := p
    simp only [List.map_cons, List.mem_cons, not_or] at h
    rw [tget, if_neg h.1, ih h.2]
theorem tdel_keys {t : Tb} {d : Str} : ((tdel t d).map Prod.fst).Sublist (t.map Prod.fst) := by
  induction t with
  | nil => exact .slnil
  | cons p t ih =>
    obtain ⟨k, x⟩ := p
    simp only [tdel]
    split
    · exact List.sublist_cons_self _ _
    · exact ih.cons_cons _
theorem keysN.del {t : Tb} {d : Str} (h : keysN t) : keysN (tdel t d) := tdel_keys.nodup h
theorem tdel_eq {t : Tb} {s : Str} (h : keysN t) : tget (tdel t s) s = none := by
  induction t with
  | nil => rfl
  | cons p t ih =>
    obtain ⟨k, x⟩ := p
    unfold keysN at h
    rw [List.map_cons, List.nodup_cons] at h
    simp only [tdel]
    split
    · rename_i hk; exact tget_key (by rw [hk]; exact h.1)
    · rename_i hk; rw [tget, if_neg hk]; exact ih h.2
def bnds (k : Int) (c v : Str) : List Str := if k = 3 then [v] else if k = 6 then [c, v] else []
theorem innerS_eq (t : Tb) (k : Int) (c v : Str) : innerS t k c v = if k = 3 then tdel t v else if k = 6 then tdel (tdel t c) v else t := by
  unfold innerS
  by_cases h3 : k = 3
  · subst h3; simp [preK]
  · by_cases h6 : k = 6
    · subst h6; simp [preK]
    · simp [h3, h6]
theorem inner_keys {t : Tb} {k : Int} {c v : Str} (h : keysN t) : keysN (innerS t k c v) := by
  rw [innerS_eq]; split
  · exact h.del
  · split
    · exact h.del.del
    · exact h
theorem inner_get {t : Tb} {k : Int} {c v s : Str} (h : s ∉ bnds k c v) : tget (innerS t k c v) s = tget t s := by
  rw [innerS_eq]; unfold bnds at h; split
  · rw [if_pos (by assumption)] at h; exact tdel_ne (by simpa using h)
  · rw [if_neg (by assumption)] at h
    split
    · rw [if_pos (by assumption)] at h
      simp only [List.mem_cons, List.not_mem_nil, or_false, not_or] at h
      rw [tdel_ne h.2, tdel_ne h.1]
    · rfl
theorem inner_none {t : Tb} {k : Int} {c v s : Str} (hk : keysN t) (h : s ∈ bnds k c v) : tget (innerS t k c v) s = none := by
  rw [innerS_eq]; unfold bnds at h; split
  · rw [if_pos (by assumption)] at h
    simp only [List.mem_cons, List.not_mem_nil, or_false] at h
    subst h; exact tdel_eq hk
  · rw [if_neg (by assumption)] at h
    split
    · rw [if_pos (by assumption)] at h
      simp only [List.mem_cons, List.not_mem_nil, or_false] at h
      by_cases hv : s = v
      · subst hv; exact tdel_eq hk.del
      · rcases h with h | h
        · subst h; rw [tdel_ne hv]; exact tdel_eq hk
        · exact absurd h hv
    · rename_i h3 h6; rw [if_neg h6] at h; cases h
theorem inner_none' {t : Tb} {k : Int} {c v s : Str} (hk : keysN t) (h : tget t s = none) : tget (innerS t k c v) s = none := by
  by_cases hs : s ∈ bnds k c v
  · exact inner_none hk hs
  · rw [inner_get hs, h]
theorem bndP_eq (p : Pr) (b : List Str) : bndP p b = b ++ bnds p.kind p.chan p.var := rfl
abbrev noD (s : Str) : Prop := ∀ d, s ≠ 36 :: d
theorem noD_of {s : Str} (h : s = [] ∨ nameB s = true) : noD s := fun d => by
  rcases h with h | h
  · rw [h]; exact nil_dol
  · exact nameB_dol h
theorem node_noD {p : Pr} (h : nodeB p = true) : noD p.chan ∧ noD p.var ∧ ∀ x ∈ p.args, x.kind = 1 → noD x.name ∧ x.n = 0 := by
  obtain ⟨n1, n2, n3, _⟩ := node_of h
  refine ⟨noD_of n2, noD_of n3, fun x hx hk => ?_⟩
  have := value_okN (n1 x hx) hk
  exact ⟨noD_of (.inr this.1), this.2⟩
/-- A table that says nothing of the tree's names. -/
theorem sub_out {u : Tb} (hu : ∀ s, noD s → tget u s = none) (p : Pr) : nodesB p = true → subP u p = p := by
  induction p using Pr.ind with
  | _ k c v l a ty ks ih =>
    intro h
    obtain ⟨h1, h2⟩ := nodes_kid h
    obtain ⟨n1, n2, n3⟩ := node_noD h1
    simp only [Pr.chan, Pr.var, Pr.args] at n1 n2 n3
    have hin : innerS u k c v = u := by
      rw [innerS_eq, tdel_none (hu c n1), tdel_none (hu v n2)]; simp
    rw [subP, subPs_eq, hin, map_id' fun q hq => ih q hq (h2 q hq), map_id' (f := valS u) (l := a) fun x hx => ?_]
    · congr 1
      split
      · unfold chanS; rw [hu c n1]
      · rfl
    · by_cases hk : x.kind = 1
      · unfold valS; rw [hu _ (n3 x hx hk).1]
      · exact valS_n hk
theorem usesP_not {p : Pr} : ∀ {b : List Str} {s : Str}, s ∈ usesP p b → s ∉ b := by
  induction p using Pr.ind with
  | _ k c v l a ty ks ih =>
    intro b s h
    rw [usesP_eq, List.mem_append] at h
    rcases h with h | h
    · unfold freeB at h; simpa using (List.mem_filter.1 h).2
    · obtain ⟨q, hq, hs⟩ := usesPs_mem.1 h
      have := ih q hq hs
      rw [bndP_eq, List.mem_append, not_or] at this
      exact this.1
theorem use_chan {p : Pr} {b : List Str} (hp : preK p.kind = true) (h : p.chan ∉ b) : p.chan ∈ usesP p b := by
  rw [usesP_eq, List.mem_append]; left
  unfold freeB outP; rw [List.mem_filter]; exact ⟨by simp [hp], by simpa using h⟩
theorem use_arg {p : Pr} {b : List Str} {x : Vl} (hx : x ∈ p.args) (hk : x.kind = 1) (h : x.name ∉ b) : x.name ∈ usesP p b := by
  rw [usesP_eq, List.mem_append]; left
  unfold freeB outP outA; rw [List.mem_filter]
  exact ⟨List.mem_append.2 (.inr (List.mem_map.2 ⟨x, List.mem_filter.2 ⟨hx, by simpa using hk⟩, rfl⟩)), by simpa using h⟩
theorem use_kid {p q : Pr} {b : List Str} {s : Str} (hq : q ∈ p.kids) (h : s ∈ usesP q (bndP p b)) : s ∈ usesP p b := by
  rw [usesP_eq, List.mem_append]; right; exact usesPs_mem.2 ⟨q, hq, h⟩
theorem chan_some {t : Tb} {s n : Str} (h : tget t s = some ⟨1, n, 0⟩) : chanS t s = n := by
  unfold chanS; rw [h]; exact valueS_n rfl
theorem chan_none {t : Tb} {s : Str} (h : tget t s = none) : chanS t s = s := by unfold chanS; rw [h]
theorem val_some {t : Tb} {x : Vl} {n : Str} (hk : x.kind = 1) (h : tget t x.name = some ⟨1, n, 0⟩) : valS t x = ⟨1, n, 0⟩ := by
  unfold valS; rw [h]; simp [hk]
theorem val_none {t : Tb} {x : Vl} (h : tget t x.name = none) : valS t x = x := by unfold valS; rw [h]
theorem six_pre {k : Int} (h : k = 6) : ¬ preK k = true := by subst h; decide
/-- Back again. -/
theorem sub_back (p : Pr) : ∀ (t u : Tb) (b : List Str), nodesB p = true → keysN t → (∀ s ∈ b, tget t s = none) →
    (∀ s ∈ usesP p b, ∃ d, tget t s = some ⟨1, 36 :: d, 0⟩ ∧ tget u (36 :: d) = some ⟨1, s, 0⟩) → (∀ s, noD s → tget u s = none) → subP u (subP t p) = p := by
  induction p using Pr.ind with
  | _ k c v l a ty ks ih =>
    intro t u b h hkn hb hs hu
    obtain ⟨h1, h2⟩ := nodes_kid h
    obtain ⟨n1, n2, n3⟩ := node_noD h1
    simp only [Pr.chan, Pr.var, Pr.args] at n1 n2 n3
    have hc6 : k = 6 → (if preK k = true then chanS t c else c) = c := fun h6 => if_neg (six_pre h6)
    have hchan : ∀ c', (if preK k = true then chanS t c else c) = c' → (if preK k = true then chanS u c' else c') = c := fun c' hc' => by
      subst hc'
      by_cases hp : preK k = true
      · simp only [hp, if_true]
        by_cases hm : c ∈ b
        · rw [chan_none (hb c hm), chan_none (hu c n1)]
        · obtain ⟨d, e1, e2⟩ := hs c (use_chan (p := .mk k c v l a ty ks) hp hm)
          rw [chan_some e1, chan_some e2]
      · simp [hp]
    have hargs : (a.map (valS t)).map (valS u) = a := by
      rw [List.map_map]
      refine map_id' fun x hx => ?_
      simp only [Function.comp]
      by_cases hk : x.kind = 1
      · by_cases hm : x.name ∈ b
        · rw [val_none (hb _ hm), val_none (hu _ (n3 x hx hk).1)]
        · obtain ⟨d, e1, e2⟩ := hs _ (use_arg (p := .mk k c v l a ty ks) hx hk hm)
          rw [val_some hk e1, val_some rfl e2]
          have := (n3 x hx hk).2
          cases x; simp_all
      · rw [valS_n hk, valS_n hk]
    have hin : ∀ c', (k = 6 → c' = c) → innerS u k c' v = u := fun c' hcc => by
      rw [innerS_eq]; split
      · rw [tdel_none (hu v n2)]
      · split
        · rename_i h6; rw [hcc h6, tdel_none (hu c n1), tdel_none (hu v n2)]
        · rfl
    rw [subP_eq t]
    simp only [Pr.kind, Pr.chan, Pr.var, Pr.labels, Pr.args, Pr.typ, Pr.kids]
    rw [subP_eq u]
    simp only [Pr.kind, Pr.chan, Pr.var, Pr.labels, Pr.args, Pr.typ, Pr.kids]
    rw [Pr.mk.injEq]
    refine ⟨rfl, hchan _ rfl, rfl, rfl, hargs, rfl, ?_⟩
    erw [hin _ hc6]
    rw [List.map_map]
    refine map_id' fun q hq => ?_
    simp only [Function.comp]
    refine ih q hq (innerS t k c v) u (b ++ bnds k c v) (h2 q hq) (inner_keys hkn) (fun s hm => ?_) (fun s hm => ?_) hu
    · rcases List.mem_append.1 hm with hm | hm
      · exact inner_none' hkn (hb s hm)
      · exact inner_none hkn hm
    · obtain ⟨d, e1, e2⟩ := hs s (use_kid (p := .mk k c v l a ty ks) hq hm)
      have hn := usesP_not hm
      rw [List.mem_append, not_or] at hn
      exact ⟨d, by rw [inner_get hn.2, e1], e2⟩
def sig (t : Tb) (s : Str) : Str := match tget t s with
  | some v => v.name
  | none => s
def dolT (t : Tb) : Prop := ∀ q ∈ t, q.2.kind = 1 ∧ ∃ d, q.2.name = 36 :: d
theorem chan_sig {t : Tb} (h : dolT t) (s : Str) : chanS t s = sig t s := by
  unfold chanS sig
  cases hw : tget t s with
  | none => rfl
  | some w => exact valueS_n (h _ (tget_mem hw)).1
theorem outA_sub {t : Tb} (h : dolT t) (a : List Vl) : outA (a.map (valS t)) = (outA a).map (sig t) := by
  induction a with
  | nil => rfl
  | cons x a ih =>
    have e : ∀ (y : Vl) (l : List Vl), outA (y :: l) = (if y.kind = 1 then [y.name] else []) ++ outA l := fun y l => by
      unfold outA; rw [List.filter_cons]; split <;> rename_i hy <;> simp at hy <;> simp [hy]
    rw [List.map_cons, e, e, ih, List.map_append]
    congr 1
    by_cases hk : x.kind = 1
    · cases hq : tget t x.name with
      | none => rw [val_none hq]; simp [hk, sig, hq]
      | some w =>
        have hw := h _ (tget_mem hq)
        have : valS t x = w := by unfold valS; rw [hq]; simp [hk]
        rw [this]; simp [hk, sig, hq, show w.kind = 1 from hw.1]
    · rw [valS_n hk]; simp [hk]
theorem outP_sub {t : Tb} (h : dolT t) (p : Pr) : outP (subP t p) = (outP p).map (sig t) := by
  obtain ⟨k, c, v, l, a, ty, ks⟩ := p
  rw [subP]
  unfold outP
  simp only [Pr.kind, Pr.chan, Pr.args]
  rw [outA_sub h, List.map_append]
  congr 1
  by_cases hp : preK k = true
  · simp only [hp, if_true, chan_sig h]; rfl
  · simp [hp]
theorem freeB_sub {f : Str → Str} {b : List Str} (l : List Str) (h1 : ∀ s ∈ l, s ∈ b → f s ∈ b) (h2 : ∀ s ∈ l, s ∉ b → f s ∉ b) : freeB b (l.map f) = (freeB b l).map f := by
  induction l with
  | nil => rfl
  | cons s l ih =>
    have ih2 := ih (fun x hx => h1 x (List.mem_cons_of_mem _ hx)) (fun x hx => h2 x (List.mem_cons_of_mem _ hx))
    unfold freeB at ih2 ⊢
    rw [List.map_cons, List.filter_cons, List.filter_cons, ih2]
    by_cases hs : s ∈ b
    · have := h1 s (by simp) hs; simp [hs, this]
    · have := h2 s (by simp) hs; simp [hs, this]
theorem uses_sub (p : Pr) : ∀ (t : Tb) (b : List Str), nodesB p = true → keysN t → dolT t → (∀ s ∈ b, tget t s = none ∧ noD s) →
    (∀ s ∈ usesP p b, (tget t s).isSome = true) → usesP (subP t p) b = (usesP p b).map (sig t) := by
  induction p using Pr.ind with
  | _ k c v l' a ty ks ih =>
    intro t b h hkn hd hb hs
    obtain ⟨h1, h2⟩ := nodes_kid h
    obtain ⟨n1, n2, n3⟩ := node_noD h1
    simp only [Pr.chan, Pr.var, Pr.args] at n1 n2 n3
    have hbn : bndP (subP t (.mk k c v l' a ty ks)) b = bndP (.mk k c v l' a ty ks) b := by
      rw [bndP_eq, bndP_eq, subP]
      simp only [Pr.kind, Pr.chan, Pr.var]
      by_cases h6 : k = 6
      · have := six_pre h6; simp only [this]; rfl
      · unfold bnds; simp [h6]
    rw [usesP_eq, usesP_eq (.mk k c v l' a ty ks), outP_sub hd, hbn, List.map_append]
    congr 1
    · refine freeB_sub _ (fun s hm hsb => ?_) (fun s hm hsb => ?_)
      · unfold sig; rw [(hb s hsb).1]; exact hsb
      · have hu : s ∈ usesP (.mk k c v l' a ty ks) b := by
          rw [usesP_eq, List.mem_append]; left; unfold freeB; rw [List.mem_filter]; exact ⟨hm, by simpa using hsb⟩
        obtain ⟨w, hw⟩ := Option.isSome_iff_exists.1 (hs s hu)
        obtain ⟨_, d, hd2⟩ := hd _ (tget_mem hw)
        unfold sig; rw [hw]
        intro hin
        exact (hb _ hin).2 d hd2
    · rw [subP_eq]
      simp only [Pr.kids, Pr.kind, Pr.chan, Pr.var]
      have key : ∀ l : List Pr, (∀ q ∈ l, q ∈ ks) → usesPs (l.map (subP (innerS t k c v))) (bndP (.mk k c v l' a ty ks) b) = (usesPs l (bndP (.mk k c v l' a ty ks) b)).map (sig t) := fun l => by
        induction l with
        | nil => intro _; rfl
        | cons q l ih2 =>
          intro hl
          have hq := hl q (by simp)
          rw [List.map_cons, usesPs, usesPs, List.map_append, ih2 fun x hx => hl x (List.mem_cons_of_mem _ hx)]
          congr 1
          rw [ih q hq (innerS t k c v) (bndP (.mk k c v l' a ty ks) b) (h2 q hq) (inner_keys hkn) (fun z hz => hd z (innerS_sub hz)) (fun s hm => ?_) (fun s hm => ?_)]
          · refine List.map_congr_left fun s hm => ?_
            have hn := usesP_not hm
            rw [bndP_eq, List.mem_append, not_or] at hn
            simp only [Pr.kind, Pr.chan, Pr.var] at hn
            unfold sig; rw [inner_get hn.2]
          · rw [bndP_eq] at hm
            rcases List.mem_append.1 hm with hm | hm
            · exact ⟨inner_none' hkn (hb s hm).1, (hb s hm).2⟩
            · refine ⟨inner_none hkn hm, ?_⟩
              simp only [Pr.kind, Pr.chan, Pr.var] at hm
              unfold bnds at hm
              split at hm
              · simp only [List.mem_cons, List.not_mem_nil, or_false] at hm; rw [hm]; exact n2
              · split at hm
                · simp only [List.mem_cons, List.not_mem_nil, or_false] at hm
                  rcases hm with hm | hm <;> rw [hm]
                  · exact n1
                  · exact n2
                · cases hm
          · have hn := usesP_not hm
            rw [bndP_eq, List.mem_append, not_or] at hn
            simp only [Pr.kind, Pr.chan, Pr.var] at hn
            rw [inner_get hn.2]; exact hs s (use_kid (p := .mk k c v l' a ty ks) hq hm)
      exact key ks fun _ h => h
theorem ded_map {f : Str → Str} (l : List Str) : ∀ out : List Str, (∀ a ∈ out ++ l, ∀ b ∈ out ++ l, f a = f b → a = b) → (l.map f).foldl addS (out.map f) = (l.foldl addS out).map f := by
  induction l with
  | nil => intro out _; rfl
  | cons x l ih =>
    intro out h
    have e : addS (out.map f) (f x) = (addS out x).map f := by
      unfold addS
      by_cases hx : x ∈ out
      · rw [if_pos hx, if_pos (List.mem_map.2 ⟨x, hx, rfl⟩)]
      · rw [if_neg hx, if_neg fun hm => ?_]
        · simp
        · obtain ⟨y, hy, he⟩ := List.mem_map.1 hm
          rw [h y (by simp [hy]) x (by simp) he] at hy; exact hx hy
    rw [List.map_cons, List.foldl_cons, List.foldl_cons, e]
    have hm : ∀ a, a ∈ addS out x ++ l → a ∈ out ++ x :: l := fun a ha => by
      unfold addS at ha
      split at ha
      · rw [List.mem_append] at ha ⊢; rcases ha with ha | ha
        · exact .inl ha
        · exact .inr (List.mem_cons_of_mem _ ha)
      · simpa using ha
    exact ih _ fun a ha b hb => h a (hm a ha) b (hm b hb)
theorem dedS_map {f : Str → Str} {l : List Str} (h : ∀ a ∈ l, ∀ b ∈ l, f a = f b → a = b) : dedS (l.map f) = (dedS l).map f := ded_map l [] h
theorem sub_left (p : Pr) : ∀ (t : Tb) (m : Int), leftPr (subP t p) m = leftPr p m := by
  induction p using Pr.ind with
  | _ k c v l a ty ks ih =>
    intro t m
    rw [leftPr_eq, leftPr_eq (.mk k c v l a ty ks), subP_eq]
    simp only [Pr.kids, Pr.typ, Pr.kind, Pr.chan, Pr.var]
    have key : ∀ (l : List Pr), (∀ q ∈ l, q ∈ ks) → ∀ m, leftPrs (l.map (subP (innerS t k c v))) m = leftPrs l m := fun l => by
      induction l with
      | nil => intro _ m; rfl
      | cons q l ih2 =>
        intro hl m
        rw [List.map_cons, leftPrs, leftPrs, ih q (hl q (by simp)), ih2 fun x hx => hl x (List.mem_cons_of_mem _ hx)]
    rw [key ks fun _ h => h]; rfl
theorem sub_few (p : Pr) (t : Tb) (m : Int) : fewPr (subP t p) m = fewPr p m := by unfold fewPr; rw [sub_left, sub_dp]
def outT (p : Pr) : Tb := (freeS p).zip ((news (freeS p).length).map nmV)
def bakT (p : Pr) : Tb := (news (freeS p).length).zip ((freeS p).map nmV)
theorem free_at {p : Pr} {s : Str} (h : s ∈ usesP p []) : ∃ i, ∃ h : i < (freeS p).length, (freeS p)[i] = s := List.mem_iff_getElem.1 (dedS_mem.2 h)
theorem outT_at {p : Pr} {i : Nat} (h : i < (freeS p).length) : tget (outT p) (freeS p)[i] = some ⟨1, nw i, 0⟩ := by
  unfold outT
  have := tget_zip (ks := freeS p) (vs := (news (freeS p).length).map nmV) (dedS_nodup _) h (by rw [List.length_map, news_len]; exact h)
  rw [List.getElem_map, news_at] at this
  rw [this]; rfl
theorem bakT_at {p : Pr} (hl : (freeS p).length ≤ 9223372036854775807) {i : Nat} (h : i < (freeS p).length) : tget (bakT p) (nw i) = some ⟨1, (freeS p)[i], 0⟩ := by
  unfold bakT
  have h2 : i < (news (freeS p).length).length := by rw [news_len]; exact h
  have := tget_zip (vs := (freeS p).map nmV) (news_nodup hl) h2 (by rw [List.length_map]; exact h)
  rw [news_at, List.getElem_map] at this
  rw [this]; rfl
theorem bakT_none {p : Pr} {s : Str} (h : noD s) : tget (bakT p) s = none := tget_none fun hm => by
  obtain ⟨d, hd⟩ := news_dol hm; exact h d hd
theorem zip_mem {ks : List Str} {vs : List Vl} {q : Str × Vl} (h : q ∈ ks.zip vs) : q.2 ∈ vs := (List.of_mem_zip (a := q.1) (b := q.2) h).2
theorem outT_dol (p : Pr) : dolT (outT p) := fun q hq => by
  obtain ⟨s, hs, he⟩ := List.mem_map.1 (zip_mem hq)
  rw [← he]
  exact ⟨rfl, news_dol hs⟩
theorem zip_keys {ks : List Str} {vs : List Vl} (h : ks.Nodup) : keysN (ks.zip vs) := by
  have : ((ks.zip vs).map Prod.fst).Sublist ks := by
    clear h
    induction ks generalizing vs with
    | nil => exact .slnil
    | cons k ks ih =>
      cases vs with
      | nil => exact List.nil_sublist _
      | cons v vs => exact (ih (vs := vs)).cons_cons _
  exact this.nodup h
theorem uses_inS (p : Pr) : okP p → ∀ (b : List Str) (s : Str), s ∈ usesP p b → inS s := by
  induction p using Pr.ind with
  | _ k c v l a ty ks ih =>
    intro h b s hs
    obtain ⟨h1, h2, h3, h4, h5, h6, h7, h8⟩ := (okP_iff _).1 h
    rw [usesP_eq, List.mem_append] at hs
    rcases hs with hs | hs
    · have hm := (List.mem_filter.1 hs).1
      unfold outP at hm
      rw [List.mem_append] at hm
      rcases hm with hm | hm
      · split at hm
        · rw [List.mem_singleton] at hm; rw [hm]; exact h2
        · cases hm
      · obtain ⟨x, hx, rfl⟩ := List.mem_map.1 hm
        exact (h5.2 x (List.mem_filter.1 hx).1).2.1
    · obtain ⟨q, hq, hs⟩ := usesPs_mem.1 hs
      exact ih q hq (h8 q hq) _ s hs
theorem free_inS {p : Pr} (h : okP p) {s : Str} (hs : s ∈ freeS p) : inS s := uses_inS p h [] s (dedS_mem.1 hs)
theorem nw_inS {i : Nat} (h : i ≤ 9223372036854775807) : inS (nw i) := by
  have := Lib.itoa_length_le (i : Int) (by omega) (by omega)
  unfold inS nw
  rw [List.length_cons]; omega
theorem nmTb_zip {ks vs : List Str} (h : ∀ s ∈ vs, inS s) : nmTb (ks.zip (vs.map nmV)) := fun q hq => by
  obtain ⟨s, hs, he⟩ := List.mem_map.1 (zip_mem hq)
  rw [← he]; exact ⟨rfl, h s hs, rfl⟩
theorem outT_ok {p : Pr} (hl : (freeS p).length ≤ 9223372036854775807) : nmTb (outT p) := nmTb_zip fun s hs => by
  obtain ⟨i, hi, rfl⟩ := List.mem_map.1 hs
  rw [List.mem_range] at hi; exact nw_inS (by omega)
theorem bakT_ok {p : Pr} (h : okP p) : nmTb (bakT p) := nmTb_zip fun s hs => free_inS h hs
theorem free_law {p : Pr} (h : nodesB p = true) (hl : (freeS p).length ≤ 9223372036854775807) :
    freeS (subP (outT p) p) = news (freeS p).length ∧ subP (bakT p) (subP (outT p) p) = p ∧ subP (bakT p) p = p := by
  have hk : keysN (outT p) := zip_keys (dedS_nodup _)
  refine ⟨?_, ?_, sub_out (fun s hs => bakT_none hs) p h⟩
  · have hsig : ∀ (i : Nat) (hi : i < (freeS p).length), sig (outT p) (freeS p)[i] = nw i := fun i hi => by unfold sig; rw [outT_at hi]
    have e : freeS (subP (outT p) p) = dedS (usesP (subP (outT p) p) []) := rfl
    rw [e, uses_sub p (outT p) [] h hk (outT_dol p) (fun s hs => by cases hs) (fun s hs => ?_), dedS_map (fun a ha b hb hab => ?_)]
    · show (freeS p).map _ = _
      refine List.ext_getElem (by rw [List.length_map, news_len]) fun i h1 h2 => ?_
      rw [List.length_map] at h1
      rw [List.getElem_map, news_at, hsig i h1]
    · obtain ⟨i, hi, rfl⟩ := free_at ha
      obtain ⟨j, hj, rfl⟩ := free_at hb
      rw [hsig, hsig] at hab
      have := nw_inj (by omega) (by omega) hab
      subst this; rfl
    · obtain ⟨i, hi, rfl⟩ := free_at hs
      rw [outT_at hi]; rfl
  · refine sub_back p (outT p) (bakT p) [] h hk (fun s hs => by cases hs) (fun s hs => ?_) fun s hs => bakT_none hs
    obtain ⟨i, hi, rfl⟩ := free_at hs
    exact ⟨_, outT_at hi, bakT_at hl hi⟩
end Go.Duo

namespace Go.Duo
open Go
theorem getDu (s : Str) (i : Nat) (u : UInt8) (h : i < s.length) : s.getD i u = s[i] := getD_ltI s i u h
theorem kwT : (KW.map V.str).take 10 = KW.map V.str := rfl
theorem kwL : KW.length = 10 := rfl
theorem kwO : (KW.map V.str).all V.one = true := rfl
attribute [go_sem] kwT kwL kwO u8_45 u8_48 u8_35 u8_10 u8_43 u8_eq getDu
end Go.Duo

namespace Go.Duo
open Go
end Go.Duo
