/-
  A part of the proof.
-/
import Derived.Test.YtdlcnihacaboiaaGreatDoorGG
import Derived.Test.YtdlcnihacaboiaaGreatDoorGF
import Derived.Lib.LaidTab
import Derived.Test.YtdlcnihacaboiaaGreatDoorGH
set_option linter.all false
namespace Go.Duo
open Go
def letB (c:UInt8):Bool:=(decide (65 ≤ c.toNat) && decide (c.toNat ≤ 90)) || (decide (97 ≤ c.toNat) && decide (c.toNat ≤ 122)) || decide (c.toNat = 95)
def wordB (c:UInt8):Bool:=letB c || dig c
def blankB (c:UInt8):Bool:=decide (c = 32) || decide (c = 9) || decide (c = 10) || decide (c = 13)
def signL:Str:=[33,63,46,40,41,123,125,60,62,44,58,59,124,38,43,61]
def signB (c:UInt8):Bool:=decide (c ∈ signL)
structure Tok where
  kind:Int
  text:Str
  n:Int
  at_:Int
  deriving DecidableEq
abbrev LexR:=Except (Int × Int) (List Tok)
def numN:Str → Nat
  | [] => 0
  | c :: r => if c = 45 then (match r with
      | [] => 0
      | d :: r => if dig d = true ∧ d ≠ 48 then 2 + (r.takeWhile dig).length else 0)
    else if c = 48 then 1 else if dig c = true then 1 + (r.takeWhile dig).length else 0
def tokN:Str → Nat
  | [] => 0
  | c :: r => if letB c = true then 1 + (r.takeWhile wordB).length else if numN (c :: r) ≠ 0 then numN (c :: r) else if signB c = true then 1 else 0
def tokK:Str → Int
  | [] => 0
  | c :: r => if letB c = true then 1 else if numN (c :: r) ≠ 0 then 2 else if signB c = true then 3 else 0
def tokV (k:Int) (u:Str):Option Int:=if k = 2 then (match Lib.parseIntB 64 u with | .ok n => some n | _ => none) else some 0
def lexM:Nat → Bool → Nat → Str → LexR
  | 0,_,_,_ => .ok []
  | _ + 1,_,_,[] => .ok []
  | m + 1,true,a,c :: s => if c = 10 then lexM m false (a + 1) s else lexM m true (a + 1) s
  | m + 1,false,a,c :: s => if blankB c = true then lexM m false (a + 1) s else if c = 35 then lexM m true (a + 1) s else
      if tokN (c :: s) = 0 then .error (1,a) else match tokV (tokK (c :: s)) ((c :: s).take (tokN (c :: s))) with
        | none => .error (2,a)
        | some v => (lexM m false (a + tokN (c :: s)) ((c :: s).drop (tokN (c :: s)))).map (⟨tokK (c :: s),(c :: s).take (tokN (c :: s)),v,a⟩ :: ·)
def lexL (b:Bool) (a:Nat) (s:Str):LexR:=lexM s.length b a s
theorem numN_le (s:Str):numN s ≤ s.length:=by
  unfold numN
  split
  · simp
  · rename_i c r
    split
    · split
      · omega
      · rename_i d r
        split
        · have:=(List.takeWhile_prefix dig (l:=r)).length_le;simp only [List.length_cons];omega
        · omega
    · split
      · simp
      · split
        · have:=(List.takeWhile_prefix dig (l:=r)).length_le;simp only [List.length_cons];omega
        · omega
theorem tokN_le (s:Str):tokN s ≤ s.length:=by
  unfold tokN
  split
  · simp
  · rename_i c r
    have h1:=numN_le (c :: r)
    have h2:=(List.takeWhile_prefix wordB (l:=r)).length_le
    simp only [List.length_cons] at h1 ⊢
    split
    · omega
    · split
      · exact h1
      · split <;> omega
theorem lexM_more:∀ (m n:Nat) (b:Bool) (a:Nat) (s:Str),s.length ≤ m → s.length ≤ n → lexM m b a s = lexM n b a s:=by
  intro m
  induction m with
  | zero =>
    intro n b a s h _
    have hs:s = []:=List.eq_nil_of_length_eq_zero (by omega)
    subst hs
    cases n <;> cases b <;> simp [lexM]
  | succ m ih =>
    intro n b a s h h'
    cases s with
    | nil => cases n <;> cases b <;> simp [lexM]
    | cons c s =>
      simp only [List.length_cons] at h h'
      obtain ⟨n,rfl⟩:∃ k,n = k + 1:=⟨n - 1,by omega⟩
      cases b with
      | true => simp only [lexM];rw [ih n false _ _ (by omega) (by omega),ih n true _ _ (by omega) (by omega)]
      | false =>
        simp only [lexM]
        rw [ih n false (a + 1) s (by omega) (by omega),ih n true (a + 1) s (by omega) (by omega)]
        by_cases h0:tokN (c :: s) = 0
        · simp only [h0,if_true]
        · rw [ih n false (a + tokN (c :: s)) _ (by rw [List.length_drop,List.length_cons];omega) (by rw [List.length_drop,List.length_cons];omega)]
theorem lexL_nil (b:Bool) (a:Nat):lexL b a [] = .ok []:=by cases b <;> rfl
theorem lexL_note {a:Nat} {c:UInt8} {s:Str} (h:¬ c = 10):lexL true a (c :: s) = lexL true (a + 1) s:=by
  unfold lexL;simp only [List.length_cons,lexM];rw [if_neg h]
theorem lexL_noteEnd {a:Nat} {s:Str}:lexL true a (10 :: s) = lexL false (a + 1) s:=by
  unfold lexL;simp only [List.length_cons,lexM];rw [if_pos trivial]
theorem lexL_blank {a:Nat} {c:UInt8} {s:Str} (h:blankB c = true):lexL false a (c :: s) = lexL false (a + 1) s:=by
  unfold lexL;simp only [List.length_cons,lexM];rw [if_pos h]
theorem lexL_hash {a:Nat} {s:Str}:lexL false a (35 :: s) = lexL true (a + 1) s:=by
  unfold lexL;simp only [List.length_cons,lexM];rw [if_neg (by decide),if_pos trivial]
theorem lexL_bad {a:Nat} {c:UInt8} {s:Str} (h:blankB c = false) (h':¬ c = 35) (h0:tokN (c :: s) = 0):lexL false a (c :: s) = .error (1,a):=by
  unfold lexL;simp only [List.length_cons,lexM];rw [if_neg (by rw [h];simp),if_neg h',if_pos h0]
theorem lexL_big {a:Nat} {c:UInt8} {s:Str} (h:blankB c = false) (h':¬ c = 35) (h0:¬ tokN (c :: s) = 0) (hv:tokV (tokK (c :: s)) ((c :: s).take (tokN (c :: s))) = none):lexL false a (c :: s) = .error (2,a):=by
  unfold lexL;simp only [List.length_cons,lexM];rw [if_neg (by rw [h];simp),if_neg h',if_neg h0,hv]
theorem lexL_tok {a:Nat} {c:UInt8} {s:Str} {v:Int} (h:blankB c = false) (h':¬ c = 35) (h0:¬ tokN (c :: s) = 0) (hv:tokV (tokK (c :: s)) ((c :: s).take (tokN (c :: s))) = some v) :
    lexL false a (c :: s) = (lexL false (a + tokN (c :: s)) ((c :: s).drop (tokN (c :: s)))).map (⟨tokK (c :: s),(c :: s).take (tokN (c :: s)),v,a⟩ :: ·):=by
  have e:=lexM_more s.length ((c :: s).drop (tokN (c :: s))).length false (a + tokN (c :: s)) ((c :: s).drop (tokN (c :: s))) (by rw [List.length_drop,List.length_cons];omega) (Nat.le_refl _)
  unfold lexL
  conv => lhs;rw [List.length_cons];unfold lexM
  rw [if_neg (by rw [h];simp),if_neg h',if_neg h0,hv,e]
theorem lexL_line {a:Nat} {s:Str}:lexL true a (10 :: s) = lexL false a (10 :: s):=by rw [lexL_noteEnd,lexL_blank (by decide)]
def lexA (s:Str) (b:Bool) (a:Nat):LexR:=lexL b a (s.drop a)
section
variable {s:Str} {a:Nat}
theorem lexA_end {b:Bool} (h:s.length ≤ a):lexA s b a = .ok []:=by unfold lexA;rw [List.drop_eq_nil_of_le h,lexL_nil]
theorem drop_at (h:a < s.length):s.drop a = s[a] :: s.drop (a + 1):=List.drop_eq_getElem_cons h
theorem lexA_note (h:a < s.length) (hc:¬ s[a] = 10):lexA s true a = lexA s true (a + 1):=by unfold lexA;rw [drop_at h,lexL_note hc]
theorem lexA_line (h:a < s.length) (hc:s[a] = 10):lexA s true a = lexA s false a:=by unfold lexA;rw [drop_at h,hc,lexL_line]
theorem lexA_blank (h:a < s.length) (hc:blankB s[a] = true):lexA s false a = lexA s false (a + 1):=by unfold lexA;rw [drop_at h,lexL_blank hc]
theorem lexA_hash (h:a < s.length) (hc:s[a] = 35):lexA s false a = lexA s true a:=by
  unfold lexA;rw [drop_at h,hc,lexL_hash,lexL_note (by decide)]
theorem lexA_bad (h:a < s.length) (hb:blankB s[a] = false) (hh:¬ s[a] = 35) (h0:tokN (s.drop a) = 0):lexA s false a = .error (1,a):=by
  unfold lexA;rw [drop_at h] at h0 ⊢;exact lexL_bad hb hh h0
theorem lexA_big (h:a < s.length) (hb:blankB s[a] = false) (hh:¬ s[a] = 35) (h0:¬ tokN (s.drop a) = 0) (hv:tokV (tokK (s.drop a)) ((s.drop a).take (tokN (s.drop a))) = none):lexA s false a = .error (2,a):=by
  unfold lexA;rw [drop_at h] at h0 hv ⊢;exact lexL_big hb hh h0 hv
theorem lexA_tok {v:Int} (h:a < s.length) (hb:blankB s[a] = false) (hh:¬ s[a] = 35) (h0:¬ tokN (s.drop a) = 0) (hv:tokV (tokK (s.drop a)) ((s.drop a).take (tokN (s.drop a))) = some v) :
    lexA s false a = (lexA s false (a + tokN (s.drop a))).map (⟨tokK (s.drop a),(s.drop a).take (tokN (s.drop a)),v,a⟩ :: ·):=by
  unfold lexA
  rw [← List.drop_drop]
  rw [drop_at h] at h0 hv ⊢
  exact lexL_tok hb hh h0 hv
end
def isWord:Str → Bool
  | [] => false
  | c :: r => letB c && r.all wordB
def isNum (s:Str):Bool:=decide (s = [48]) || (match (if s.head? = some 45 then s.tail else s) with
  | [] => false
  | c :: r => decide (c ≠ 48) && (dig c && r.all dig))
def kindL (s:Str):Int:=if isWord s = true then 1 else if isNum s = true then 2 else match s with
  | [c] => if signB c = true then 3 else 0
  | _ => 0
theorem all_take (p:UInt8 → Bool):∀ (r:Str) (j:Nat),j ≤ r.length → (r.take j).all p = decide (j ≤ (r.takeWhile p).length)
  | [],j,h => by simp at h;subst h;simp
  | c :: r,0,_ => by simp
  | c :: r,j + 1,h => by
    simp only [List.take_succ_cons,List.all_cons,List.takeWhile_cons]
    cases hp:p c with
    | false => simp
    | true => simp only [Bool.true_and,if_true,List.length_cons,Nat.add_le_add_iff_right];exact all_take p r j (by simpa using h)
theorem u8_all (p:UInt8 → Bool) (h:((List.range 256).all fun n => p (UInt8.ofNat n)) = true) (c:UInt8):p c = true:=by
  have h1:=List.all_eq_true.1 h c.toNat (List.mem_range.2 (UInt8.toNat_lt c))
  rwa [UInt8.ofNat_toNat] at h1
theorem let_not {c:UInt8} (h:letB c = true):dig c = false ∧ c ≠ 45 ∧ c ≠ 48 ∧ signB c = false ∧ c ≠ 35 ∧ blankB c = false:=by
  have:=u8_all (fun c => !letB c || decide (dig c = false ∧ c ≠ 45 ∧ c ≠ 48 ∧ signB c = false ∧ c ≠ 35 ∧ blankB c = false)) (by decide +kernel) c
  rw [h] at this;simpa using this
theorem dig_not {c:UInt8} (h:dig c = true):letB c = false ∧ c ≠ 45 ∧ signB c = false ∧ c ≠ 35 ∧ blankB c = false:=by
  have:=u8_all (fun c => !dig c || decide (letB c = false ∧ c ≠ 45 ∧ signB c = false ∧ c ≠ 35 ∧ blankB c = false)) (by decide +kernel) c
  rw [h] at this;simpa using this
def preOK (t:Str) (k:Nat):Bool:=decide (1 ≤ k) && decide (k ≤ tokN t) && !(decide (k = 1) && decide (t.head? = some 45))
theorem isNum_dig {c:UInt8} {r:Str} (h:dig c = true) (h48:c ≠ 48):isNum (c :: r) = r.all dig:=by
  unfold isNum
  have hc:=(dig_not h).2.1
  rw [List.head?_cons,if_neg (by simpa using hc)]
  simp only [h48,ne_eq,not_false_eq_true,decide_true,h,Bool.true_and]
  have:¬ (c :: r) = [48]:=by simp;intro h;exact absurd h h48
  simp [this]
theorem isNum_zero {r:Str}:isNum (48 :: r) = decide (r = []):=by
  unfold isNum
  rw [List.head?_cons,if_neg (by decide)]
  simp
theorem isNum_minus {r:Str}:isNum (45 :: r) = (match r with | [] => false | c :: r => decide (c ≠ 48) && (dig c && r.all dig)):=by
  unfold isNum
  rw [List.head?_cons,if_pos rfl]
  cases r <;> simp
theorem isNum_other {c:UInt8} {r:Str} (h:dig c = false) (h45:c ≠ 45):isNum (c :: r) = false:=by
  unfold isNum
  rw [List.head?_cons,if_neg (by simpa using h45)]
  have:c ≠ 48:=by rintro rfl;exact absurd h (by decide)
  simp [h,this]
theorem isWord_other {c:UInt8} {r:Str} (h:letB c = false):isWord (c :: r) = false:=by simp [isWord,h]
theorem kind_word {c:UInt8} {r:Str} (h:letB c = true):kindL (c :: r) = if r.all wordB = true then 1 else 0:=by
  obtain ⟨h1,h2,h3,h4,_⟩:=let_not h
  unfold kindL
  rw [isNum_other h1 h2]
  simp only [isWord,h,Bool.true_and]
  split
  · rfl
  · rename_i hh
    rw [if_neg (by simp)]
    cases r with
    | nil => simp at hh
    | cons d r => rfl
theorem kind_dig {c:UInt8} {r:Str} (h:dig c = true) (h48:c ≠ 48):kindL (c :: r) = if r.all dig = true then 2 else 0:=by
  obtain ⟨h1,h2,h3,_⟩:=dig_not h
  unfold kindL
  rw [isWord_other h1,if_neg (by simp),isNum_dig h h48]
  split
  · rfl
  · rename_i hh
    cases r with
    | nil => simp at hh
    | cons d r => rfl
theorem kind_zero {r:Str}:kindL (48 :: r) = if r = [] then 2 else 0:=by
  unfold kindL
  rw [isWord_other (by decide),if_neg (by simp),isNum_zero]
  cases r with
  | nil => rfl
  | cons d r => simp
theorem kind_minus {r:Str}:kindL (45 :: r) = if (match r with | [] => false | c :: r => decide (c ≠ 48) && (dig c && r.all dig)) = true then 2 else 0:=by
  unfold kindL
  rw [isWord_other (by decide),if_neg (by simp),isNum_minus]
  cases r with
  | nil => simp [signB,signL]
  | cons d r => split <;> rfl
theorem kind_other {c:UInt8} {r:Str} (h1:letB c = false) (h2:dig c = false) (h3:c ≠ 45):kindL (c :: r) = if r = [] ∧ signB c = true then 3 else 0:=by
  unfold kindL
  rw [isWord_other h1,if_neg (by simp),isNum_other h2 h3,if_neg (by simp)]
  cases r with
  | nil => simp
  | cons d r => simp
theorem kind_take {t:Str} {k:Nat} (h1:1 ≤ k) (hk:k ≤ t.length):(0 < kindL (t.take k)) = (preOK t k = true):=by
  cases t with
  | nil => simp at hk;omega
  | cons c r =>
    obtain ⟨j,rfl⟩:∃ j,k = j + 1:=⟨k - 1,by omega⟩
    simp only [List.length_cons,Nat.add_le_add_iff_right] at hk
    rw [List.take_succ_cons]
    unfold preOK
    simp only [List.head?_cons,Option.some.injEq,Nat.le_add_left,decide_true,Bool.true_and,Nat.add_eq_right]
    by_cases hl:letB c = true
    · obtain ⟨e1,e2,_⟩:=let_not hl
      rw [kind_word hl,all_take wordB r j hk]
      simp only [tokN,hl,if_true,e2,decide_false,Bool.and_false,Bool.not_false,Bool.and_true,decide_eq_true_eq]
      by_cases hj:j ≤ (r.takeWhile wordB).length
      · simp [hj];omega
      · simp [hj];omega
    · have hl:letB c = false:=by simpa using hl
      by_cases hm:c = 45
      · subst hm
        cases r with
        | nil => simp at hk;subst hk;simp [kind_minus]
        | cons d r =>
          cases j with
          | zero => simp [kind_minus]
          | succ j =>
            simp only [List.length_cons,Nat.add_le_add_iff_right] at hk
            rw [List.take_succ_cons,kind_minus]
            simp only [all_take dig r j hk]
            have hs:signB 45 = false:=by decide
            simp only [tokN,show letB 45 = false from by decide,Bool.false_eq_true,if_false,numN,if_true,hs]
            by_cases hd:dig d = true ∧ d ≠ 48
            · by_cases hj:j ≤ (r.takeWhile dig).length
              · simp [hd,hj];omega
              · simp [hd,hj];omega
            · have:(decide (d ≠ 48) && (dig d && decide (j ≤ (r.takeWhile dig).length))) = false:=by
                cases hdd:dig d with
                | false => simp
                | true => simp [hdd] at hd;simp [hd]
              simp only [this]
              simp [hd]
      · by_cases hz:c = 48
        · subst hz
          rw [kind_zero]
          simp only [tokN,show letB 48 = false from by decide,Bool.false_eq_true,if_false,numN,if_true]
          by_cases hj:j = 0
          · subst hj;simp
          · have:¬ r.take j = []:=by
              intro h
              have:=congrArg List.length h
              rw [List.length_take,List.length_nil] at this
              omega
            simp [this,hj]
        · by_cases hd:dig c = true
          · rw [kind_dig hd hz,all_take dig r j hk]
            simp only [tokN,hl,Bool.false_eq_true,if_false,numN,hm,hz,hd,if_true]
            by_cases hj:j ≤ (r.takeWhile dig).length
            · simp [hj];omega
            · simp [hj];omega
          · have hd:dig c = false:=by simpa using hd
            rw [kind_other hl hd hm]
            simp only [tokN,hl,Bool.false_eq_true,if_false,numN,hm,hz,hd]
            by_cases hs:signB c = true
            · by_cases hj:j = 0
              · subst hj;simp [hs]
              · have:¬ r.take j = []:=by
                  intro h
                  have:=congrArg List.length h
                  rw [List.length_take,List.length_nil] at this
                  omega
                simp [hs,this,hj]
            · simp [hs]
theorem kind_tok {t:Str} (h:¬ tokN t = 0):kindL (t.take (tokN t)) = tokK t:=by
  cases t with
  | nil => exact absurd rfl h
  | cons c r =>
    obtain ⟨j,hj⟩:∃ j,tokN (c :: r) = j + 1:=⟨tokN (c :: r) - 1,by omega⟩
    rw [hj,List.take_succ_cons]
    have htw:∀ p:UInt8 → Bool,(r.take (r.takeWhile p).length).all p = true:=fun p => by rw [all_take p r _ (List.takeWhile_prefix p).length_le];simp
    by_cases hl:letB c = true
    · simp only [tokN,hl,if_true] at hj
      have:j = (r.takeWhile wordB).length:=by omega
      subst this
      rw [kind_word hl,if_pos (htw _)]
      simp [tokK,hl]
    · have hl:letB c = false:=by simpa using hl
      by_cases hm:c = 45
      · subst hm
        cases r with
        | nil => simp [tokN,numN,signB,signL,letB] at h
        | cons d r =>
          simp only [tokN,show letB 45 = false from by decide,Bool.false_eq_true,if_false,numN,if_true,show signB 45 = false from by decide] at hj h
          by_cases hd:dig d = true ∧ d ≠ 48
          · have hne:¬ 2 + (r.takeWhile dig).length = 0:=by omega
            simp only [hd,if_true,ne_eq,hne,not_false_eq_true,and_self] at hj
            have:j = (r.takeWhile dig).length + 1:=by omega
            subst this
            have hh:=htw
            have ht2:(r.take (r.takeWhile dig).length).all dig = true:=by rw [all_take dig r _ (List.takeWhile_prefix dig).length_le];simp
            rw [List.take_succ_cons,kind_minus]
            simp [hd,ht2,tokK,numN,show letB 45 = false from by decide]
          · simp [hd] at h
      · by_cases hz:c = 48
        · subst hz
          simp only [tokN,show letB 48 = false from by decide,Bool.false_eq_true,if_false,numN,if_true,hm] at hj
          simp at hj
          subst hj
          simp [kind_zero,tokK,numN,show letB 48 = false from by decide]
        · by_cases hd:dig c = true
          · simp only [tokN,hl,Bool.false_eq_true,if_false,numN,hm,hz,hd,if_true] at hj
            have:j = (r.takeWhile dig).length:=by split at hj <;> omega
            subst this
            rw [kind_dig hd hz,if_pos (htw _)]
            simp [tokK,hl,numN,hm,hz,hd]
          · have hd:dig c = false:=by simpa using hd
            simp only [tokN,hl,Bool.false_eq_true,if_false,numN,hm,hz,hd] at hj h
            by_cases hs:signB c = true
            · simp [hs] at hj
              subst hj
              rw [kind_other hl hd hm]
              simp [hs,tokK,hl,numN,hm,hz,hd]
            · simp [hs] at h
end Go.Duo

namespace Go.Duo
open Go
section
variable {P:Program} {gl:Nat → V} {st:List O}
theorem Call.of_grow {k:FuncId} {args:List V} {K:V → List O → Prop}
    (h:∀ (w:World) (s:S) (xs:List Value),s.st = st → Sim P gl w s → RepL w s args xs → Calls P k xs.toArray w fun e w' => RowKit.Below w.heap.size w w' ∧ ∃ v x,e = .returned x ∧ K v st ∧ ∀ w2 s2,Rep w2 s2 v x):Call P gl k args st K:=fun w s xs hst hs hxs => by
  refine (callsIn_wide.2 (h w s xs hst hs hxs)).mono ?_
  rintro e w' ⟨hb,v,x,rfl,hK,hr⟩
  have hS:=hs.grow (w':=w') hb.os hb.tape hb.output hb.size hb.block (fun _ _ => False) (fun _ _ h => h.elim)
  have hE:=Evolve.grow (w:=w) (w':=w') hs.wf hb.os hb.tape hb.output hb.size hb.block (fun _ _ => False) (fun _ _ h => h.elim)
  exact ⟨v,x,_,rfl,hS,hE,hr _ _,by subst hst;exact hK⟩
theorem glob_tab {w:World} {s:S} (hs:Sim P gl w s) {g:Nat} {name:String} {k:IntKind} {zs:List Int} (hn:P.globalNamed name = some g) (hg:gl g = .dptr (zs.map (.int k))):Lib.TabIs P w name k zs:=by
  rcases hs.glob g with h | ⟨hp,_,cs,t,fr,h1,h2⟩
  · rw [hg] at h;cases h
  · rw [hg] at hp h2
    unfold Lib.TabIs World.var?
    rw [hn]
    simp only [Option.bind_some,h1]
    simp only [V.dlen,List.length_map] at h2
    congr 1
    apply Array.ext
    · simp [h2]
    · intro j hj hj'
      simp only [List.size_toArray,List.length_map] at hj'
      cases hp with
      | dptr _ _ _ y hc hh =>
        have hj2:(zs.map (V.int k))[j]? = some (.int k zs[j]):=by rw [List.getElem?_map,List.getElem?_eq_getElem hj'];rfl
        have h3:=(hc j _ hj2).1
        have h4:=hh j _ hj2
        cases h4':y j <;> rw [h4'] at h4 <;> cases h4
        rw [Nat.zero_add] at h3
        have h5:=cell_of_row w g j cs t fr h1
        rw [h3,h4'] at h5
        rw [Array.getElem?_eq_getElem hj] at h5
        simp only [Option.some.injEq] at h5
        rw [← h5]
        simp
theorem glob_iface {w:World} {s:S} (hs:Sim P gl w s) {g:Nat} {t:TypeId} {v:V} (hg:gl g = .dptr [.iface t v]):∃ ev,w.cell? ⟨g,0,none⟩ = some ev ∧ (ev = .nilIface ∨ ∃ te pe,ev = .iface te pe):=by
  rcases hs.glob g with h | ⟨hp,_,_⟩
  · rw [hg] at h;cases h
  · rw [hg] at hp
    cases hp with
    | dptr _ _ _ y hc hh =>
      have h3:=(hc 0 _ rfl).1
      have h4:=hh 0 _ rfl
      refine ⟨y 0,h3, ?_⟩
      generalize y 0 = z at h4
      cases h4
      exact .inr ⟨_,_,rfl⟩
end
end Go.Duo

namespace Go.Duo
open Go
theorem blank_in (c:UInt8):decide (c ∈ ([32,9,10,13]:Str)) = blankB c:=by
  simp only [List.mem_cons,List.not_mem_nil,or_false,Bool.decide_or,blankB,Bool.or_assoc]
end Go.Duo
namespace Go.Duo
open Go
def Tok.zero:Tok:=⟨0,[],0,0⟩
def encK (t:Tok):V:=.agg [.int .i64 t.kind,.str t.text,.int .i64 t.n,.int .i64 t.at_]
theorem u8_45 (c:UInt8):((c.toNat:Int) = 45) = (c = 45):=propext ⟨fun h => UInt8.toNat.inj (by simpa using (show c.toNat = 45 by omega)),fun h => by rw [h];rfl⟩
theorem u8_48 (c:UInt8):((c.toNat:Int) = 48) = (c = 48):=propext ⟨fun h => UInt8.toNat.inj (by simpa using (show c.toNat = 48 by omega)),fun h => by rw [h];rfl⟩
theorem u8_35 (c:UInt8):((c.toNat:Int) = 35) = (c = 35):=propext ⟨fun h => UInt8.toNat.inj (by simpa using (show c.toNat = 35 by omega)),fun h => by rw [h];rfl⟩
theorem u8_10 (c:UInt8):((c.toNat:Int) = 10) = (c = 10):=propext ⟨fun h => UInt8.toNat.inj (by simpa using (show c.toNat = 10 by omega)),fun h => by rw [h];rfl⟩
theorem u8_43 (c:UInt8):((c.toNat:Int) = 43) = (c = 43):=propext ⟨fun h => UInt8.toNat.inj (by simpa using (show c.toNat = 43 by omega)),fun h => by rw [h];rfl⟩
theorem u8_eq (c d:UInt8):((c.toNat:Int) = (d.toNat:Int)) = (c = d):=propext ⟨fun h => UInt8.toNat.inj (by omega),fun h => by rw [h]⟩
def KW:List Str:=[[100,101,102],[109,97,105,110],[115,116,111,112],[110,101,119],[105,110,116],[98,111,111,108],[101,110,100],[114,101,99],[116,114,117,101],[102,97,108,115,101]]
def nameB (s:Str):Bool:=isWord s && !decide (s ∈ KW)
def lexT (s:Str):List Tok × Int × Int:=if 65536 < s.length then ([],2,65536) else match lexA s false 0 with
  | .ok l => (l,0,0)
  | .error x => ([],x.1,x.2)
theorem lexT_big {s:Str} (h:65536 < s.length):lexT s = ([],2,65536):=if_pos h
theorem take_at {α:Type} {l:List α} {i:Nat} (h:i < l.length):l.take (i + 1) = l.take i ++ [l[i]]:=by rw [List.take_append_getElem]
end Go.Duo

namespace Go.Duo
open Go
def Ty.kind:Ty → Int | .mk k _ _ _ _ _ => k
def Ty.prio:Ty → Int | .mk _ p _ _ _ _ => p
def Ty.name:Ty → Str | .mk _ _ n _ _ _ => n
def Ty.shift:Ty → Int | .mk _ _ _ s _ _ => s
def Ty.labels:Ty → List Str | .mk _ _ _ _ l _ => l
def Ty.kids:Ty → List Ty | .mk _ _ _ _ _ ks => ks
def Pr.var:Pr → Str | .mk _ _ v _ _ _ _ => v
def Pr.args:Pr → List Vl | .mk _ _ _ _ a _ _ => a
def Pr.typ:Pr → Ty | .mk _ _ _ _ _ t _ => t
def Pr.kids:Pr → List Pr | .mk _ _ _ _ _ _ ks => ks
theorem encT_f0 (t:Ty) (u:V):(encT t).cells.headD u = .int .i64 t.kind:=by cases t;rw [encT_mk];rfl
theorem encT_f1 (t:Ty) (u:V):((encT t).cells.drop 1).headD u = .int .i64 t.prio:=by cases t;rw [encT_mk];rfl
theorem encT_f2 (t:Ty) (u:V):((encT t).cells.drop 2).headD u = .str t.name:=by cases t;rw [encT_mk];rfl
theorem encT_f3 (t:Ty) (u:V):((encT t).cells.drop 3).headD u = .int .i64 t.shift:=by cases t;rw [encT_mk];rfl
theorem encT_f4 (t:Ty) (u:V):((encT t).cells.drop 4).headD u = .sl (t.labels.map .str) none:=by cases t;rw [encT_mk];rfl
theorem encT_f5 (t:Ty) (u:V):((encT t).cells.drop 5).headD u = .sl (t.kids.map encT) none:=by cases t;rw [encT_mk];rfl
theorem encP_f2 (p:Pr) (u:V):((encP p).cells.drop 2).headD u = .str p.var:=by cases p;rw [encP_mk];rfl
theorem encP_f4 (p:Pr) (u:V):((encP p).cells.drop 4).headD u = .sl (p.args.map encV) none:=by cases p;rw [encP_mk];rfl
theorem encP_f5 (p:Pr):((encP p).cells.drop 5).take 6 = (encT p.typ).cells:=by
  cases p;rw [encP_mk,c_agg];exact take_T _ _
theorem encP_f11 (p:Pr) (u:V):((encP p).cells.drop 11).headD u = .sl (p.kids.map encP) none:=by
  obtain ⟨k,c,v,l,a,t,ks⟩:=p
  rw [encP_mk,c_agg]
  have h:=drop_T t [.sl (ks.map encP) none]
  show (List.drop 6 ((encT t).cells ++ [.sl (ks.map encP) none])).headD u = _
  rw [h];rfl
theorem encT_dlen (p:Ty) (n:Nat):((encT p).cells.drop n).length = 6 - n:=by rw [List.length_drop,encT_len]
theorem encP_all (p:Pr):encP p = .agg (.int .i64 p.kind :: .str p.chan :: .str p.var :: .sl (p.labels.map .str) none :: .sl (p.args.map encV) none :: ((encT p.typ).cells ++ [.sl (p.kids.map encP) none])):=by cases p;rw [encP_mk];rfl
theorem encT_all (t:Ty):encT t = .agg [.int .i64 t.kind,.int .i64 t.prio,.str t.name,.int .i64 t.shift,.sl (t.labels.map .str) none,.sl (t.kids.map encT) none]:=by cases t;rw [encT_mk];rfl
theorem encP_cells' (p:Pr):(encP p).cells = .int .i64 p.kind :: .str p.chan :: .str p.var :: .sl (p.labels.map .str) none :: .sl (p.args.map encV) none :: ((encT p.typ).cells ++ [.sl (p.kids.map encP) none]):=by rw [encP_all];rfl
theorem encT_cells' (t:Ty):(encT t).cells = [.int .i64 t.kind,.int .i64 t.prio,.str t.name,.int .i64 t.shift,.sl (t.labels.map .str) none,.sl (t.kids.map encT) none]:=by rw [encT_all];rfl
theorem fieldE_T (P:Program) (t:TypeId) (f:Nat) (x:Ty):fieldE P t f (encT x) = match fld P t f with | none => none | some (off,n,g) => if off + n ≤ 6 then some (pack g n ((encT x).cells.drop off)) else none:=by
  rw [← encT_cells x];unfold fieldE;simp only [c_agg,encT_len];cases fld P t f <;> rfl
theorem fieldE_P (P:Program) (t:TypeId) (f:Nat) (x:Pr):fieldE P t f (encP x) = match fld P t f with | none => none | some (off,n,g) => if off + n ≤ 12 then some (pack g n ((encP x).cells.drop off)) else none:=by
  rw [← encP_cells x];unfold fieldE;simp only [c_agg,encP_len];cases fld P t f <;> rfl
theorem fieldE_V (P:Program) (t:TypeId) (f:Nat) (x:Vl):fieldE P t f (encV x) = match fld P t f with | none => none | some (off,n,g) => if off + n ≤ 3 then some (pack g n ((encV x).cells.drop off)) else none:=by
  unfold encV fieldE;simp only [c_agg,List.length_cons,List.length_nil];rfl
theorem encV_len (v:Vl):(encV v).cells.length = 3:=rfl
theorem encV_one (v:Vl):(encV v).cells.all V.one = true:=rfl
theorem encV_pureB (v:Vl):(encV v).cells.all pureB = true:=rfl
theorem encV_bare (v:Vl):(encV v).bare = encV v:=rfl
theorem encV_fold (v:Vl):V.agg [.int .i64 v.kind,.str v.name,.int .i64 v.n] = encV v:=rfl
theorem encV_take (v:Vl) (l:List V):((encV v).cells ++ l).take 3 = (encV v).cells:=by rw [encV_cells];rfl
theorem encV_at (l:List Vl) (i:Nat) (h:i < (l.map encV).length):(l.map encV)[i] = encV (l[i]'(by simpa using h)):=List.getElem_map ..
theorem str_at (l:List Str) (i:Nat) (h:i < (l.map V.str).length):(l.map V.str)[i] = V.str (l[i]'(by simpa using h)):=List.getElem_map ..
theorem encT_trim (t:Ty) (k:Nat):(encT t).trim k = encT t:=by cases t;rw [encT_mk];rfl
theorem encT_trimL (t:Ty) (k:Nat):(encT t).cells.map (V.trim k) = (encT t).cells:=by cases t;rw [encT_mk];rfl
theorem encP_trimL (p:Pr) (k:Nat):(encP p).cells.map (V.trim k) = (encP p).cells:=by
  rw [encP_cells',List.map_cons,List.map_cons,List.map_cons,List.map_cons,List.map_cons,List.map_append,encT_trimL];rfl
theorem trimL_map (k:Nat) (l:List V):V.trim.trimL k l = l.map (V.trim k):=by
  induction l with
  | nil => rfl
  | cons x l ih => rw [V.trim.trimL,ih];rfl
theorem encP_trim (p:Pr) (k:Nat):(encP p).trim k = encP p:=by
  rw [← encP_cells p];show V.agg (V.trim.trimL k (encP p).cells) = _;rw [trimL_map,encP_trimL]
structure Pm where
  name:Str
  t:Ty
structure Df where
  name:Str
  params:List Pm
  body:Pr
structure Pg where
  defs:List Df
  main:Pr
def encPm (x:Pm):V:=.agg (.str x.name :: (encT x.t).cells)
def encDf (d:Df):V:=.agg (.str d.name :: .sl (d.params.map encPm) none :: (encP d.body).cells)
def encPg (p:Pg):V:=.agg (.sl (p.defs.map encDf) none :: (encP p.main).cells)
theorem encPm_cells (x:Pm):(encPm x).cells = .str x.name :: (encT x.t).cells:=rfl
theorem encDf_cells (x:Df):(encDf x).cells = .str x.name :: .sl (x.params.map encPm) none :: (encP x.body).cells:=rfl
theorem encPg_cells (p:Pg):(encPg p).cells = .sl (p.defs.map encDf) none :: (encP p.main).cells:=rfl
theorem encPm_at (l:List Pm) (i:Nat) (h:i < (l.map encPm).length):(l.map encPm)[i] = encPm (l[i]'(by simpa using h)):=List.getElem_map ..
theorem encDf_at (l:List Df) (i:Nat) (h:i < (l.map encDf).length):(l.map encDf)[i] = encDf (l[i]'(by simpa using h)):=List.getElem_map ..
theorem encPm_agg (x:Pm):V.agg (.str x.name :: (encT x.t).cells) = encPm x:=rfl
theorem encDf_agg (x:Df):V.agg (.str x.name :: .sl (x.params.map encPm) none :: (encP x.body).cells) = encDf x:=rfl
theorem fieldE_Pg (P:Program) (t:TypeId) (f:Nat) (x:Pg):fieldE P t f (encPg x) = match fld P t f with | none => none | some (off,n,g) => if off + n ≤ 13 then some (pack g n ((encPg x).cells.drop off)) else none:=by
  unfold encPg fieldE;simp only [c_agg,List.length_cons,encP_len];cases fld P t f <;> rfl
theorem fieldE_Df (P:Program) (t:TypeId) (f:Nat) (x:Df):fieldE P t f (encDf x) = match fld P t f with | none => none | some (off,n,g) => if off + n ≤ 14 then some (pack g n ((encDf x).cells.drop off)) else none:=by
  unfold encDf fieldE;simp only [c_agg,List.length_cons,encP_len];cases fld P t f <;> rfl
theorem encPg_trimL (p:Pg) (k:Nat):(encPg p).cells.map (V.trim k) = (encPg p).cells:=by rw [encPg_cells,List.map_cons,encP_trimL];rfl
theorem encDf_trimL (p:Df) (k:Nat):(encDf p).cells.map (V.trim k) = (encDf p).cells:=by rw [encDf_cells,List.map_cons,List.map_cons,encP_trimL];rfl
theorem encPm_trimL (p:Pm) (k:Nat):(encPm p).cells.map (V.trim k) = (encPm p).cells:=by rw [encPm_cells,List.map_cons,encT_trimL];rfl
theorem Ty.ind' {p:Ty → Prop} (h:∀ t:Ty,(∀ u ∈ t.kids,p u) → p t) (t:Ty):p t:=Ty.ind (fun k pr n s l ks ih => h _ ih) t
theorem Pr.ind' {p:Pr → Prop} (h:∀ t:Pr,(∀ u ∈ t.kids,p u) → p t) (t:Pr):p t:=Pr.ind (fun k c v l a t ks ih => h _ ih) t
mutual
def Ty.sz:Ty → Nat
  | .mk _ _ _ _ _ ks => 1 + Ty.szs ks
def Ty.szs:List Ty → Nat
  | [] => 0
  | t :: ts => t.sz + Ty.szs ts
end
mutual
def Ty.dp:Ty → Nat
  | .mk _ _ _ _ _ ks => Ty.dps ks + 1
def Ty.dps:List Ty → Nat
  | [] => 0
  | t :: ts => max t.dp (Ty.dps ts)
end
mutual
def Pr.sz:Pr → Nat
  | .mk _ _ _ _ _ _ ks => 1 + Pr.szs ks
def Pr.szs:List Pr → Nat
  | [] => 0
  | t :: ts => t.sz + Pr.szs ts
end
mutual
def Pr.dp:Pr → Nat
  | .mk _ _ _ _ _ _ ks => Pr.dps ks + 1
def Pr.dps:List Pr → Nat
  | [] => 0
  | t :: ts => max t.dp (Pr.dps ts)
end
mutual
def Pr.tz:Pr → Nat
  | .mk k _ _ _ _ t ks => (if k = 6 then t.sz else 0) + Pr.tzs ks
def Pr.tzs:List Pr → Nat
  | [] => 0
  | t :: ts => t.tz + Pr.tzs ts
end
theorem Ty.sz_eq (t:Ty):t.sz = 1 + Ty.szs t.kids:=by cases t;rw [Ty.sz];rfl
theorem Ty.dp_eq (t:Ty):t.dp = Ty.dps t.kids + 1:=by cases t;rw [Ty.dp];rfl
theorem Pr.sz_eq (t:Pr):t.sz = 1 + Pr.szs t.kids:=by cases t;rw [Pr.sz];rfl
theorem Pr.dp_eq (t:Pr):t.dp = Pr.dps t.kids + 1:=by cases t;rw [Pr.dp];rfl
theorem Pr.tz_eq (t:Pr):t.tz = (if t.kind = 6 then t.typ.sz else 0) + Pr.tzs t.kids:=by cases t;rw [Pr.tz];rfl
section
theorem take_snoc {α:Type} {l:List α} {i:Nat} (h:i < l.length):l.take (i + 1) = l.take i ++ [l[i]]:=by rw [List.take_succ,List.getElem?_eq_getElem h];rfl
theorem Ty.szs_app (a b:List Ty):Ty.szs (a ++ b) = Ty.szs a + Ty.szs b:=by induction a with | nil => simp [Ty.szs] | cons x a ih => rw [List.cons_append,Ty.szs,Ty.szs,ih];omega
theorem Ty.dps_app (a b:List Ty):Ty.dps (a ++ b) = max (Ty.dps a) (Ty.dps b):=by induction a with | nil => simp [Ty.dps] | cons x a ih => rw [List.cons_append,Ty.dps,Ty.dps,ih];omega
theorem Pr.szs_app (a b:List Pr):Pr.szs (a ++ b) = Pr.szs a + Pr.szs b:=by induction a with | nil => simp [Pr.szs] | cons x a ih => rw [List.cons_append,Pr.szs,Pr.szs,ih];omega
theorem Pr.dps_app (a b:List Pr):Pr.dps (a ++ b) = max (Pr.dps a) (Pr.dps b):=by induction a with | nil => simp [Pr.dps] | cons x a ih => rw [List.cons_append,Pr.dps,Pr.dps,ih];omega
theorem Pr.tzs_app (a b:List Pr):Pr.tzs (a ++ b) = Pr.tzs a + Pr.tzs b:=by induction a with | nil => simp [Pr.tzs] | cons x a ih => rw [List.cons_append,Pr.tzs,Pr.tzs,ih];omega
theorem Ty.szs_take {l:List Ty} {i:Nat} (h:i < l.length):Ty.szs (l.take (i + 1)) = Ty.szs (l.take i) + l[i].sz:=by rw [take_snoc h,Ty.szs_app];simp [Ty.szs]
theorem Ty.dps_take {l:List Ty} {i:Nat} (h:i < l.length):Ty.dps (l.take (i + 1)) = max (Ty.dps (l.take i)) l[i].dp:=by rw [take_snoc h,Ty.dps_app];simp [Ty.dps]
theorem Pr.szs_take {l:List Pr} {i:Nat} (h:i < l.length):Pr.szs (l.take (i + 1)) = Pr.szs (l.take i) + l[i].sz:=by rw [take_snoc h,Pr.szs_app];simp [Pr.szs]
theorem Pr.dps_take {l:List Pr} {i:Nat} (h:i < l.length):Pr.dps (l.take (i + 1)) = max (Pr.dps (l.take i)) l[i].dp:=by rw [take_snoc h,Pr.dps_app];simp [Pr.dps]
theorem Pr.tzs_take {l:List Pr} {i:Nat} (h:i < l.length):Pr.tzs (l.take (i + 1)) = Pr.tzs (l.take i) + l[i].tz:=by rw [take_snoc h,Pr.tzs_app];simp [Pr.tzs]
theorem Ty.szs_le {l:List Ty} (i:Nat):Ty.szs (l.take i) ≤ Ty.szs l:=by have h:=Ty.szs_app (l.take i) (l.drop i);rw [List.take_append_drop] at h;omega
theorem Pr.szs_le {l:List Pr} (i:Nat):Pr.szs (l.take i) ≤ Pr.szs l:=by have h:=Pr.szs_app (l.take i) (l.drop i);rw [List.take_append_drop] at h;omega
theorem Pr.tzs_le {l:List Pr} (i:Nat):Pr.tzs (l.take i) ≤ Pr.tzs l:=by have h:=Pr.tzs_app (l.take i) (l.drop i);rw [List.take_append_drop] at h;omega
theorem Ty.szs_mem {l:List Ty} {t:Ty} (h:t ∈ l):t.sz ≤ Ty.szs l:=by
  obtain ⟨i,hi,rfl⟩:=List.mem_iff_getElem.1 h
  have h1:=Ty.szs_take hi;have h2:=Ty.szs_le (l:=l) (i + 1);omega
theorem Pr.szs_mem {l:List Pr} {t:Pr} (h:t ∈ l):t.sz ≤ Pr.szs l:=by
  obtain ⟨i,hi,rfl⟩:=List.mem_iff_getElem.1 h
  have h1:=Pr.szs_take hi;have h2:=Pr.szs_le (l:=l) (i + 1);omega
theorem Pr.tzs_mem {l:List Pr} {t:Pr} (h:t ∈ l):t.tz ≤ Pr.tzs l:=by
  obtain ⟨i,hi,rfl⟩:=List.mem_iff_getElem.1 h
  have h1:=Pr.tzs_take hi;have h2:=Pr.tzs_le (l:=l) (i + 1);omega
theorem Ty.dps_mem {l:List Ty} {t:Ty} (h:t ∈ l):t.dp ≤ Ty.dps l:=by
  obtain ⟨i,hi,rfl⟩:=List.mem_iff_getElem.1 h
  have h1:=Ty.dps_take hi
  have h2:Ty.dps (l.take (i + 1)) ≤ Ty.dps l:=by
    conv => rhs;rw [← List.take_append_drop (i + 1) l,Ty.dps_app]
    omega
  omega
theorem Pr.dps_mem {l:List Pr} {t:Pr} (h:t ∈ l):t.dp ≤ Pr.dps l:=by
  obtain ⟨i,hi,rfl⟩:=List.mem_iff_getElem.1 h
  have h1:=Pr.dps_take hi
  have h2:Pr.dps (l.take (i + 1)) ≤ Pr.dps l:=by
    conv => rhs;rw [← List.take_append_drop (i + 1) l,Pr.dps_app]
    omega
  omega
theorem Ty.szs_len (l:List Ty):l.length ≤ Ty.szs l:=by induction l with | nil => simp | cons t l ih => rw [Ty.szs,List.length_cons,Ty.sz_eq];omega
theorem Pr.szs_len (l:List Pr):l.length ≤ Pr.szs l:=by induction l with | nil => simp | cons t l ih => rw [Pr.szs,List.length_cons,Pr.sz_eq];omega
theorem Ty.dp_le:∀ t:Ty,t.dp ≤ t.sz:=Ty.ind' fun t ih => by
  rw [Ty.dp_eq,Ty.sz_eq]
  have:∀ l:List Ty,(∀ u ∈ l,u.dp ≤ u.sz) → Ty.dps l ≤ Ty.szs l:=by
    intro l;induction l with
    | nil => intro _;simp [Ty.dps]
    | cons u l ihl => intro h;rw [Ty.dps,Ty.szs];have h1:=h u (List.mem_cons_self ..);have h2:=ihl fun v hv => h v (List.mem_cons_of_mem _ hv);omega
  have:=this t.kids ih;omega
theorem Pr.dp_le:∀ t:Pr,t.dp ≤ t.sz:=Pr.ind' fun t ih => by
  rw [Pr.dp_eq,Pr.sz_eq]
  have:∀ l:List Pr,(∀ u ∈ l,u.dp ≤ u.sz) → Pr.dps l ≤ Pr.szs l:=by
    intro l;induction l with
    | nil => intro _;simp [Pr.dps]
    | cons u l ihl => intro h;rw [Pr.dps,Pr.szs];have h1:=h u (List.mem_cons_self ..);have h2:=ihl fun v hv => h v (List.mem_cons_of_mem _ hv);omega
  have:=this t.kids ih;omega
end
mutual
def leftT:Ty → Int → Int
  | .mk _ _ _ _ _ ks,m => leftTs ks (m - 1)
def leftTs:List Ty → Int → Int
  | [],m => m
  | t :: ts,m => if 0 ≤ m then leftTs ts (leftT t m) else m
end
theorem leftT_eq (t:Ty) (m:Int):leftT t m = leftTs t.kids (m - 1):=by cases t;rw [leftT];rfl
theorem leftT_spec:∀ t:Ty,∀ m:Int,0 ≤ m → -1 ≤ leftT t m ∧ leftT t m < m ∧ (0 ≤ leftT t m → leftT t m = m - t.sz):=Ty.ind' fun t ih m hm => by
  rw [leftT_eq,Ty.sz_eq]
  have key:∀ l:List Ty,(∀ u ∈ l,∀ m:Int,0 ≤ m → -1 ≤ leftT u m ∧ leftT u m < m ∧ (0 ≤ leftT u m → leftT u m = m - u.sz)) → ∀ m:Int,-1 ≤ m → -1 ≤ leftTs l m ∧ leftTs l m ≤ m ∧ (0 ≤ leftTs l m → leftTs l m = m - Ty.szs l):=by
    intro l;induction l with
    | nil => intro _ m hm;simp only [leftTs,Ty.szs];omega
    | cons u l ihl =>
      intro h m hm
      rw [leftTs,Ty.szs]
      split
      · rename_i h0
        have h1:=h u (List.mem_cons_self ..) m h0
        have h2:=ihl (fun v hv => h v (List.mem_cons_of_mem _ hv)) (leftT u m) h1.1
        refine ⟨h2.1,by omega,fun h3 => ?_⟩
        have h4:=h2.2.2 h3
        have h5:0 ≤ leftT u m:=by omega
        have h6:=h1.2.2 h5
        omega
      · omega
  have h:=key t.kids ih (m - 1) (by omega)
  refine ⟨h.1,by omega,fun h3 => ?_⟩
  have h4:=h.2.2 h3
  omega
def fewTy (t:Ty) (m:Int):Bool:=decide (0 ≤ leftT t m) && decide (t.dp ≤ 150)
attribute [go_sem] encT_trim encT_trimL encP_trim encP_trimL encPg_trimL encDf_trimL encPm_trimL encT_f0 encT_f1 encT_f2 encT_f3 encT_f4 encT_f5 encP_f2 encP_f4 encP_f5 encP_f11 encT_dlen encV_len encV_one encV_pureB encV_bare encV_fold encV_take encV_at str_at encPm_cells encDf_cells encPm_at encDf_at encPm_agg encDf_agg encV_cells encPg_cells
attribute [go_sem high] fieldE_T fieldE_P fieldE_V fieldE_Pg fieldE_Df
end Go.Duo

namespace Go.Duo
open Go
def firstE:List Int → Int
  | [] => 0
  | e :: r => if e = 0 then firstE r else e
theorem firstE_zero:∀ l:List Int,firstE l = 0 ↔ ∀ e ∈ l,e = 0:=by
  intro l;induction l with
  | nil => simp [firstE]
  | cons e l ih => rw [firstE];by_cases h:e = 0 <;> simp [h,ih]
theorem firstE_at {α:Type} {f:α → Int} {l:List α} {i:Nat} (hi:i < l.length) (h:∀ (j:Nat) (hj:j < i),f (l[j]'(by omega)) = 0) (he:¬ f l[i] = 0):firstE (l.map f) = f l[i]:=by
  induction l generalizing i with
  | nil => simp at hi
  | cons a l ih =>
    rw [List.map_cons,firstE]
    cases i with
    | zero => exact if_neg he
    | succ i =>
      rw [if_pos (show f a = 0 from h 0 (by omega))]
      exact ih (by simpa using hi) (fun j hj => h (j + 1) (by omega)) he
theorem firstE_all {α:Type} {f:α → Int} {l:List α} {i:Nat} (hi:l.length ≤ i) (h:∀ (j:Nat) (hj:j < l.length),j < i → f l[j] = 0):firstE (l.map f) = 0:=by
  rw [firstE_zero]
  intro e he
  obtain ⟨x,hx,rfl⟩:=List.mem_map.1 he
  obtain ⟨j,hj,rfl⟩:=List.mem_iff_getElem.1 hx
  exact h j hj (by omega)
def labelsB (l:List Str):Bool:=decide (∀ (j:Nat) (hj:j < l.length),nameB l[j] = true ∧ l[j] ∉ l.take j)
theorem labelsB_no1 {l:List Str} {i:Nat} (h:i < l.length) (hn:nameB l[i] = false):labelsB l = false:=by
  unfold labelsB;rw [decide_eq_false];intro hh;have:=(hh i h).1;rw [hn] at this;cases this
theorem labelsB_no2 {l:List Str} {i:Nat} (h:i < l.length) (hn:l[i] ∈ l.take i):labelsB l = false:=by
  unfold labelsB;rw [decide_eq_false];intro hh;exact (hh i h).2 hn
theorem labelsB_yes {l:List Str} {i:Nat} (hi:l.length ≤ i) (h:∀ (j:Nat) (hj:j < l.length),j < i → nameB l[j] = true ∧ l[j] ∉ l.take j):labelsB l = true:=by
  unfold labelsB;rw [decide_eq_true];intro j hj;exact h j hj (by omega)
def prioB (n:Int):Bool:=decide (0 ≤ n) && decide (n ≤ 1000000)
def shapeB (t:Ty):Bool :=
  if t.kind = 1 ∨ t.kind = 2 ∨ t.kind = 3 then decide (t.prio = 0) && (decide (t.name = []) && (decide (t.shift = 0) && (decide (t.labels.length = 0) && decide (t.kids.length = 0))))
  else if t.kind = 4 ∨ t.kind = 5 then prioB t.prio && (decide (t.name = []) && (decide (t.shift = 0) && (decide (t.labels.length = 0) && decide (t.kids.length = 2))))
  else if t.kind = 6 ∨ t.kind = 7 then prioB t.prio && (decide (t.name = []) && (decide (t.shift = 0) && (decide (0 < t.labels.length) && (labelsB t.labels && decide (t.kids.length = t.labels.length)))))
  else if t.kind = 8 then decide (t.prio = 0) && (nameB t.name && (decide (t.shift = 0) && (decide (t.labels.length = 0) && decide (t.kids.length = 1))))
  else if t.kind = 9 then decide (t.prio = 0) && (nameB t.name && (prioB t.shift && (decide (t.labels.length = 0) && decide (t.kids.length = 0))))
  else false
def sessB (t:Ty):Bool:=decide (t.kind ≠ 1) && decide (t.kind ≠ 2)
def varE (names:List Str) (n:Str) (g:Nat):Nat → Int
  | 0 => 4
  | j + 1 => if names[j]? = some n then (if j < g then 0 else 3) else varE names n g j
mutual
def nodeT:Ty → List Str → Nat → Bool → Int
  | .mk k p n s l ks,names,g,se =>
    if shapeB (.mk k p n s l ks) = false ∨ (se = true ∧ sessB (.mk k p n s l ks) = false) then 3
    else if k = 9 then varE names n g names.length
    else if k = 8 then nodeT1 ks (names ++ [n]) g
    else nodeTs ks names (decide (5 < k))
def nodeT1:List Ty → List Str → Nat → Int
  | [],_,_ => 0
  | t :: _,names,g => nodeT t names g true
def nodeTs:List Ty → List Str → Bool → Int
  | [],_,_ => 0
  | t :: ts,names,b => if nodeT t names names.length b = 0 then nodeTs ts names true else nodeT t names names.length b
end
theorem nodeT_eq (t:Ty) (names:List Str) (g:Nat) (se:Bool):nodeT t names g se = if shapeB t = false ∨ (se = true ∧ sessB t = false) then 3
    else if t.kind = 9 then varE names t.name g names.length else if t.kind = 8 then nodeT1 t.kids (names ++ [t.name]) g else nodeTs t.kids names (decide (5 < t.kind)):=by
  cases t;rw [nodeT];rfl
theorem nodeTs_at {l:List Ty} {names:List Str} {b:Bool} {i:Nat} (h:i < l.length):nodeTs (l.drop i) names b = if nodeT l[i] names names.length b = 0 then nodeTs (l.drop (i + 1)) names true else nodeT l[i] names names.length b:=by
  rw [List.drop_eq_getElem_cons h,nodeTs]
theorem nodeTs_end {l:List Ty} {names:List Str} {b:Bool} {i:Nat} (h:l.length ≤ i):nodeTs (l.drop i) names b = 0:=by
  rw [List.drop_eq_nil_of_le h,nodeTs]
def rightT (t:Ty):Int:=if 100 < t.dp ∨ 10000 < t.sz then 2 else nodeT t [] 0 false
def valueB (v:Vl):Bool:=(decide (v.kind = 1) && (nameB v.name && decide (v.n = 0))) || (decide (v.kind = 2) && decide (v.name = [])) || (decide (v.kind = 3) && (decide (v.name = []) && (decide (v.n = 0) || decide (v.n = 1))))
def Ty.zero:Ty:=.mk 0 0 [] 0 [] []
def plainB (p:Pr):Bool:=sameT p.typ Ty.zero
def nodeB (p:Pr):Bool:=p.args.all valueB &&
  if p.kind = 1 then decide (p.chan = []) && (decide (p.var = []) && (decide (p.args.length = 0) && (decide (p.labels.length = 0) && (decide (p.kids.length = 0) && plainB p))))
  else if p.kind = 2 then nameB p.chan && (decide (p.var = []) && (decide (p.args.length = 1) && (decide (p.labels.length = 0) && (decide (p.kids.length = 1) && plainB p))))
  else if p.kind = 3 then nameB p.chan && (nameB p.var && (decide (p.args.length = 0) && (decide (p.labels.length = 0) && (decide (p.kids.length = 1) && plainB p))))
  else if p.kind = 4 then nameB p.chan && (decide (p.var = []) && (decide (p.args.length = 0) && (decide (p.labels.length = 1) && (nameB (p.labels.headD []) && (decide (p.kids.length = 1) && plainB p)))))
  else if p.kind = 5 then nameB p.chan && (decide (p.var = []) && (decide (p.args.length = 0) && (decide (0 < p.labels.length) && (labelsB p.labels && (decide (p.kids.length = p.labels.length) && plainB p)))))
  else if p.kind = 6 then nameB p.chan && (nameB p.var && (decide (p.chan ≠ p.var) && (decide (p.args.length = 0) && (decide (p.labels.length = 0) && (decide (p.kids.length = 1) && (decide (rightT p.typ = 0) && sessB p.typ))))))
  else if p.kind = 7 then p.kids.all (fun q => decide (q.kind ≠ 7)) && (decide (p.chan = []) && (decide (p.var = []) && (decide (p.args.length = 0) && (decide (p.labels.length = 0) && (decide (2 ≤ p.kids.length) && plainB p)))))
  else if p.kind = 8 then nameB p.chan && (decide (p.var = []) && (decide (p.labels.length = 0) && (decide (p.kids.length = 0) && plainB p)))
  else false
mutual
def nodesB:Pr → Bool
  | .mk k c v l a t ks => nodeB (.mk k c v l a t ks) && nodesBs ks
def nodesBs:List Pr → Bool
  | [] => true
  | p :: ps => nodesB p && nodesBs ps
end
theorem nodesB_eq (p:Pr):nodesB p = (nodeB p && nodesBs p.kids):=by cases p;rw [nodesB];rfl
theorem nodesBs_eq (l:List Pr):nodesBs l = l.all nodesB:=by induction l with | nil => rfl | cons p l ih => rw [nodesBs,List.all_cons,ih]
def rightP (p:Pr):Int:=if 100 < p.dp ∨ 10000 < p.sz then 2 else if nodesB p = true then 0 else 3
def Df.pz (d:Df):Nat:=(d.params.map fun x => x.t.sz).sum
def Pg.total (p:Pg):Nat:=p.main.sz + p.main.tz + (p.defs.map fun d => d.body.sz + d.body.tz + d.pz).sum
def paramE (x:Pm):Bool:=nameB x.name && decide (rightT x.t = 0)
def defE (d:Df):Bool:=nameB d.name && d.params.all paramE
def progE (p:Pg):Int:=if 10000 < p.total then 2 else
  if firstE (p.defs.map fun d => rightP d.body) ≠ 0 then firstE (p.defs.map fun d => rightP d.body)
  else if rightP p.main ≠ 0 then rightP p.main else if p.defs.all defE = true then 0 else 3
mutual
def leftPr:Pr → Int → Int
  | .mk _ _ _ _ _ t ks,m => if fewTy t 300 = true then leftPrs ks (m - 1) else -1
def leftPrs:List Pr → Int → Int
  | [],m => m
  | t :: ts,m => if 0 ≤ m then leftPrs ts (leftPr t m) else m
end
theorem leftPr_eq (p:Pr) (m:Int):leftPr p m = if fewTy p.typ 300 = true then leftPrs p.kids (m - 1) else -1:=by cases p;rw [leftPr];rfl
def fewPr (p:Pr) (m:Int):Bool:=decide (0 ≤ leftPr p m) && decide (p.dp ≤ 150)
def littleB (p:Pg) (m:Int):Bool:=decide (p.defs.length ≤ 20) && (fewPr p.main m && p.defs.all fun d => fewPr d.body m && (decide (d.params.length ≤ 20) && d.params.all fun x => fewTy x.t 300))
def findI (l:List Df) (s:Str):Int:=match l.findIdx? (fun d => decide (d.name = s)) with | some i => (i:Int) | none => -1
def innerL (p:Pr):List Str:=if p.kind = 3 then [p.var] else if p.kind = 6 then [p.chan,p.var] else []
def preK (k:Int):Bool:=decide (2 ≤ k) && decide (k ≤ 5)
def callE (w:Pg) (c:Str) (n:Nat) (g:Bool):Int :=
  match w.defs.findIdx? (fun d => decide (d.name = c)) with
  | none => 4
  | some i => match w.defs[i]? with
    | none => 4
    | some d => if d.params.length ≠ n then 6 else if g = false then 7 else 0
mutual
def nodeC (w:Pg):Pr → List Str → Bool → Int
  | .mk k c v l a t ks,sc,g =>
    if preK k = true ∧ c ∉ sc then 4
    else if (a.any fun x => decide (x.kind = 1) && decide (x.name ∉ sc)) = true then 4
    else if ((innerL (.mk k c v l a t ks)).any fun x => decide (x ∈ sc)) = true then 5
    else if k = 8 ∧ callE w c a.length g ≠ 0 then callE w c a.length g
    else nodeCs w ks (sc ++ innerL (.mk k c v l a t ks)) (g || preK k)
def nodeCs (w:Pg):List Pr → List Str → Bool → Int
  | [],_,_ => 0
  | p :: ps,sc,g => if nodeC w p sc g = 0 then nodeCs w ps sc g else nodeC w p sc g
end
theorem nodeC_eq (w:Pg) (p:Pr) (sc:List Str) (g:Bool):nodeC w p sc g = if preK p.kind = true ∧ p.chan ∉ sc then 4
    else if (p.args.any fun x => decide (x.kind = 1) && decide (x.name ∉ sc)) = true then 4
    else if ((innerL p).any fun x => decide (x ∈ sc)) = true then 5
    else if p.kind = 8 ∧ callE w p.chan p.args.length g ≠ 0 then callE w p.chan p.args.length g
    else nodeCs w p.kids (sc ++ innerL p) (g || preK p.kind):=by cases p;rw [nodeC];rfl
theorem nodeCs_eq (w:Pg) (l:List Pr) (sc:List Str) (g:Bool):nodeCs w l sc g = firstE (l.map fun p => nodeC w p sc g):=by
  induction l with
  | nil => rfl
  | cons p l ih => rw [nodeCs,List.map_cons,firstE,ih]
def firstN (n:Nat) (f:Nat → Bool):Option Nat:=(List.range n).find? f
def dupD (p:Pg) (i:Nat):Bool:=match p.defs[i]? with
  | none => false
  | some d => decide (findI p.defs d.name < i) || decide (¬ (d.params.map Pm.name).Nodup)
def bodyE (p:Pg) (i:Nat):Int:=match p.defs[i]? with
  | none => 0
  | some d => nodeC p d.body (d.params.map Pm.name) false
def checkL (p:Pg):Int × Int:=if progE p ≠ 0 then (progE p,0) else match firstN p.defs.length (dupD p) with
  | some i => (5,i)
  | none => match firstN p.defs.length (fun i => decide (bodyE p i ≠ 0)) with
    | some i => (bodyE p i,i)
    | none => (nodeC p p.main [] true,p.defs.length)
def rightPg (p:Pg) (m:Int):Bool:=littleB p m && decide ((checkL p).1 = 0)
theorem firstN_some {n i:Nat} {f:Nat → Bool} (hi:i < n) (h:∀ j,j < i → f j = false) (hf:f i = true):firstN n f = some i:=by
  unfold firstN
  rw [List.find?_eq_some_iff_append]
  refine ⟨hf,List.range i,(List.range' (i + 1) (n - i - 1)), ?_, ?_⟩
  · rw [List.range_eq_range',List.range_eq_range',← List.range'_succ]
    have h1:=List.range'_append (s:=0) (m:=i) (n:=n - i - 1 + 1) (step:=1)
    rw [Nat.zero_add,Nat.one_mul] at h1
    rw [h1];congr 1;omega
  · intro a ha;simp [h a (List.mem_range.1 ha)]
theorem firstN_none {n i:Nat} {f:Nat → Bool} (hi:n ≤ i) (h:∀ j,j < i → f j = false):firstN n f = none:=by
  unfold firstN
  rw [List.find?_eq_none]
  intro a ha;have:=List.mem_range.1 ha;simp [h a (by omega)]
end Go.Duo

namespace Go.Duo
open Go
section
variable {P:Program} {gl:Nat → V} {st:List O}
theorem late_S {e1:Env} {op:Op} {R:List O → Prop} {st':List O} (hs:stepE P nocall (e1.ev gl) st op = some (.undef,st')) (hR:R st') :
    ∃ st',step1 P gl (e1.ev gl) st op (fun v s2 => v = .undef ∧ s2 = st') ∧ R st':=⟨st',stepE_sound nocall_ok hs ⟨rfl,rfl⟩,hR⟩
theorem awS_S {ops:Array Oper} {e1:Env} {st' st2:List O} {ls:List Nat} {i d:Nat} {o:Oper} (ho0:ops.toList[i]? = some o) (hg:o.guard = none) (hd:o.dst = some d) (hc:calm o.op = true)
    (hs:stepE P nocall (e1.ev gl) st' o.op = some (e1.get d,st2)) (h2:awS P gl ops e1 st' ls):awS P gl ops e1 st' (i :: ls) :=
  awS_cons ho0 hg hd hc (fun K2 h => stepE_sound nocall_ok hs (h _ _ rfl)) h2
theorem Call.le {k:FuncId} {args args':List V} {K:V → List O → Prop} (hl:args.length = args'.length) (h:∀ (i:Nat) (c d:V),args[i]? = some c → args'[i]? = some d → V.le st c d) (hc:Call P gl k args' st K):Call P gl k args st K:=fun w s xs hst hs hxs =>
  hc w s xs hst hs ⟨by rw [← hl];exact hxs.1,fun i d x hd hx => by
    have hi:i < args.length:=by rw [hl];exact (List.getElem?_eq_some_iff.1 hd).1
    exact h i args[i] d (List.getElem?_eq_getElem hi) hd w s x hst (hxs.2 i _ x (List.getElem?_eq_getElem hi) hx)⟩
end
end Go.Duo

namespace Go.Duo
open Go
section
variable {st:List O}
theorem V.leS {es es':List V} {t:Option Nat} (h:es = es'):V.le st (.sl es t) (.sl es' none):=h ▸ V.le_sl _ _ _
theorem V.le_aggL {cs ds:List V} (h:CLe st cs ds):V.le st (.agg cs) (.agg ds):=V.le_agg h.spec.1 h.spec.2
theorem Ty.dps_le {l:List Ty} (i:Nat):Ty.dps (l.take i) ≤ Ty.dps l:=by have h:=Ty.dps_app (l.take i) (l.drop i);rw [List.take_append_drop] at h;omega
theorem Pr.dps_le {l:List Pr} (i:Nat):Pr.dps (l.take i) ≤ Pr.dps l:=by have h:=Pr.dps_app (l.take i) (l.drop i);rw [List.take_append_drop] at h;omega
theorem max_if (a b:Nat):(if a < b then ((b:Nat):Int) else ((a:Nat):Int)) = ((max a b:Nat):Int):=by split <;> omega
theorem max_ifI (a b:Nat):(if (a:Int) < (b:Int) then ((b:Nat):Int) else ((a:Nat):Int)) = ((max a b:Nat):Int):=by split <;> omega
end
def inI (n:Int):Prop:=-9223372036854775808 ≤ n ∧ n ≤ 9223372036854775807
def inS (s:Str):Prop:=s.length ≤ 9223372036854775807
def inL {α:Type} (l:List α):Prop:=l.length ≤ 9223372036854775807
mutual
def okT:Ty → Prop
  | .mk k p n s l ks => inI k ∧ inI p ∧ inS n ∧ inI s ∧ (inL l ∧ ∀ x ∈ l,inS x) ∧ inL ks ∧ okTs ks
def okTs:List Ty → Prop
  | [] => True
  | t :: ts => okT t ∧ okTs ts
end
def okV (v:Vl):Prop:=inI v.kind ∧ inS v.name ∧ inI v.n
mutual
def okP:Pr → Prop
  | .mk k c v l a t ks => inI k ∧ inS c ∧ inS v ∧ (inL l ∧ ∀ x ∈ l,inS x) ∧ (inL a ∧ ∀ x ∈ a,okV x) ∧ okT t ∧ inL ks ∧ okPs ks
def okPs:List Pr → Prop
  | [] => True
  | t :: ts => okP t ∧ okPs ts
end
theorem okTs_iff (l:List Ty):okTs l ↔ ∀ t ∈ l,okT t:=by induction l with | nil => simp [okTs] | cons t l ih => simp [okTs,ih]
theorem okPs_iff (l:List Pr):okPs l ↔ ∀ t ∈ l,okP t:=by induction l with | nil => simp [okPs] | cons t l ih => simp [okPs,ih]
theorem okT_iff (t:Ty):okT t ↔ inI t.kind ∧ inI t.prio ∧ inS t.name ∧ inI t.shift ∧ (inL t.labels ∧ ∀ x ∈ t.labels,inS x) ∧ inL t.kids ∧ ∀ u ∈ t.kids,okT u:=by cases t;rw [okT,okTs_iff];rfl
theorem okP_iff (p:Pr):okP p ↔ inI p.kind ∧ inS p.chan ∧ inS p.var ∧ (inL p.labels ∧ ∀ x ∈ p.labels,inS x) ∧ (inL p.args ∧ ∀ x ∈ p.args,okV x) ∧ okT p.typ ∧ inL p.kids ∧ ∀ u ∈ p.kids,okP u:=by cases p;rw [okP,okPs_iff];rfl
theorem okT.kid {t u:Ty} (h:okT t) (hu:u ∈ t.kids):okT u:=((okT_iff t).1 h).2.2.2.2.2.2 u hu
theorem okP.kid {t u:Pr} (h:okP t) (hu:u ∈ t.kids):okP u:=((okP_iff t).1 h).2.2.2.2.2.2.2 u hu
theorem okP.typ {t:Pr} (h:okP t):okT t.typ:=((okP_iff t).1 h).2.2.2.2.2.1
theorem okT.name {t:Ty} (h:okT t):t.name.length ≤ 9223372036854775807:=((okT_iff t).1 h).2.2.1
theorem okT.labels {t:Ty} (h:okT t):t.labels.length ≤ 9223372036854775807 ∧ ∀ x ∈ t.labels,x.length ≤ 9223372036854775807:=((okT_iff t).1 h).2.2.2.2.1
theorem okP.chan {t:Pr} (h:okP t):t.chan.length ≤ 9223372036854775807:=((okP_iff t).1 h).2.1
theorem okP.var {t:Pr} (h:okP t):t.var.length ≤ 9223372036854775807:=((okP_iff t).1 h).2.2.1
theorem okP.labels {t:Pr} (h:okP t):t.labels.length ≤ 9223372036854775807 ∧ ∀ x ∈ t.labels,x.length ≤ 9223372036854775807:=((okP_iff t).1 h).2.2.2.1
theorem okP.args {t:Pr} (h:okP t):t.args.length ≤ 9223372036854775807 ∧ ∀ x ∈ t.args,okV x:=((okP_iff t).1 h).2.2.2.2.1
theorem okV.name {v:Vl} (h:okV v):v.name.length ≤ 9223372036854775807:=h.2.1
structure okPg (p:Pg):Prop where
  main:okP p.main
  len:inL p.defs
  defs:∀ d ∈ p.defs,inS d.name ∧ okP d.body ∧ inL d.params ∧ ∀ x ∈ d.params,inS x.name ∧ okT x.t
theorem leftTs_step {l:List Ty} {i:Nat} {a:Int} (h:i < l.length) (ha:0 ≤ a):leftTs (l.drop i) a = leftTs (l.drop (i + 1)) (leftT l[i] a):=by
  rw [List.drop_eq_getElem_cons h,leftTs,if_pos ha]
theorem leftTs_neg {l:List Ty} {a:Int} (ha:a < 0):leftTs l a = a:=by
  cases l with
  | nil => rfl
  | cons t l => rw [leftTs,if_neg (by omega)]
theorem leftTs_end {l:List Ty} {i:Nat} {a:Int} (h:l.length ≤ i):leftTs (l.drop i) a = a:=by rw [List.drop_eq_nil_of_le h,leftTs]
theorem leftPrs_step {l:List Pr} {i:Nat} {a:Int} (h:i < l.length) (ha:0 ≤ a):leftPrs (l.drop i) a = leftPrs (l.drop (i + 1)) (leftPr l[i] a):=by
  rw [List.drop_eq_getElem_cons h,leftPrs,if_pos ha]
theorem leftPrs_neg {l:List Pr} {a:Int} (ha:a < 0):leftPrs l a = a:=by
  cases l with
  | nil => rfl
  | cons t l => rw [leftPrs,if_neg (by omega)]
theorem leftPrs_end {l:List Pr} {i:Nat} {a:Int} (h:l.length ≤ i):leftPrs (l.drop i) a = a:=by rw [List.drop_eq_nil_of_le h,leftPrs]
theorem fewTy_sz {t:Ty} {m:Int} (hm:0 ≤ m) (h:0 ≤ leftT t m):(t.sz:Int) ≤ m:=by have h1:=(leftT_spec t m hm).2.2 h;omega
theorem leftPr_spec:∀ t:Pr,∀ m:Int,0 ≤ m → -1 ≤ leftPr t m ∧ leftPr t m < m ∧ (0 ≤ leftPr t m → leftPr t m = m - t.sz):=Pr.ind' fun t ih m hm => by
  rw [leftPr_eq,Pr.sz_eq]
  have key:∀ l:List Pr,(∀ u ∈ l,∀ m:Int,0 ≤ m → -1 ≤ leftPr u m ∧ leftPr u m < m ∧ (0 ≤ leftPr u m → leftPr u m = m - u.sz)) → ∀ m:Int,-1 ≤ m → -1 ≤ leftPrs l m ∧ leftPrs l m ≤ m ∧ (0 ≤ leftPrs l m → leftPrs l m = m - Pr.szs l):=by
    intro l;induction l with
    | nil => intro _ m hm;simp only [leftPrs,Pr.szs];omega
    | cons u l ihl =>
      intro h m hm
      rw [leftPrs,Pr.szs]
      split
      · rename_i h0
        have h1:=h u (List.mem_cons_self ..) m h0
        have h2:=ihl (fun v hv => h v (List.mem_cons_of_mem _ hv)) (leftPr u m) h1.1
        refine ⟨h2.1,by omega,fun h3 => ?_⟩
        have h4:=h2.2.2 h3
        have h5:0 ≤ leftPr u m:=by omega
        have h6:=h1.2.2 h5
        omega
      · omega
  split
  · have h:=key t.kids ih (m - 1) (by omega)
    refine ⟨h.1,by omega,fun h3 => ?_⟩
    have h4:=h.2.2 h3
    omega
  · refine ⟨by omega,by omega,fun h => by omega⟩
theorem fewPr_sz {t:Pr} {m:Int} (hm:0 ≤ m) (h:0 ≤ leftPr t m):(t.sz:Int) ≤ m:=by have h1:=(leftPr_spec t m hm).2.2 h;omega
mutual
def tyS:Pr → Prop
  | .mk _ _ _ _ _ t ks => t.sz ≤ 300 ∧ tySs ks
def tySs:List Pr → Prop
  | [] => True
  | t :: ts => tyS t ∧ tySs ts
end
theorem tySs_iff (l:List Pr):tySs l ↔ ∀ t ∈ l,tyS t:=by induction l with | nil => simp [tySs] | cons t l ih => simp [tySs,ih]
theorem tyS_iff (p:Pr):tyS p ↔ p.typ.sz ≤ 300 ∧ ∀ u ∈ p.kids,tyS u:=by cases p;rw [tyS,tySs_iff];rfl
theorem leftPrs_ge:∀ (l:List Pr) (m:Int),-1 ≤ m → leftPrs l m ≤ m:=by
  intro l;induction l with
  | nil => intro m _;rw [leftPrs];omega
  | cons u l ih =>
    intro m hm;rw [leftPrs];split
    · rename_i h0;have h1:=leftPr_spec u m h0;have:=ih (leftPr u m) h1.1;omega
    · omega
theorem leftPr_tyS:∀ t:Pr,∀ m:Int,0 ≤ m → 0 ≤ leftPr t m → tyS t:=Pr.ind' fun t ih m hm h => by
  rw [leftPr_eq] at h
  split at h
  · rename_i hf
    rw [tyS_iff]
    simp only [fewTy,Bool.and_eq_true,decide_eq_true_eq] at hf
    have h300:=fewTy_sz (m:=300) (by omega) hf.1
    refine ⟨by omega, ?_⟩
    have key:∀ l:List Pr,(∀ u ∈ l,∀ m:Int,0 ≤ m → 0 ≤ leftPr u m → tyS u) → ∀ m:Int,-1 ≤ m → 0 ≤ leftPrs l m → ∀ u ∈ l,tyS u:=by
      intro l;induction l with
      | nil => intro _ _ _ _ u hu;cases hu
      | cons v l ihl =>
        intro hl m hm h u hu
        rw [leftPrs] at h
        split at h
        · rename_i h0
          have h1:=leftPr_spec v m h0
          have h2:=leftPrs_ge l (leftPr v m) h1.1
          rcases List.mem_cons.1 hu with rfl | hu
          · exact hl _ (List.mem_cons_self ..) m h0 (by omega)
          · exact ihl (fun w hw => hl w (List.mem_cons_of_mem _ hw)) _ h1.1 h u hu
        · omega
    exact key t.kids ih (m - 1) (by omega) h
  · omega
section
variable {α:Type}
theorem gall_at {p:α → Bool} {l:List α} {i:Nat} (h:i < l.length):(l.drop i).all p = (p l[i] && (l.drop (i + 1)).all p):=by rw [List.drop_eq_getElem_cons h,List.all_cons]
theorem gall_yes {p:α → Bool} {l:List α} {i:Nat} {b:Bool} (hb:b = (l.drop i).all p) (h:i < l.length) (hp:p l[i] = true):b = (l.drop (i + 1)).all p:=by rw [hb,gall_at h,hp,Bool.true_and]
theorem gall_no {p:α → Bool} {l:List α} {i:Nat} {b:Bool} (hb:b = (l.drop i).all p) (h:i < l.length) (hp:p l[i] = false):b = false:=by rw [hb,gall_at h,hp,Bool.false_and]
theorem gall_end {p:α → Bool} {l:List α} {i:Nat} {b:Bool} (hb:b = (l.drop i).all p) (h:l.length ≤ i):b = true:=by rw [hb,List.drop_eq_nil_of_le h];rfl
def sumN (f:α → Nat) (l:List α):Nat:=(l.map f).sum
theorem sumN_app (f:α → Nat) (a b:List α):sumN f (a ++ b) = sumN f a + sumN f b:=by simp [sumN]
theorem sumN_nil (f:α → Nat):sumN f [] = 0:=rfl
theorem sumN_take {f:α → Nat} {l:List α} {i:Nat} (h:i < l.length):sumN f (l.take (i + 1)) = sumN f (l.take i) + f l[i]:=by rw [take_snoc h,sumN_app];simp [sumN]
theorem sumN_le (f:α → Nat) (l:List α) (i:Nat):sumN f (l.take i) ≤ sumN f l:=by have h:=sumN_app f (l.take i) (l.drop i);rw [List.take_append_drop] at h;omega
theorem sumN_bound {f:α → Nat} {c:Nat}:∀ {l:List α},(∀ x ∈ l,f x ≤ c) → sumN f l ≤ l.length * c:=by
  intro l;induction l with
  | nil => intro _;simp [sumN]
  | cons a l ih =>
    intro h
    have h1:=ih fun x hx => h x (List.mem_cons_of_mem _ hx)
    have h2:=h a (List.mem_cons_self ..)
    simp only [sumN,List.map_cons,List.sum_cons,List.length_cons] at h1 ⊢
    rw [Nat.succ_mul];omega
end
theorem hd_at {α:Type} {l:List α} {d:α} (h:0 < l.length):l.head?.getD d = l[0]:=by cases l with | nil => simp at h | cons a l => rfl
def Pm.sz (x:Pm):Nat:=x.t.sz
def Df.wz (d:Df):Nat:=d.body.sz + d.body.tz + sumN Pm.sz d.params
theorem Pg.total_eq (p:Pg):p.total = p.main.sz + p.main.tz + sumN Df.wz p.defs:=rfl
theorem tyS_tz:∀ t:Pr,tyS t → t.tz ≤ 300 * t.sz:=Pr.ind' fun t ih h => by
  rw [tyS_iff] at h
  rw [Pr.tz_eq,Pr.sz_eq]
  have key:∀ l:List Pr,(∀ u ∈ l,tyS u → u.tz ≤ 300 * u.sz) → (∀ u ∈ l,tyS u) → Pr.tzs l ≤ 300 * Pr.szs l:=by
    intro l;induction l with
    | nil => intro _ _;simp [Pr.tzs]
    | cons u l ihl =>
      intro h1 h2
      rw [Pr.tzs,Pr.szs]
      have:=h1 u (List.mem_cons_self ..) (h2 u (List.mem_cons_self ..))
      have:=ihl (fun v hv => h1 v (List.mem_cons_of_mem _ hv)) fun v hv => h2 v (List.mem_cons_of_mem _ hv)
      omega
  have:=key t.kids ih h.2
  split <;> omega
structure smPg (p:Pg):Prop where
  main:p.main.sz ≤ 1000 ∧ tyS p.main
  len:p.defs.length ≤ 20
  defs:∀ d ∈ p.defs,(d.body.sz ≤ 1000 ∧ tyS d.body) ∧ d.params.length ≤ 20 ∧ ∀ x ∈ d.params,x.t.sz ≤ 300
theorem smPg.wz {p:Pg} (h:smPg p) {d:Df} (hd:d ∈ p.defs):d.body.tz ≤ 300000 ∧ sumN Pm.sz d.params ≤ 6000 ∧ d.wz ≤ 307000:=by
  obtain ⟨h1,h2,h3⟩:=h.defs d hd
  have h4:=tyS_tz _ h1.2
  have h5:=sumN_bound (f:=Pm.sz) (c:=300) h3
  have h6:d.params.length * 300 ≤ 20 * 300:=Nat.mul_le_mul_right _ h2
  refine ⟨by omega,by omega, ?_⟩
  unfold Df.wz;omega
theorem smPg.tz {p:Pg} (h:smPg p):p.main.tz ≤ 300000 ∧ sumN Df.wz p.defs ≤ 6140000:=by
  have h4:=tyS_tz _ h.main.2
  have h5:=sumN_bound (f:=Df.wz) (c:=307000) fun d hd => (h.wz hd).2.2
  have h6:p.defs.length * 307000 ≤ 20 * 307000:=Nat.mul_le_mul_right _ h.len
  have h7:=h.main.1
  exact ⟨by omega,by omega⟩
theorem progE_big {p:Pg} (h:10000 < p.total):progE p = 2:=by unfold progE;rw [if_pos h]
theorem progE_body {p:Pg} (h:¬ 10000 < p.total) {i:Nat} (hi:i < p.defs.length) (hb:∀ (j:Nat) (hj:j < p.defs.length),j < i → rightP (p.defs[j]).body = 0) (he:¬ rightP (p.defs[i]).body = 0):progE p = rightP (p.defs[i]).body:=by
  have h1:=firstE_at (f:=fun d:Df => rightP d.body) hi (fun j hj => hb j (by omega) hj) he
  unfold progE;rw [if_neg h,h1,if_pos he]
theorem progE_main {p:Pg} (h:¬ 10000 < p.total) {i:Nat} (hi:p.defs.length ≤ i) (hb:∀ (j:Nat) (hj:j < p.defs.length),j < i → rightP (p.defs[j]).body = 0) (he:¬ rightP p.main = 0):progE p = rightP p.main:=by
  have h1:=firstE_all (f:=fun d:Df => rightP d.body) hi hb
  unfold progE;rw [if_neg h,h1,if_neg (by simp),if_pos he]
theorem progE_defs {p:Pg} (h:¬ 10000 < p.total) {i:Nat} (hi:p.defs.length ≤ i) (hb:∀ (j:Nat) (hj:j < p.defs.length),j < i → rightP (p.defs[j]).body = 0) (he:rightP p.main = 0):progE p = if p.defs.all defE = true then 0 else 3:=by
  have h1:=firstE_all (f:=fun d:Df => rightP d.body) hi hb
  unfold progE;rw [if_neg h,h1,if_neg (by simp),if_neg (by rw [he];simp)]
theorem defE_all (d:Df):defE d = (nameB d.name && d.params.all paramE):=rfl
theorem paramE_eq (x:Pm):paramE x = (nameB x.name && decide (rightT x.t = 0)):=rfl
def littleD (m:Int) (d:Df):Bool:=fewPr d.body m && (decide (d.params.length ≤ 20) && d.params.all fun x => fewTy x.t 300)
theorem littleB_eq (p:Pg) (m:Int):littleB p m = (decide (p.defs.length ≤ 20) && (fewPr p.main m && p.defs.all (littleD m))):=rfl
section
variable {α:Type}
theorem gany_at {p:α → Bool} {l:List α} {i:Nat} (h:i < l.length):(l.drop i).any p = (p l[i] || (l.drop (i + 1)).any p):=by rw [List.drop_eq_getElem_cons h,List.any_cons]
theorem gany_no {p:α → Bool} {l:List α} {i:Nat} {b:Bool} (hb:b = (l.drop i).any p) (h:i < l.length) (hp:p l[i] = false):b = (l.drop (i + 1)).any p:=by rw [hb,gany_at h,hp,Bool.false_or]
theorem gany_yes {p:α → Bool} {l:List α} {i:Nat} {b:Bool} (hb:b = (l.drop i).any p) (h:i < l.length) (hp:p l[i] = true):b = true:=by rw [hb,gany_at h,hp,Bool.true_or]
theorem gany_end {p:α → Bool} {l:List α} {i:Nat} {b:Bool} (hb:b = (l.drop i).any p) (h:l.length ≤ i):b = false:=by rw [hb,List.drop_eq_nil_of_le h];rfl
end
theorem findI_some {l:List Df} {s:Str} {i:Nat} (hi:i < l.length) (h:∀ (j:Nat) (hj:j < l.length),j < i → ¬ (l[j]).name = s) (he:(l[i]).name = s):findI l s = (i:Int):=by
  have:l.findIdx? (fun d => decide (d.name = s)) = some i:=by
    rw [List.findIdx?_eq_some_iff_getElem]
    exact ⟨hi,by simpa using he,fun j hj => by simpa using h j (by omega) hj⟩
  unfold findI;rw [this]
theorem findI_none {l:List Df} {s:Str} {i:Nat} (hi:l.length ≤ i) (h:∀ (j:Nat) (hj:j < l.length),j < i → ¬ (l[j]).name = s):findI l s = -1:=by
  have:l.findIdx? (fun d => decide (d.name = s)) = none:=by
    rw [List.findIdx?_eq_none_iff]
    intro x hx
    obtain ⟨j,hj,rfl⟩:=List.mem_iff_getElem.1 hx
    simpa using h j hj (by omega)
  unfold findI;rw [this]
theorem findI_cases (l:List Df) (s:Str):(findI l s = -1 ∧ l.findIdx? (fun d => decide (d.name = s)) = none) ∨ ∃ i:Nat,i < l.length ∧ findI l s = (i:Int) ∧ l.findIdx? (fun d => decide (d.name = s)) = some i:=by
  unfold findI
  cases h:l.findIdx? (fun d => decide (d.name = s)) with
  | none => exact .inl ⟨rfl,rfl⟩
  | some i => exact .inr ⟨i,(List.findIdx?_eq_some_iff_getElem.1 h).1,rfl,rfl⟩
theorem findI_lt (l:List Df) (s:Str):findI l s < l.length ∧ -1 ≤ findI l s:=by
  rcases findI_cases l s with ⟨h,_⟩ | ⟨i,h1,h2,_⟩ <;> omega
theorem callE_neg {w:Pg} {c:Str} {n:Nat} {g:Bool} (h:findI w.defs c < 0):callE w c n g = 4:=by
  rcases findI_cases w.defs c with ⟨_,h2⟩ | ⟨i,h1,h2,_⟩
  · unfold callE;rw [h2]
  · omega
theorem callE_pos {w:Pg} {c:Str} {n:Nat} {g:Bool} (h:0 ≤ findI w.defs c) (hl:(findI w.defs c).toNat < w.defs.length):callE w c n g = if (w.defs[(findI w.defs c).toNat]).params.length ≠ n then 6 else if g = false then 7 else 0:=by
  rcases findI_cases w.defs c with ⟨h1,_⟩ | ⟨i,h1,h2,h3⟩
  · omega
  · have h4:(findI w.defs c).toNat = i:=by omega
    unfold callE;rw [h3];simp only [List.getElem?_eq_getElem h1];simp only [h4]
theorem innerL_3 {t:Pr} (h:t.kind = 3):innerL t = [t.var]:=by unfold innerL;rw [if_pos h]
theorem innerL_6 {t:Pr} (h:t.kind = 6):innerL t = [t.chan,t.var]:=by unfold innerL;rw [if_neg (by omega),if_pos h]
theorem innerL_0 {t:Pr} (h:¬ t.kind = 3) (h2:¬ t.kind = 6):innerL t = []:=by unfold innerL;rw [if_neg h,if_neg h2]
theorem innerL_len (t:Pr):(innerL t).length ≤ 2:=by unfold innerL;split <;> (try split) <;> simp
theorem inn_no {sc inn l:List Str} (hin:inn = sc ++ l) {i:Nat} (hi:inn.length ≤ i) (h:∀ (k:Nat) (hk:k < inn.length),sc.length ≤ k → k < i → inn[k] ∉ sc):(l.any fun x => decide (x ∈ sc)) = false:=by
  subst hin
  rw [List.any_eq_false]
  intro x hx
  obtain ⟨j,hj,rfl⟩:=List.mem_iff_getElem.1 hx
  have h1:=h (sc.length + j) (by rw [List.length_append];omega) (by omega) (by rw [List.length_append] at hi;omega)
  rw [List.getElem_append_right (by omega)] at h1
  simpa using h1
theorem inn_yes {sc inn l:List Str} (hin:inn = sc ++ l) {i:Nat} (hs:sc.length ≤ i) (hi:i < inn.length) (h:inn[i] ∈ sc):(l.any fun x => decide (x ∈ sc)) = true:=by
  subst hin
  rw [List.any_eq_true]
  rw [List.getElem_append_right hs] at h
  exact ⟨_,List.getElem_mem _,by simpa using h⟩
theorem nodeC_k1 {w:Pg} {t:Pr} {sc:List Str} {g:Bool} (h:2 ≤ t.kind) (h2:t.kind ≤ 5) (h3:t.chan ∉ sc):nodeC w t sc g = 4:=by
  rw [nodeC_eq,if_pos ⟨by unfold preK;simp [h,h2],h3⟩]
def okC (t:Pr) (sc:List Str):Prop:=¬ (preK t.kind = true ∧ t.chan ∉ sc)
def argE (sc:List Str) (x:Vl):Bool:=decide (x.kind = 1) && decide (x.name ∉ sc)
theorem nodeC_eq2 (w:Pg) (p:Pr) (sc:List Str) (g:Bool):nodeC w p sc g = if preK p.kind = true ∧ p.chan ∉ sc then 4
    else if p.args.any (argE sc) = true then 4
    else if ((innerL p).any fun x => decide (x ∈ sc)) = true then 5
    else if p.kind = 8 ∧ callE w p.chan p.args.length g ≠ 0 then callE w p.chan p.args.length g
    else nodeCs w p.kids (sc ++ innerL p) (g || preK p.kind):=nodeC_eq w p sc g
theorem nodeC_k2 {w:Pg} {t:Pr} {sc:List Str} {g:Bool} (h:okC t sc) (h2:t.args.any (argE sc) = true):nodeC w t sc g = 4:=by
  rw [nodeC_eq2,if_neg h,if_pos h2]
theorem nodeC_k3 {w:Pg} {t:Pr} {sc:List Str} {g:Bool} (h:okC t sc) (h2:t.args.any (argE sc) = false) (h3:((innerL t).any fun x => decide (x ∈ sc)) = true):nodeC w t sc g = 5:=by
  rw [nodeC_eq2,if_neg h,if_neg (by rw [h2];simp),if_pos h3]
theorem nodeC_k4 {w:Pg} {t:Pr} {sc:List Str} {g:Bool} (h:okC t sc) (h2:t.args.any (argE sc) = false) (h3:((innerL t).any fun x => decide (x ∈ sc)) = false):nodeC w t sc g = if t.kind = 8 ∧ callE w t.chan t.args.length g ≠ 0 then callE w t.chan t.args.length g else firstE (t.kids.map fun p => nodeC w p (sc ++ innerL t) (g || preK t.kind)):=by
  rw [nodeC_eq2,if_neg h,if_neg (by rw [h2];simp),if_neg (by rw [h3];simp),nodeCs_eq]
theorem tfB {g:Bool} (h:g = true) (h2:g = false):False:=by rw [h] at h2;cases h2
theorem gpre_lo {g:Bool} {k:Int} (hg:g = false) (h:k < 2):(g || preK k) = false:=by subst hg;unfold preK;rw [decide_eq_false (by omega)];rfl
theorem gpre_mid {g:Bool} {k:Int} (hg:g = false) (h:2 ≤ k):(g || preK k) = decide (k ≤ 5):=by subst hg;unfold preK;rw [decide_eq_true h];rfl
theorem gpre_t {g:Bool} {k:Int} (hg:g = true):(g || preK k) = true:=by subst hg;rfl
theorem nodeC_kid {w:Pg} {t:Pr} {sc inn:List Str} {g X:Bool} {m:Nat} (h:okC t sc) (h2:t.args.any (argE sc) = false) (h3:((innerL t).any fun x => decide (x ∈ sc)) = false) (hin:inn = sc ++ innerL t) (h8:t.kind = 8 → callE w t.chan t.args.length g = 0)
    (hX:(g || preK t.kind) = X) (hm:m < t.kids.length) (hp:∀ (j:Nat) (hj:j < t.kids.length),j < m → nodeC w t.kids[j] inn (g || preK t.kind) = 0) (hb:¬ nodeC w t.kids[m] inn X = 0):nodeC w t sc g = nodeC w t.kids[m] inn X:=by
  subst hin hX
  rw [nodeC_k4 h h2 h3,if_neg (fun ⟨a,b⟩ => b (h8 a))]
  exact firstE_at (f:=fun p => nodeC w p (sc ++ innerL t) (g || preK t.kind)) hm (fun j hj => hp j (by omega) hj) hb
theorem nodeC_end {w:Pg} {t:Pr} {sc inn:List Str} {g:Bool} {m:Nat} (h:okC t sc) (h2:t.args.any (argE sc) = false) (h3:((innerL t).any fun x => decide (x ∈ sc)) = false) (hin:inn = sc ++ innerL t) (h8:t.kind = 8 → callE w t.chan t.args.length g = 0)
    (hm:t.kids.length ≤ m) (hp:∀ (j:Nat) (hj:j < t.kids.length),j < m → nodeC w t.kids[j] inn (g || preK t.kind) = 0):nodeC w t sc g = 0:=by
  subst hin
  rw [nodeC_k4 h h2 h3,if_neg (fun ⟨a,b⟩ => b (h8 a))]
  exact firstE_all (f:=fun p => nodeC w p (sc ++ innerL t) (g || preK t.kind)) hm hp
theorem sameT_eq (a b:Ty):sameT a b = (decide (a.kind = b.kind) && decide (a.prio = b.prio) && decide (a.name = b.name) && decide (a.shift = b.shift) && decide (a.labels = b.labels) && decide (a.kids.length = b.kids.length) && sameTs a.kids b.kids):=by
  cases a;cases b;rw [sameT];rfl
theorem sameTs_at {a b:List Ty} {i:Nat} (h:i < a.length) (h2:i < b.length):sameTs (a.drop i) (b.drop i) = (sameT a[i] b[i] && sameTs (a.drop (i + 1)) (b.drop (i + 1))):=by
  rw [List.drop_eq_getElem_cons h,List.drop_eq_getElem_cons h2,sameTs]
theorem sameTs_end {a b:List Ty} {i:Nat} (h:a.length ≤ i):sameTs (a.drop i) (b.drop i) = true:=by
  rw [List.drop_eq_nil_of_le h];cases b.drop i <;> rfl
theorem take_eq_step {α:Type} {a b:List α} {i:Nat} (h:a.take i = b.take i) (h1:i < a.length) (h2:i < b.length) (h3:a[i] = b[i]):a.take (i + 1) = b.take (i + 1):=by rw [take_snoc h1,take_snoc h2,h,h3]
theorem take_eq_end {α:Type} {a b:List α} {i:Nat} (h:a.take i = b.take i) (hl:a.length = b.length) (hi:a.length ≤ i):a = b:=by
  rwa [List.take_of_length_le hi,List.take_of_length_le (by omega)] at h
theorem ne_at {α:Type} {a b:List α} {i:Nat} (h1:i < a.length) (h2:i < b.length) (h3:¬ a[i] = b[i]):¬ a = b:=by rintro rfl;exact h3 rfl
theorem all_str (l:List Str):((l.map V.str).all fun e => e.cells.length == 1) = true:=by simp [V.cells]
theorem all_encT (l:List Ty):((l.map encT).all fun e => e.cells.length == 6) = true:=by simp [encT_len]
theorem all_encP (l:List Pr):((l.map encP).all fun e => e.cells.length == 12) = true:=by simp [encP_len]
theorem all_encV (l:List Vl):((l.map encV).all fun e => e.cells.length == 3) = true:=by simp [encV_len]
theorem take_map_str (l:List Str) (i:Nat):(l.map V.str).take i = (l.take i).map V.str:=List.map_take.symm
theorem drop_map_str (l:List Str) (i:Nat):(l.map V.str).drop i = (l.drop i).map V.str:=List.map_drop.symm
theorem varE_hit {names:List Str} {n:Str} {g j:Nat} (h:j < names.length) (he:names[j] = n):varE names n g (j + 1) = if j < g then 0 else 3:=by rw [varE,List.getElem?_eq_getElem h,he,if_pos rfl]
theorem varE_miss {names:List Str} {n:Str} {g j:Nat} (h:j < names.length) (he:¬ names[j] = n):varE names n g (j + 1) = varE names n g j:=by rw [varE,List.getElem?_eq_getElem h,if_neg (by simpa using he)]
theorem shapeB_8 {t:Ty} (h:shapeB t = true) (h8:t.kind = 8):t.kids.length = 1:=by
  unfold shapeB at h;simp [h8] at h;exact h.2.2.2.2
theorem nodeT1_at {l:List Ty} {names:List Str} {g:Nat} (h:0 < l.length):nodeT1 l names g = nodeT l[0] names g true:=by
  cases l with
  | nil => simp at h
  | cons t l => rw [nodeT1];rfl
theorem kid_dp {t:Ty} {i:Nat} (h:i < t.kids.length):(t.kids[i]).dp < t.dp:=by have:=Ty.dps_mem (List.getElem_mem h);rw [Ty.dp_eq t];omega
theorem kid_sz {t:Ty} {i:Nat} (h:i < t.kids.length):(t.kids[i]).sz < t.sz:=by have:=Ty.szs_mem (List.getElem_mem h);rw [Ty.sz_eq t];omega
theorem kidP_dp {t:Pr} {i:Nat} (h:i < t.kids.length):(t.kids[i]).dp < t.dp:=by have:=Pr.dps_mem (List.getElem_mem h);rw [Pr.dp_eq t];omega
theorem kidP_sz {t:Pr} {i:Nat} (h:i < t.kids.length):(t.kids[i]).sz < t.sz:=by have:=Pr.szs_mem (List.getElem_mem h);rw [Pr.sz_eq t];omega
theorem ic0 (n:Nat):((n:Int) = 0) = (n = 0):=by simp
theorem ic1 (n:Nat):((n:Int) = 1) = (n = 1):=propext (by omega)
theorem ic2 (n:Nat):((n:Int) = 2) = (n = 2):=propext (by omega)
theorem ip0 (n:Nat):((0:Int) < (n:Int)) = (0 < n):=propext (by omega)
theorem ip2 (n:Nat):((2:Int) ≤ (n:Int)) = (2 ≤ n):=propext (by omega)
theorem il (n m:Nat):((n:Int) = (m:Int)) = (n = m):=propext (by omega)
attribute [go_sem] ic0 ic1 ic2 ip0 ip2
attribute [go_sem] max_if max_ifI all_str all_encT all_encP all_encV take_map_str drop_map_str
end Go.Duo

namespace Go.Duo
open Go
mutual
def smL:Ty → Prop
  | .mk _ _ _ _ l ks => l.length ≤ 1000000 ∧ smLs ks
def smLs:List Ty → Prop
  | [] => True
  | t :: ts => smL t ∧ smLs ts
end
theorem smLs_iff (l:List Ty):smLs l ↔ ∀ t ∈ l,smL t:=by induction l with | nil => simp [smLs] | cons t l ih => simp [smLs,ih]
theorem smL_iff (t:Ty):smL t ↔ t.labels.length ≤ 1000000 ∧ ∀ u ∈ t.kids,smL u:=by cases t;rw [smL,smLs_iff];rfl
mutual
def smLP:Pr → Prop
  | .mk _ _ _ l a t ks => l.length ≤ 1000000 ∧ a.length ≤ 1000000 ∧ t.sz ≤ 1000000 ∧ smL t ∧ smLPs ks
def smLPs:List Pr → Prop
  | [] => True
  | t :: ts => smLP t ∧ smLPs ts
end
theorem smLPs_iff (l:List Pr):smLPs l ↔ ∀ t ∈ l,smLP t:=by induction l with | nil => simp [smLPs] | cons t l ih => simp [smLPs,ih]
theorem smLP_iff (p:Pr):smLP p ↔ p.labels.length ≤ 1000000 ∧ p.args.length ≤ 1000000 ∧ p.typ.sz ≤ 1000000 ∧ smL p.typ ∧ ∀ u ∈ p.kids,smLP u:=by cases p;rw [smLP,smLPs_iff];rfl
theorem take_T7 (t:Ty) (a:V):((encT t).cells ++ [a]).take 7 = (encT t).cells ++ [a]:=List.take_of_length_le (by rw [len_T];exact Nat.le_refl _)
theorem drop_T7 (t:Ty) (a:V):((encT t).cells ++ [a]).drop 7 = []:=List.drop_of_length_le (by rw [len_T];exact Nat.le_refl _)
attribute [go_sem] take_T7 drop_T7
def ZP:List V:=[.int .i64 0,.str [],.str [],.nil,.nil,.int .i64 0,.int .i64 0,.str [],.int .i64 0,.nil,.nil,.nil]
theorem zpE:ZP = [.int .i64 0,.str [],.str [],.nil,.nil,.int .i64 0,.int .i64 0,.str [],.int .i64 0,.nil,.nil,.nil]:=rfl
attribute [go_sem] zpE
theorem c_ref (i v:Nat):(V.ref i v).cells = [.ref i v]:=rfl
theorem c_rptr (i v o:Nat):(V.rptr i v o).cells = [.rptr i v o]:=rfl
attribute [go_sem] c_ref c_rptr
theorem CLe.app {S:List O} {a l l':List V} (h:CLe S l l'):CLe S (a ++ l) (a ++ l'):=by
  induction a with
  | nil => exact h
  | cons x a ih => exact ⟨V.le_refl _ _,ih⟩
theorem trimL_app (k:Nat) (a b:List V):V.trim.trimL k (a ++ b) = V.trim.trimL k a ++ V.trim.trimL k b:=by rw [trimL_map,trimL_map,trimL_map,List.map_append]
theorem trimL_T (k:Nat) (t:Ty):V.trim.trimL k (encT t).cells = (encT t).cells:=by rw [trimL_map,encT_trimL]
theorem trimL_P (k:Nat) (t:Pr):V.trim.trimL k (encP t).cells = (encP t).cells:=by rw [trimL_map,encP_trimL]
attribute [go_sem] trimL_app trimL_T trimL_P
theorem faL_app (i v:Nat) (es a b:List V):V.fa.faL i v es (a ++ b) = V.fa.faL i v es a ++ V.fa.faL i v es b:=by rw [faL_eq,faL_eq,faL_eq,List.map_append]
theorem faL_T (i v:Nat) (es:List V) (t:Ty):V.fa.faL i v es (encT t).cells = (encT t).cells:=by rw [encT_cells'];rfl
mutual
theorem fa_of_trim (k:Nat) (v:Nat) (es:List V) (n:Nat) (hn:n ≤ k):∀ x:V,x.trim n = x → x.fa k v es = x
  | .agg xs,h => by simp only [V.trim,V.agg.injEq] at h;simp only [V.fa,fa_of_trimL k v es n hn xs h]
  | .tuple xs,h => by simp only [V.trim,V.tuple.injEq] at h;simp only [V.fa,fa_of_trimL k v es n hn xs h]
  | .func fn a b,h => by simp only [V.trim,V.func.injEq,true_and] at h;simp only [V.fa,fa_of_trimL k v es n hn a h.1,fa_of_trimL k v es n hn b h.2]
  | .iface t y,h => by simp only [V.trim,V.iface.injEq,true_and] at h;simp only [V.fa,fa_of_trim k v es n hn y h]
  | .ref j w,h => by
    simp only [V.trim] at h
    split at h
    · simp only [V.fa];rw [if_neg (by omega)]
    · cases h
  | .rptr j w o,h => by
    simp only [V.trim] at h
    split at h
    · simp only [V.fa];rw [if_neg (by omega)]
    · cases h
  | .undef,_ | .int _ _,_ | .bool _,_ | .str _,_ | .sl _ _,_ | .nil,_ | .ptr _ _,_ | .dptr _,_ | .nilptr,_ | .pmap _ _,_ | .map _,_ | .nilfunc,_ | .niliface,_ | .yld _,_ => rfl
theorem fa_of_trimL (k:Nat) (v:Nat) (es:List V) (n:Nat) (hn:n ≤ k):∀ xs:List V,V.trim.trimL n xs = xs → V.fa.faL k v es xs = xs
  | [],_ => rfl
  | x :: xs,h => by simp only [V.trim.trimL,List.cons.injEq] at h;simp only [V.fa.faL,fa_of_trim k v es n hn x h.1,fa_of_trimL k v es n hn xs h.2]
end
theorem fa_clo {st:List O} (h:Clo st) {k:Nat} (hk:st.length ≤ k) (v:Nat) (es:List V):st.map (O.fa k v es) = st:=by
  have h1:=h st.length (Nat.le_refl _)
  have:∀ o ∈ st,O.fa k v es o = o:=fun o ho => by
    obtain ⟨i,hi,rfl⟩:=List.mem_iff_getElem.1 ho
    have h2:(st[i]).trim st.length = st[i]:=by
      have h3:(st.map (O.trim st.length))[i]'(by simpa using hi) = st[i]:=by simp only [h1]
      rwa [List.getElem_map] at h3
    generalize st[i] = o at h2 ⊢
    cases o with
    | box t xs =>
      simp only [O.trim,O.box.injEq,true_and] at h2
      simp only [O.fa,O.box.injEq,true_and]
      rw [← faL_eq]
      exact fa_of_trimL k v es st.length hk xs (by rw [trimL_map];exact h2)
    | map ks xs =>
      simp only [O.trim,O.map.injEq,true_and] at h2
      simp only [O.fa,O.map.injEq,true_and]
      rw [← faL_eq]
      exact fa_of_trimL k v es st.length hk xs (by rw [trimL_map];exact h2)
    | _ => rfl
  exact (List.map_congr_left this).trans (List.map_id _)
theorem fa_st0 {st:List O} (hst:Clo st) {v:Nat} {es:List V} {a b:O} (hb:∀ k v es,b.fa k v es = b):((st ++ [a,b]).set st.length .dead).map (O.fa st.length v es) = st ++ [.dead,b]:=by
  rw [List.set_append_right _ _ (Nat.le_refl _),Nat.sub_self,List.map_append,fa_clo hst (Nat.le_refl _)]
  simp only [List.set_cons_zero,List.map_cons,List.map_nil,hb];rfl
theorem fa_st1 {st:List O} (hst:Clo st) {v:Nat} {es:List V} {b:O}:((st ++ [.dead,b]).set (st.length + 1) .dead).map (O.fa (st.length + 1) v es) = st ++ [.dead,.dead]:=by
  rw [List.set_append_right _ _ (by omega),Nat.add_sub_cancel_left,List.map_append,fa_clo hst (by omega)]
  simp [O.fa]
theorem cellsP (p:Pr):(encP p).cells = .int .i64 p.kind :: .str p.chan :: .str p.var :: .sl (p.labels.map .str) none :: .sl (p.args.map encV) none :: ((encT p.typ).cells ++ [.sl (p.kids.map encP) none]):=encP_cells' p
def raisePrio (n:Int) (t:Ty):Int:=if 4 ≤ t.kind ∧ t.kind ≤ 7 then IntKind.wrap .i64 (t.prio + n) else t.prio
theorem raiseT_eq (n:Int) (t:Ty):raiseT n t = .mk t.kind (raisePrio n t) t.name t.shift t.labels (t.kids.map (raiseT n)):=by cases t;rw [raiseT,raiseTs_eq];rfl
theorem raisePrio_1 {n:Int} {t:Ty} (h:4 ≤ t.kind) (h2:t.kind ≤ 7):raisePrio n t = IntKind.wrap .i64 (t.prio + n):=if_pos ⟨h,h2⟩
theorem raisePrio_2 {n:Int} {t:Ty} (h:t.kind < 4):raisePrio n t = t.prio:=if_neg (by omega)
theorem raisePrio_3 {n:Int} {t:Ty} (h:7 < t.kind):raisePrio n t = t.prio:=if_neg (by omega)
mutual
def copyP:Pr → Pr
  | .mk k c v l a t ks => .mk k c v l a (raiseT 0 t) (copyPs ks)
def copyPs:List Pr → List Pr
  | [] => []
  | p :: ps => copyP p :: copyPs ps
end
theorem copyPs_eq (l:List Pr):copyPs l = l.map copyP:=by induction l with | nil => rfl | cons p l ih => rw [copyPs,ih];rfl
theorem copyP_eq (p:Pr):copyP p = .mk p.kind p.chan p.var p.labels p.args (raiseT 0 p.typ) (p.kids.map copyP):=by cases p;rw [copyP,copyPs_eq];rfl
theorem foldP (p:Pr):V.agg (.int .i64 p.kind :: .str p.chan :: .str p.var :: .sl (p.labels.map .str) none :: .sl (p.args.map encV) none :: ((encT p.typ).cells ++ [.sl (p.kids.map encP) none])) = encP p:=(encP_all p).symm
def idxI (l:List Str) (s:Str):Int:=match l.findIdx? (fun d => decide (d = s)) with | some i => (i:Int) | none => -1
theorem idxI_some {l:List Str} {s:Str} {i:Nat} (hi:i < l.length) (h:∀ (j:Nat) (hj:j < l.length),j < i → ¬ l[j] = s) (he:l[i] = s):idxI l s = (i:Int):=by
  have:l.findIdx? (fun d => decide (d = s)) = some i:=by
    rw [List.findIdx?_eq_some_iff_getElem]
    exact ⟨hi,by simpa using he,fun j hj => by simpa using h j (by omega) hj⟩
  unfold idxI;rw [this]
theorem idxI_none {l:List Str} {s:Str} {i:Nat} (hi:l.length ≤ i) (h:∀ (j:Nat) (hj:j < l.length),j < i → ¬ l[j] = s):idxI l s = -1:=by
  have:l.findIdx? (fun d => decide (d = s)) = none:=by
    rw [List.findIdx?_eq_none_iff]
    intro x hx
    obtain ⟨j,hj,rfl⟩:=List.mem_iff_getElem.1 hx
    simpa using h j hj (by omega)
  unfold idxI;rw [this]
theorem idxI_lt (l:List Str) (s:Str):idxI l s < l.length ∧ -1 ≤ idxI l s:=by
  unfold idxI
  cases h:l.findIdx? (fun d => decide (d = s)) with
  | none => simp only;omega
  | some i => have:=(List.findIdx?_eq_some_iff_getElem.1 h).1;simp only;omega
def valueS (v:Vl):Str:=if v.kind = 2 then Lib.itoa v.n else if v.kind = 3 ∧ v.n = 1 then [116,114,117,101] else if v.kind = 3 then [102,97,108,115,101] else v.name
def Vl.zero:Vl:=⟨0,[],0⟩
def putC (names:List Str) (values:List Vl) (bound:List Str) (k:Int) (c:Str):Str :=
  if 2 ≤ k ∧ k ≤ 5 ∧ c ∉ bound ∧ 0 ≤ idxI names c then valueS (values.getD (idxI names c).toNat Vl.zero) else c
def putA (names:List Str) (values:List Vl) (bound:List Str) (x:Vl):Vl :=
  if x.kind = 1 ∧ 0 ≤ idxI names x.name ∧ x.name ∉ bound then values.getD (idxI names x.name).toNat Vl.zero else x
mutual
def putP (names:List Str) (values:List Vl):Pr → List Str → Pr
  | .mk k c v l a t ks,bound => .mk k (putC names values bound k c) v l (a.map (putA names values bound)) (raiseT 0 t) (putPs names values ks (bound ++ innerL (.mk k c v l a t ks)))
def putPs (names:List Str) (values:List Vl):List Pr → List Str → List Pr
  | [],_ => []
  | p :: ps,bound => putP names values p bound :: putPs names values ps bound
end
theorem putPs_eq (names:List Str) (values:List Vl) (l:List Pr) (bound:List Str):putPs names values l bound = l.map fun p => putP names values p bound:=by induction l with | nil => rfl | cons p l ih => rw [putPs,ih];rfl
theorem putP_eq (names:List Str) (values:List Vl) (p:Pr) (bound:List Str):putP names values p bound = .mk p.kind (putC names values bound p.kind p.chan) p.var p.labels (p.args.map (putA names values bound)) (raiseT 0 p.typ) (p.kids.map fun q => putP names values q (bound ++ innerL p)):=by cases p;rw [putP,putPs_eq];rfl
section
variable {names:List Str} {values:List Vl} {bound:List Str}
theorem putC_yes {k:Int} {c:Str} (h1:2 ≤ k) (h2:k ≤ 5) (h3:c ∉ bound) (h4:0 ≤ idxI names c) (h5:(idxI names c).toNat < values.length):putC names values bound k c = valueS values[(idxI names c).toNat]:=by
  unfold putC;rw [if_pos ⟨h1,h2,h3,h4⟩,getD_ltI _ _ _ h5]
theorem putC_n1 {k:Int} {c:Str} (h1:k < 2):putC names values bound k c = c:=if_neg (by omega)
theorem putC_n2 {k:Int} {c:Str} (h1:5 < k):putC names values bound k c = c:=if_neg (by omega)
theorem putC_n3 {k:Int} {c:Str} (h1:c ∈ bound):putC names values bound k c = c:=if_neg (fun h => h.2.2.1 h1)
theorem putC_n4 {k:Int} {c:Str} (h1:idxI names c < 0):putC names values bound k c = c:=if_neg (by omega)
theorem putA_yes {x:Vl} (h1:x.kind = 1) (h2:0 ≤ idxI names x.name) (h3:x.name ∉ bound) (h5:(idxI names x.name).toNat < values.length):putA names values bound x = values[(idxI names x.name).toNat]:=by
  unfold putA;rw [if_pos ⟨h1,h2,h3⟩,getD_ltI _ _ _ h5]
theorem putA_n1 {x:Vl} (h1:¬ x.kind = 1):putA names values bound x = x:=if_neg (fun h => h1 h.1)
theorem putA_n2 {x:Vl} (h1:idxI names x.name < 0):putA names values bound x = x:=if_neg (fun h => by have:=h.2.1;omega)
theorem putA_n3 {x:Vl} (h1:x.name ∈ bound):putA names values bound x = x:=if_neg (fun h => h.2.2 h1)
end
theorem fa_stj {st:List O} (hst:Clo st) (j v:Nat) (es:List V) (l:List O):((st ++ l).set (st.length + j) .dead).map (O.fa (st.length + j) v es) = st ++ (l.set j .dead).map (O.fa (st.length + j) v es):=by
  rw [List.set_append_right _ _ (by omega),Nat.add_sub_cancel_left,List.map_append,fa_clo hst (by omega)]
theorem md12 (n:Nat):n * 12 / 12 = n:=Nat.mul_div_cancel n (by decide)
theorem md3 (n:Nat):n * 3 / 3 = n:=Nat.mul_div_cancel n (by decide)
attribute [go_sem] md12 md3
def halfL {α β:Type} (f g:α → β) (i:Nat) (l:List α):List β:=(l.take i).map f ++ (l.drop i).map g
theorem halfL_zero {α β:Type} (f g:α → β) (l:List α):halfL f g 0 l = l.map g:=by simp [halfL]
theorem halfL_end {α β:Type} (f g:α → β) {l:List α} {i:Nat} (h:l.length ≤ i):halfL f g i l = l.map f:=by simp [halfL,List.take_of_length_le h,List.drop_eq_nil_of_le h]
theorem halfL_len {α β:Type} (f g:α → β) (i:Nat) (l:List α):(halfL f g i l).length = l.length:=by simp [halfL];omega
theorem halfL_cons {α β:Type} (f g:α → β) (a:α) (l:List α) (i:Nat):halfL f g (i + 1) (a :: l) = f a :: halfL f g i l:=rfl
theorem halfL_set {α β:Type} (f g:α → β):∀ {l:List α} {i:Nat} (h:i < l.length),(halfL f g i l).set i (f l[i]) = halfL f g (i + 1) l:=by
  intro l;induction l with
  | nil => intro i h;simp at h
  | cons a l ih =>
    intro i h
    cases i with
    | zero => simp [halfL]
    | succ i => rw [halfL_cons,halfL_cons,List.set_cons_succ];congr 1;exact ih (by simpa using h)
theorem halfL_keep {α β:Type} (f g:α → β):∀ {l:List α} {i:Nat} (h:i < l.length) (he:g l[i] = f l[i]),halfL f g (i + 1) l = halfL f g i l:=by
  intro l;induction l with
  | nil => intro i h;simp at h
  | cons a l ih =>
    intro i h he
    cases i with
    | zero => simp [halfL] at he ⊢;exact he.symm
    | succ i => rw [halfL_cons,halfL_cons];congr 1;exact ih (by simpa using h) (by simpa using he)
end Go.Duo
