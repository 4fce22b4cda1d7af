/-
  Laws of simp in bundles (printed by a program).
-/
import Derived.Test.YtmjngcfigfkafaaDoorDRedex
set_option linter.all false
namespace Go.Duo
open Go
theorem PB : (∀ (t : Ty) (l : List V), ((encT t).cells ++ l).take 6 = (encT t).cells) ∧
    (∀ (t : Ty) (l : List V), ((encT t).cells ++ l).drop 6 = l) ∧
    (∀ (t : Ty) (l : List V), ((encT t).cells ++ l).length = l.length + 6) ∧
    (∀ (t : Ty) (l : List V), ((encT t).cells ++ l).all V.one = l.all V.one) ∧
    (∀ (t : Ty), (encT t).cells.take 6 = (encT t).cells) ∧
    (∀ (t : Ty), .agg (encT t).cells = encT t) ∧
    (∀ (t : Ty), (encT t).cells.length = 6) ∧
    (∀ (t : Ty), (encT t).cells.all V.one = true) ∧
    (∀ (p : Pr), (encP p).cells.take 12 = (encP p).cells) ∧
    (∀ (p : Pr), .agg (encP p).cells = encP p) ∧
    (∀ (p : Pr), (encP p).cells.length = 12) ∧
    (∀ (p : Pr), (encP p).cells.all V.one = true) ∧
    (∀ (p : Pr) (n : Nat), ((encP p).cells.drop n).length = 12 - n) ∧
    (∀ (p : Pr) (u : V), (encP p).cells.headD u = .int .i64 p.kind) ∧
    (∀ (p : Pr) (u : V), ((encP p).cells.drop 1).headD u = .str p.chan) ∧
    (∀ (p : Pr) (u : V), ((encP p).cells.drop 3).headD u = .sl (p.labels.map .str) none) ∧
    (∀ (s : Str), epV s = .tuple [.int .i64 (epK s), .bool (epP s), .bool (epO s)]) ∧
    (∀ (s : Str), dualV s = .tuple [.str (dualN s), .bool (epO s)]) :=
  ⟨@take_T, @drop_T, @len_T, @all_T, @encT_take, @encT_cells, @encT_len, @encT_one, @encP_take, @encP_cells, @encP_len, @encP_one, @encP_dlen, @encP_f0, @encP_f1, @encP_f3, @epV_eq, @dualV_eq⟩
theorem MB : (∀ (t : Pr) (l : List V), ((encP t).cells ++ l).take 12 = (encP t).cells) ∧
    (∀ (t : Pr) (l : List V), ((encP t).cells ++ l).drop 12 = l) ∧
    (∀ (t : Pr) (l : List V), ((encP t).cells ++ l).length = l.length + 12) ∧
    (∀ (t : Pr) (l : List V), ((encP t).cells ++ l).all V.one = l.all V.one) ∧
    (∀ (t : Pr) (l : List V), ((encP t).cells ++ l).drop 24 = l.drop 12) :=
  ⟨@take_P, @drop_P, @len_P, @all_P, @drop_P24⟩
theorem KB : (∀ (n : Int) (h1 : -9223372036854775808 ≤ n) (h2 : n ≤ 9223372036854775807), IntKind.wrap .i64 n = n) ∧
    (∀ {α : Type} (f : α → V) (l : List α) (i : Nat) (u : V) (h : i < l.length), (l.map f).getD i u = f (l[i]'h)) ∧
    (∀ {α : Type} (l : List α) (i : Nat) (u : α) (h : i < l.length), l.getD i u = l[i]'h) ∧
    (∀ (a b : Int) (h : 0 ≤ a), a.tmod b = a % b) ∧
    (∀ (a b : Int) (h : 0 ≤ a), a.tdiv b = a / b) ∧
    (∀ (n : Nat), ((n : Int) - 1).toNat = n - 1) :=
  ⟨@i64w, @getD_lt, @getD_ltI, @tmod_nn, @tdiv_nn, @toNat_sub1⟩
theorem LB : (∀ {α : Type} (a : α) (l : List α), (a :: l).length = l.length + 1) ∧
    (∀ {α : Type}, ([] : List α).length = 0) ∧
    (∀ {α : Type} (a : α) (l : List α), (a :: l)[0]? = some a) ∧
    (∀ {α : Type} (a : α) (l : List α) (i : Nat), (a :: l)[i + 1]? = l[i]?) ∧
    (∀ {α : Type} (a b : α) (l : List α), (a :: l).set 0 b = b :: l) ∧
    (∀ {α : Type} (a b : α) (l : List α) (i : Nat), (a :: l).set (i + 1) b = a :: l.set i b) ∧
    (∀ n : Nat, 0 + n = n) ∧
    (∀ {α : Type} (a : α) (l : List α) (i : Nat), (a :: l).drop (i + 1) = l.drop i) ∧
    (∀ {α : Type} (l : List α), l.drop 0 = l) :=
  ⟨@List.length_cons, @List.length_nil, @List.getElem?_cons_zero, fun _ _ _ => List.getElem?_cons_succ, fun _ _ _ => rfl, fun _ _ _ _ => rfl, Nat.zero_add, fun _ _ _ => rfl, @List.drop_zero⟩
end Go.Duo
