/-
  A part of the proof.
-/
import Derived.Test.YtdlcnihacaboiaaGreatDoorWaitShelf
import Derived.Test.YtdlcnihacaboiaaGreatDoorSubLib
import Derived.Test.YtdlcnihacaboiaaGreatDoorGI
import Derived.Lib.AtoiErrMem
set_option linter.all false
namespace Go.Duo
open Go
/-- More is known of the package variables. -/
theorem Call.glLe {P : Program} {gl gl' : Nat → V} {k : FuncId} {args : List V} {st : List O} {K : V → List O → Prop} (h : ∀ g, gl g = .undef ∨ gl g = gl' g) (hc : Call P gl k args st K) : Call P gl' k args st K := fun w s xs hst hs hxs =>
  CallsIn.mono (hc w s xs hst ⟨hs.len, hs.obj, hs.inj, hs.kout, hs.kin, hs.fgn, fun g => (h g).elim .inl fun e => by rw [e]; exact hs.glob g⟩ hxs) fun e w' ⟨v, x, s', h1, h2, h3, h4, h5⟩ =>
    ⟨v, x, s', h1, ⟨h2.len, h2.obj, h2.inj, h2.kout, h2.kin, h2.fgn, fun g => (hs.glob g).imp id fun k => globKeeps h3.keeps k⟩, h3, h4, h5⟩
end Go.Duo
namespace Go.Proofs
open Go Go.Duo
namespace Tryz
/-- What the package variables hold. -/
def gl2 : Nat → V
  | 0 => .dptr [.iface 295 (.dptr [.str [105, 110, 118, 97, 108, 105, 100, 32, 115, 121, 110, 116, 97, 120]])]
  | 1 => .dptr [.iface 295 (.dptr [.str [118, 97, 108, 117, 101, 32, 111, 117, 116, 32, 111, 102, 32, 114, 97, 110, 103, 101]])]
  | 3 => .dptr (Lib.pow10Tab.map (.int .u64))
  | _ => .undef
theorem gl12 (g : Nat) : gl g = .undef ∨ gl g = gl2 g := by
  unfold gl
  split
  · exact .inr rfl
  · exact .inl rfl
theorem up {k : FuncId} {args : List V} {st : List O} {K : V → List O → Prop} (h : Duo.Call Tryz.prog gl k args st K) : Duo.Call Tryz.prog gl2 k args st K := h.glLe gl12
theorem itoa_spec (n : Int) (h0 : -9223372036854775808 ≤ n) (h1 : n ≤ 9223372036854775807) (st : List O) : Duo.Call Tryz.prog gl2 108 [.int .i64 n] st (fun v st' => v = .str (Lib.itoa n) ∧ st' = st) := by
  refine Duo.Call.of_grow fun w s xs hst hs hxs => ?_
  obtain ⟨hl, hr⟩ := hxs
  match xs, hl with
  | [x], _ =>
    cases (hr 0 _ _ rfl rfl).int_inv
    refine (Tryz.strconv_Itoa n h0 h1 w (glob_tab hs (g := 3) (by kernel_rfl) rfl)).mono ?_
    rintro e w' ⟨rfl, k, os, rfl⟩
    exact ⟨Lib.below_grow _ w (Nat.le_refl _) k os, _, _, rfl, ⟨rfl, rfl⟩, fun _ _ => .pure _ _ (.str _)⟩
/-- What strconv.ParseInt(s, 10, 32) gives. -/
def parV (s : List UInt8) : V := match Lib.parseIntB 32 s with
  | .ok n => .tuple [.int .i64 n, .niliface]
  | .range => .tuple [.int .i64 (Lib.intSat 32 s), .iface 244 .undef]
  | _ => .tuple [.int .i64 0, .iface 244 .undef]
theorem ends (x : Lib.NumEnd Int) : (∃ n, x = .ok n) ∨ x = .range ∨ x = Lib.parseIntB 32 [] := by
  cases x
  · exact .inl ⟨_, rfl⟩
  · exact .inr (.inr rfl)
  · exact .inr (.inl rfl)
def parOK (s : List UInt8) : Bool := match Lib.parseIntB 32 s with | .ok _ => true | _ => false
def parN (s : List UInt8) : Int := match Lib.parseIntB 32 s with | .ok n => n | .range => Lib.intSat 32 s | _ => 0
def parE (s : List UInt8) : V := match Lib.parseIntB 32 s with | .ok _ => .niliface | _ => .iface 244 .undef
theorem parV_eq (s : List UInt8) : parV s = .tuple [.int .i64 (parN s), parE s] := by unfold parV parN parE; cases Lib.parseIntB 32 s <;> rfl
theorem par_ok {s : List UInt8} (h : parOK s = true) : Lib.parseIntB 32 s = .ok (parN s) := by
  unfold parOK at h; unfold parN
  rcases ends (Lib.parseIntB 32 s) with ⟨n, h'⟩ | h' | h'
  · rw [h']
  · rw [h'] at h; cases h
  · rw [h'] at h; cases h
theorem parN_ge {s : List UInt8} (h : parOK s = true) : -2147483648 ≤ parN s := by
  have h := par_ok h
  cases s with
  | nil => cases h
  | cons c r =>
    simp only [Lib.parseIntB] at h
    split at h
    · cases h
    · cases h
    · split at h
      · cases h
      · split at h
        · cases h
        · rename_i h1 h2
          cases h'' : parN (c :: r) <;> rw [h''] at h <;> simp only [Lib.NumEnd.ok.injEq] at h <;> split at h <;> omega
theorem par_of_ok {s : List UInt8} {n : Int} (h : Lib.parseIntB 32 s = .ok n) : parOK s = true ∧ n = parN s := by
  unfold parOK parN; rw [h]; exact ⟨rfl, rfl⟩
theorem parse_spec (s : List UInt8) (hs : s.length ≤ 281474976710656) (st : List O) : Duo.Call Tryz.prog gl2 107 [.str s, .int .i64 10, .int .i64 32] st (fun v st' => v = parV s ∧ st' = st) := by
  refine Duo.Call.of_grow fun w sg xs hst hsim hxs => ?_
  obtain ⟨hl, hr⟩ := hxs
  match xs, hl with
  | [x, y, z], _ =>
    cases (hr 0 _ _ rfl rfl).str_inv
    cases (hr 1 _ _ rfl rfl).int_inv
    cases (hr 2 _ _ rfl rfl).int_inv
    have hsz : (⟨s.toArray⟩ : ByteArray).size = s.length := by simp [ByteArray.size]
    have hda : (⟨s.toArray⟩ : ByteArray).data.toList = s := by simp
    unfold parV
    rcases ends (Lib.parseIntB 32 s) with ⟨n, h⟩ | h | h
    rotate_left
    rotate_left
    · rw [h]
      obtain ⟨ev, hv, hev⟩ := glob_iface hsim (g := 0) rfl
      refine (Tryz.strconv_ParseInt_10_at32_syntax ⟨s.toArray⟩ (by rw [hsz]; exact hs) (by rw [hda]; exact h) ev w hv hev).mono ?_
      rintro e w' ⟨N, rfl, _, _, hb⟩
      refine ⟨hb, _, _, rfl, ⟨rfl, rfl⟩, fun w2 s2 => .tuple _ [_, _] rfl fun i c x hc hx => ?_⟩
      rcases i with _ | _ | i
      · simp at hc hx; subst hc hx; exact .pure _ _ (.int _ _)
      · simp at hc hx; subst hc hx; exact .iface _ _ _ (.undef _)
      · simp at hc
    rotate_left
    · rw [h]
      obtain ⟨ev, hv, hev⟩ := glob_iface hsim (g := 1) rfl
      refine (Tryz.strconv_ParseInt_10_at32_range ⟨s.toArray⟩ (by rw [hsz]; exact hs) (by rw [hda]; exact h) ev w hv hev).mono ?_
      rintro e w' ⟨N, rfl, _, _, hb⟩
      rw [hda]
      refine ⟨hb, _, _, rfl, ⟨rfl, rfl⟩, fun w2 s2 => .tuple _ [_, _] rfl fun i c x hc hx => ?_⟩
      rcases i with _ | _ | i
      · simp at hc hx; subst hc hx; exact .pure _ _ (.int _ _)
      · simp at hc hx; subst hc hx; exact .iface _ _ _ (.undef _)
      · simp at hc
    · rw [h]
      refine (Tryz.strconv_ParseInt_10_at32_ok ⟨s.toArray⟩ (by rw [hsz]; omega) n (by rw [hda]; exact h) w).mono ?_
      rintro e w' ⟨rfl, hw⟩
      refine ⟨?_, _, _, rfl, ⟨rfl, rfl⟩, fun w2 s2 => .tuple _ [_, _] rfl fun i c x hc hx => ?_⟩
      · rcases hw with rfl | ⟨t, rfl⟩
        · exact RowKit.Below.refl _ _
        · exact Lib.bytesWorld_below _ _ _
      · rcases i with _ | _ | i
        · simp at hc hx; subst hc hx; exact .pure _ _ (.int _ _)
        · simp at hc hx; subst hc hx; exact .pure _ _ .niliface
        · simp at hc
end Tryz
end Go.Proofs
