/- mac.Same as a plain fact; alive() of layer 11: what a call comes to. -/
import Derived.Test.YtfgponalmhocmaaEg
import Derived.Test.YtfgponalmhocmaaDh
namespace Go.Proofs.Ytfgponalmhocmaa.V
open Go.RowKit Go.Proofs.YtfgponalmhocmaaW.PrintWords Go.Proofs.YtfgponalmhocmaaW.PrintLast Go.Proofs.YtfgponalmhocmaaW.PrintMore
open Go.Proofs.Ytfgponalmhocmaa.HA
set_option linter.unusedVariables false
theorem or_byte8 (x y : Int) (hx : byteOk x) (hy : byteOk y) : byteOk (Go.bits .or .u8 x y) ∧ (Go.bits .or .u8 x y = 0 ↔ x = 0 ∧ y = 0) := by
  obtain ⟨x0, x1⟩ := hx
  obtain ⟨y0, y1⟩ := hy
  rw [u8_or x y x0 x1 y0 y1]
  have h := Nat.or_lt_two_pow (n := 8) (x := x.toNat) (y := y.toNat) (by omega) (by omega)
  have h2 : x.toNat ||| y.toNat = 0 ↔ x.toNat = 0 ∧ y.toNat = 0 := Nat.or_eq_zero_iff
  refine ⟨⟨by omega, by omega⟩, ⟨fun h3 => ?_, fun h3 => ?_⟩⟩
  · have := h2.1 (by omega)
    omega
  · have := h2.2 (by omega)
    omega
theorem xor_zero8 (x y : Int) (hx : byteOk x) (hy : byteOk y) : Go.bits .xor .u8 x y = 0 ↔ x = y := by
  obtain ⟨x0, x1⟩ := hx
  obtain ⟨y0, y1⟩ := hy
  rw [u8_xor x y x0 x1 y0 y1]
  have h2 : x.toNat ^^^ y.toNat = 0 ↔ x.toNat = y.toNat := by
    constructor
    · intro h
      refine Nat.eq_of_testBit_eq (fun i => ?_)
      have := congrArg (fun n => n.testBit i) h
      simpa using this
    · intro h
      rw [h, Nat.xor_self]
  constructor
  · intro h
    have := h2.1 (by omega)
    omega
  · intro h
    have := h2.2 (by omega)
    omega
theorem rd_nat (l : List Int) (i : Nat) (h : i < l.length) : rd l (i : Int) = l[i] := by
  simp [rd, List.getD_eq_getElem?_getD, h]
theorem same_l0 (a b : List Int) (ha : ∀ x ∈ a, byteOk x) (hb : ∀ x ∈ b, byteOk x) (hl : a.length = b.length) (hs : a.length < 9223372036854775807) : ∀ (d k i : Nat) (x : Int), byteOk x → i + d = a.length → d < k →
    mac_Same.l0 k a b x (a.length : Int) (i : Int) = some (decide (x = 0 ∧ a.drop i = b.drop i)) := by
  intro d
  induction d with
  | zero =>
    intro k i x hx hi hk
    obtain ⟨k, rfl⟩ : ∃ m, k = m + 1 := ⟨k - 1, by omega⟩
    rw [mac_Same.l0, if_neg (by omega), List.drop_of_length_le (by omega), List.drop_of_length_le (by omega)]
    refine congrArg some ?_
    rw [Bool.eq_iff_iff]
    simp
  | succ d ih =>
    intro k i x hx hi hk
    obtain ⟨k, rfl⟩ : ∃ m, k = m + 1 := ⟨k - 1, by omega⟩
    have h1 : i < a.length := by omega
    have h2 : i < b.length := by omega
    have e : wrap64 ((i : Int) + 1) = ((i + 1 : Nat) : Int) := by rw [IntWalk.wrap64_in _ (by omega)]; omega
    have hxo := xor_byte a[i] b[i] (ha _ (List.getElem_mem _)) (hb _ (List.getElem_mem _))
    have ho := or_byte8 x _ hx hxo
    have hz := xor_zero8 a[i] b[i] (ha _ (List.getElem_mem _)) (hb _ (List.getElem_mem _))
    rw [mac_Same.l0, if_pos (by omega), if_pos (by omega), if_pos (by omega), if_pos (by omega), rd_nat a i h1, rd_nat b i h2, e, ih k (i + 1) _ ho.1 (by omega) (by omega), List.drop_eq_getElem_cons h1, List.drop_eq_getElem_cons h2]
    refine congrArg some ?_
    rw [Bool.eq_iff_iff]
    simp only [decide_eq_true_eq, ho.2, hz, List.cons.injEq, and_assoc]
theorem same_f (a b : List Int) (ha : ∀ x ∈ a, byteOk x) (hb : ∀ x ∈ b, byteOk x) (hs : a.length < 9223372036854775807) : mac_Same.f (a.length + 1) a b = some (decide (a = b)) := by
  unfold mac_Same.f
  by_cases hl : a.length = b.length
  · rw [if_pos (by omega)]
    have := same_l0 a b ha hb hl hs a.length (a.length + 1) 0 0 ⟨by decide, by decide⟩ (by omega) (by omega)
    simpa using this
  · rw [if_neg (by omega)]
    refine congrArg some ?_
    have : a ≠ b := fun h => hl (by rw [h])
    simp [this]
def jefe : List Int := [74, 101, 102, 101]
def want : List Int := [119, 104, 97, 116, 32, 100, 111, 32, 121, 97, 32, 119, 97, 110, 116, 32, 102, 111, 114, 32, 110, 111, 116, 104, 105, 110, 103, 63]
def passw : List Int := [112, 97, 115, 115, 119, 111, 114, 100]
def saltw : List Int := [115, 97, 108, 116]
theorem jefe0 : (hm jefe want).getD 0 0 = 239 := by decide +kernel
theorem jefe19 : (hm jefe want).getD 19 0 = 121 := by decide +kernel
theorem key4 : pkey passw saltw 0 4 = [12, 96, 200, 15] := by decide +kernel
end Go.Proofs.Ytfgponalmhocmaa.V
namespace Go.Proofs.Ytfgponalmhocmaa.D
open Go.RowKit Go.Proofs.YtfgponalmhocmaaW.PrintWords Go.Proofs.YtfgponalmhocmaaW.PrintLast Go.Proofs.YtfgponalmhocmaaW.PrintMore
open Go.Proofs.Ytfgponalmhocmaa.HA Go.Proofs.Ytfgponalmhocmaa.V
set_option linter.unusedVariables false
set_option linter.unusedSimpArgs false
theorem same_calls (A0 : Option Addr) (c0 : Nat) (l0 : List Int) (A1 : Option Addr) (c1 : Nat) (l1 : List Int) (w : World) (hr0 : Kd.C (Kd.int .u8) w A0 l0.length l0) (hc0 : l0.length ≤ c0) (hb0 : ∀ x ∈ l0, byteOk x) (hr1 : Kd.C (Kd.int .u8) w A1 l1.length l1) (hc1 : l1.length ≤ c1) (hb1 : ∀ x ∈ l1, byteOk x) (hs : l0.length < 9223372036854775807) :
    Calls Try.prog 23 #[.slice A0 l0.length c0, .slice A1 l1.length c1] w fun e w' => e = .returned (.bool (decide (l0 = l1))) ∧ Drawn0 w w' :=
  mac_Same.calls _ A0 c0 l0 A1 c1 l1 _ w hr0 hc0 hr1 hc1 (same_f l0 l1 hb0 hb1 hs)
end Go.Proofs.Ytfgponalmhocmaa.D
