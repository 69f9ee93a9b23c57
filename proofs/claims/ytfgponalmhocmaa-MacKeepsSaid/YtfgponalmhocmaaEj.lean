/- The laws of sums and of likeness of layer 11: what a call comes to. -/
import Derived.Test.YtfgponalmhocmaaEi
import Derived.Lib.Bytes
namespace Go.Proofs.Ytfgponalmhocmaa.D
open Go.RowKit Go.Proofs.YtfgponalmhocmaaW.PrintWords Go.Proofs.YtfgponalmhocmaaW.PrintLast Go.Proofs.YtfgponalmhocmaaW.PrintMore
open Go.Proofs.Ytfgponalmhocmaa.HA Go.Proofs.Ytfgponalmhocmaa.V
set_option linter.unusedVariables false
set_option linter.unusedSimpArgs false

set_option maxHeartbeats 2000000 in
set_option maxRecDepth 100000 in
theorem macsums_calls (A0 : Option Addr) (c0 : Nat) (l0 : List Int) (A1 : Option Addr) (c1 : Nat) (l1 : List Int) (w : World) (hC0 : Kd.C (Kd.int .u8) w A0 l0.length l0) (hc0 : l0.length ≤ c0) (hb0 : ∀ x ∈ l0, byteOk x)
    (hC1 : Kd.C (Kd.int .u8) w A1 l1.length l1) (hc1 : l1.length ≤ c1) (hb1 : ∀ x ∈ l1, byteOk x) (hs0 : l0.length + 200 < 140737488355328) (hs1 : l1.length + 300 < 140737488355328) :
    Calls Try.prog 7 #[.slice A0 l0.length c0, .slice A1 l1.length c1] w fun e w' => e = .returned (.bool true) ∧ Below w.heap.size w w' := by
  have HC0 := Aside0.mk hC0
  have HC1 := Aside0.mk hC1
  have HY0 := Aside0.mk hb0
  have HY1 := Aside0.mk hb1
  have HS0 := Aside0.mk hs0
  have HS1 := Aside0.mk hs1
  clear hC0 hC1 hb0 hb1
  have heq := fun W => eq_u8s (hm l0 l1) (hm l0 l1) (hm_len _ _) (hm_len _ _) W
  go_enter Try.func7, Try.ntmps7
  go_wp2_with (first
    | (go_at_call 20; (with_reducible refine (alive11_calls _).mono ?_); rintro e w1 ⟨rfl, hb1⟩; have HC01 := Aside0.mk (Kd.C_below HC0.out hb1); have HC11 := Aside0.mk (Kd.C_below HC1.out hb1); have HB1 := Aside0.mk hb1; clear hb1)
    | (go_at_call 21; (with_reducible refine (macsum_calls A0 c0 l0 A1 c1 l1 _ HC01.out hc0 HY0.out HC11.out hc1 HY1.out (by omega) (by omega)).mono ?_); rintro e w2 ⟨rfl, hb2⟩; have HC02 := Aside0.mk (Kd.C_below HC01.out hb2); have HC12 := Aside0.mk (Kd.C_below HC11.out hb2); have HB2 := Aside0.mk (below_step HB1.out hb2); clear hb2)
    | (go_at_call 22; (with_reducible refine (refmac_calls A0 c0 l0 A1 c1 l1 _ HC02.out hc0 HY0.out HC12.out hc1 HY1.out HS0.out HS1.out).mono ?_); rintro e w3 ⟨rfl, hb3⟩; have HB3 := Aside0.mk (below_step HB2.out hb3); clear hb3)
    | fail)
  go_ret
  exact ⟨by simp, HB3.out⟩

theorem ofNat_inj : ∀ (a b : List Int), (∀ x ∈ a, byteOk x) → (∀ x ∈ b, byteOk x) → (a.map fun n => UInt8.ofNat n.toNat) = (b.map fun n => UInt8.ofNat n.toNat) → a = b
  | [], [], _, _, _ => rfl
  | [], y :: b, _, _, h => by simp at h
  | x :: a, [], _, _, h => by simp at h
  | x :: a, y :: b, ha, hb, h => by
    simp only [List.map_cons, List.cons.injEq] at h
    have hx := ha x List.mem_cons_self
    have hy := hb y List.mem_cons_self
    have h1 := congrArg UInt8.toNat h.1
    simp only [UInt8.toNat_ofNat'] at h1
    have : x = y := by
      obtain ⟨x0, x1⟩ := hx
      obtain ⟨y0, y1⟩ := hy
      omega
    rw [this, ofNat_inj a b (fun z hz => ha z (List.mem_cons_of_mem _ hz)) (fun z hz => hb z (List.mem_cons_of_mem _ hz)) h.2]
theorem strOf_eq (a b : List Int) (ha : ∀ x ∈ a, byteOk x) (hb : ∀ x ∈ b, byteOk x) : ((strOfNums a).toList == (strOfNums b).toList) = decide (a = b) := by
  rw [Lib.strOfNums_toList, Lib.strOfNums_toList, Bool.eq_iff_iff, beq_iff_eq, decide_eq_true_eq]
  exact ⟨ofNat_inj a b ha hb, fun h => by rw [h]⟩
set_option maxHeartbeats 2000000 in
set_option maxRecDepth 100000 in
theorem macsame_calls (A0 : Option Addr) (c0 : Nat) (l0 : List Int) (A1 : Option Addr) (c1 : Nat) (l1 : List Int) (w : World) (hC0 : Kd.C (Kd.int .u8) w A0 l0.length l0) (hc0 : l0.length ≤ c0) (hb0 : ∀ x ∈ l0, byteOk x)
    (hC1 : Kd.C (Kd.int .u8) w A1 l1.length l1) (hc1 : l1.length ≤ c1) (hb1 : ∀ x ∈ l1, byteOk x) (hl0 : l0.length < 9223372036854775807) :
    Calls Try.prog 8 #[.slice A0 l0.length c0, .slice A1 l1.length c1] w fun e w' => e = .returned (.bool true) ∧ Below w.heap.size w w' := by
  have HC0 := Aside0.mk hC0
  have HC1 := Aside0.mk hC1
  have HY0 := Aside0.mk hb0
  have HY1 := Aside0.mk hb1
  clear hC0 hC1 hb0 hb1
  have hstr : Aside0 (∀ W, Kd.C (Kd.int .u8) W A0 l0.length l0 → Kd.C (Kd.int .u8) W A1 l1.length l1 → (convert 22 9 (.slice A0 l0.length c0)).run Try.prog W = .ok (.string (strOfNums l0)) W ∧ (convert 22 9 (.slice A1 l1.length c1)).run Try.prog W = .ok (.string (strOfNums l1)) W) :=
    ⟨fun W h0 h1 => ⟨Kd.C_string Try.underlying22 Try.underlying5 Try.underlying9 h0, Kd.C_string Try.underlying22 Try.underlying5 Try.underlying9 h1⟩⟩
  have HBd : Aside0 (Below w.heap.size w w.drew) := ⟨below_drew (Below.refl _ _)⟩
  have HE0 := Aside0.mk (hstr.out w.drew (Kd.C_below HC0.out HBd.out) (Kd.C_below HC1.out HBd.out))
  go_enter Try.func8, Try.ntmps8
  go_upto_region 1 with fail
  go_region_held3 (fun w' => (convert 22 9 (.slice A0 l0.length c0)).run Try.prog w' = .ok (.string (strOfNums l0)) w' ∧ (convert 22 9 (.slice A1 l1.length c1)).run Try.prog w' = .ok (.string (strOfNums l1)) w') (first | exact HE0.out | exact HE1.out | exact HE2.out | assumption) (first
    | (go_at_call 20; (with_reducible refine (alive11_calls _).mono ?_); rintro e w1 ⟨rfl, hb1⟩; have HB1 := Aside0.mk (below_step HBd.out hb1); have HC01 := Aside0.mk (Kd.C_below HC0.out HB1.out); have HC11 := Aside0.mk (Kd.C_below HC1.out HB1.out); have HE1 := Aside0.mk (hstr.out _ HC01.out HC11.out); clear hb1)
    | (go_at_call 23; (with_reducible refine (same_calls A0 c0 l0 A1 c1 l1 _ HC01.out hc0 HY0.out HC11.out hc1 HY1.out hl0).mono ?_); rintro e w2 ⟨rfl, hb2⟩; have HB2 := Aside0.mk (below_drawn HB1.out hb2); have HE2 := Aside0.mk (hstr.out _ (Kd.C_below HC0.out HB2.out) (Kd.C_below HC1.out HB2.out)); clear hb2)
    | fail)
  rw [strOf_eq l0 l1 HY0.out HY1.out]
  go_wp2_with fail
  go_ret
  exact ⟨by simp, HB2.out⟩
end Go.Proofs.Ytfgponalmhocmaa.D
