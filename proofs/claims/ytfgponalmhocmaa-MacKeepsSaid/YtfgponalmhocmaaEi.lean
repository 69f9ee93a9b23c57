/- alive() of layer 11: what a call comes to. -/
import Derived.Test.YtfgponalmhocmaaEh
namespace Go.Proofs.Ytfgponalmhocmaa.D
open Go.RowKit Go.Proofs.YtfgponalmhocmaaW.PrintWords Go.Proofs.YtfgponalmhocmaaW.PrintLast Go.Proofs.YtfgponalmhocmaaW.PrintMore
open Go.Proofs.Ytfgponalmhocmaa.HA Go.Proofs.Ytfgponalmhocmaa.V
set_option linter.unusedVariables false
set_option linter.unusedSimpArgs false

theorem below_drawn {B : Nat} {w W W' : World} (h : Below B w W) (hd : Drawn0 W W') : Below B w W' := by
  obtain ⟨n, rfl⟩ := hd
  exact ⟨h.os, h.tape, h.output, h.size, h.block⟩
theorem conv22g (w : World) (g : Nat) (hg : w.heap.size = g) (C : Array Value) (n c : Nat) : (convert 22 22 (.slice (some ⟨g, 0, none⟩) n c)).run Try.prog (w.alloc (.cells C 5)) = .ok (.slice (some ⟨g, 0, none⟩) n c) (w.alloc (.cells C 5 (C.size, C.size + 1))) := by
  subst hg
  exact conv22 w C n c
theorem lit_byte (l : List Int) (h : (l.all fun x => decide (0 ≤ x) && decide (x < 256)) = true) : ∀ x ∈ l, byteOk x := by
  intro x hx
  have := List.all_eq_true.1 h x hx
  simp at this
  exact this
theorem sum_jefe (A0 A1 : Option Addr) (w : World) (h0 : Kd.C (Kd.int .u8) w A0 4 jefe) (h1 : Kd.C (Kd.int .u8) w A1 28 want) :
    Calls Try.prog 21 #[.slice A0 4 4, .slice A1 28 28] w fun e w' => e = .returned (.agg (u8s (hm jefe want)).toArray) ∧ Below w.heap.size w w' :=
  macsum_calls A0 4 jefe A1 28 want w h0 (Nat.le_refl _) (lit_byte _ (by decide)) h1 (Nat.le_refl _) (lit_byte _ (by decide)) (by decide) (by decide)
theorem key_pass (A0 A1 : Option Addr) (w : World) (h0 : Kd.C (Kd.int .u8) w A0 8 passw) (h1 : Kd.C (Kd.int .u8) w A1 4 saltw) :
    Calls Try.prog 24 #[.slice A0 8 8, .slice A1 4 4, .int .i64 1, .int .i64 4] w (KeyV [12, 96, 200, 15] w) := by
  have := mackey_calls A0 8 passw A1 4 saltw 1 0 4 w rfl h0 (Nat.le_refl _) (lit_byte _ (by decide)) h1 (Nat.le_refl _) (lit_byte _ (by decide)) (by decide) (by decide) (by decide) (by decide)
  rw [key4] at this
  exact this
theorem same44 (A : Option Addr) (c : Nat) (w : World) (h : Kd.C (Kd.int .u8) w A 4 [12, 96, 200, 15]) (hc : 4 ≤ c) : Calls Try.prog 23 #[.slice A 4 c, .slice A 4 c] w fun e w' => e = .returned (.bool true) ∧ Drawn0 w w' :=
  same_calls A c [12, 96, 200, 15] A c [12, 96, 200, 15] w h hc (lit_byte _ (by decide)) h hc (lit_byte _ (by decide)) (by decide)
theorem same43 (A : Option Addr) (c : Nat) (w : World) (h : Kd.C (Kd.int .u8) w A 4 [12, 96, 200, 15]) (hc : 4 ≤ c) : Calls Try.prog 23 #[.slice A 4 c, .slice A 3 c] w fun e w' => e = .returned (.bool false) ∧ Drawn0 w w' :=
  same_calls A c [12, 96, 200, 15] A c [12, 96, 200] w h hc (lit_byte _ (by decide)) (Kd.C_take (xs := [12, 96, 200, 15]) (m := 3) h (by decide)) (by simp; omega) (lit_byte _ (by decide)) (by decide)

set_option maxHeartbeats 4000000 in
set_option maxRecDepth 100000 in
theorem alive11_calls (w : World) : Calls Try.prog 20 #[] w fun e w' => e = .returned (.bool true) ∧ Below w.heap.size w w' := by
  have hz24 := zero24'
  have hs20 : Aside0 ((u8s (hm jefe want)).toArray.size = 20) := ⟨by rw [List.size_toArray, u8s_len, hm_len]⟩
  have hcv1 := conv22 w #[.int .u8 74, .int .u8 101, .int .u8 102, .int .u8 101] 4 4
  have hcv2 := conv22g (w.alloc (.cells #[.int .u8 74, .int .u8 101, .int .u8 102, .int .u8 101] 5 (4, 5))) (w.heap.size + 1) (by simp) #[.int .u8 119, .int .u8 104, .int .u8 97, .int .u8 116, .int .u8 32, .int .u8 100, .int .u8 111, .int .u8 32, .int .u8 121, .int .u8 97, .int .u8 32, .int .u8 119, .int .u8 97, .int .u8 110, .int .u8 116, .int .u8 32, .int .u8 102, .int .u8 111, .int .u8 114, .int .u8 32, .int .u8 110, .int .u8 111, .int .u8 116, .int .u8 104, .int .u8 105, .int .u8 110, .int .u8 103, .int .u8 63] 28 28
  go_enter Try.func20, Try.ntmps20
  go_wp2_with fail
  clear hcv1 hcv2
  generalize hw1 : World.alloc _ _ = w1
  have HJ1 : Aside0 (w1.heap[w.heap.size]? = some (.cells (u8s jefe).toArray 5 (4, 5))) := ⟨by rw [← hw1]; exact blk_alloc (blk_new _ _) _⟩
  have HW1 : Aside0 (w1.heap[w.heap.size + 1]? = some (.cells (u8s want).toArray 5 (28, 29))) := ⟨by rw [← hw1]; exact blk_new_at _ _ _ (by simp)⟩
  have HB1 : Aside0 (Below w.heap.size w w1) := ⟨by rw [← hw1]; exact below_alloc (below_alloc (Below.refl _ _) _) _⟩
  clear hw1
  refine (sum_jefe _ _ _ (C_rowT HJ1.out (by decide)) (C_rowT HW1.out (by decide))).mono ?_
  rintro e w2 ⟨rfl, hb2⟩
  have HB2 := Aside0.mk (below_step HB1.out hb2)
  clear hb2 HB1 HJ1 HW1
  have hs2 := HB2.out.size
  go_upto_region 2 with (first
    | (refine wpList_store_row rfl 24 _ _ rfl w2.heap.size _ rfl rfl 24 _ (blk_new _ _) (by rw [hs20.out]; kernel_rfl) (by rw [hs20.out]; kernel_rfl) (all_one (u8s_one _)) ?_)
    | fail)
  generalize hw3 : World.setRow _ _ _ = w3
  have HD3 : Aside0 (w3.heap[w2.heap.size]? = some (.cells (u8s (hm jefe want)).toArray 24 (0, 0))) := ⟨by rw [← hw3]; exact setRow_heap _ _ _ _ _ _ (blk_new w2 (.cells (u8s z20).toArray 24))⟩
  have HB3 : Aside0 (Below w.heap.size w w3) := ⟨by rw [← hw3]; exact below_setRow (below_alloc HB2.out _) hs2 _⟩
  clear hw3 HB2
  have hcv3 := conv22 w3 #[.int .u8 112, .int .u8 97, .int .u8 115, .int .u8 115, .int .u8 119, .int .u8 111, .int .u8 114, .int .u8 100] 8 8
  have hcv4 := conv22g (w3.alloc (.cells #[.int .u8 112, .int .u8 97, .int .u8 115, .int .u8 115, .int .u8 119, .int .u8 111, .int .u8 114, .int .u8 100] 5 (8, 9))) (w3.heap.size + 1) (by simp) #[.int .u8 115, .int .u8 97, .int .u8 108, .int .u8 116] 4 4
  go_wp2_with fail
  clear hcv3 hcv4
  generalize hw4 : World.alloc _ _ = w4
  have HP4 : Aside0 (w4.heap[w3.heap.size]? = some (.cells (u8s passw).toArray 5 (8, 9))) := ⟨by rw [← hw4]; exact blk_alloc (blk_new _ _) _⟩
  have HS4 : Aside0 (w4.heap[w3.heap.size + 1]? = some (.cells (u8s saltw).toArray 5 (4, 5))) := ⟨by rw [← hw4]; exact blk_new_at _ _ _ (by simp)⟩
  have HD4 : Aside0 (w4.heap[w2.heap.size]? = some (.cells (u8s (hm jefe want)).toArray 24 (0, 0))) := ⟨by rw [← hw4]; exact blk_alloc (blk_alloc HD3.out _) _⟩
  have HB4 : Aside0 (Below w.heap.size w w4) := ⟨by rw [← hw4]; exact below_alloc (below_alloc HB3.out _) _⟩
  clear hw4 HD3 HB3
  refine (key_pass _ _ _ (C_rowT HP4.out (by decide)) (C_rowT HS4.out (by decide))).mono ?_
  rintro e w5 ⟨A, c, rfl, hc, hC, hb5⟩
  obtain ⟨ad, rfl, _⟩ := hC.2.2 (by decide)
  have hc4 : 4 ≤ c := hc
  have HD5 := Aside0.mk (blk_below HD4.out hb5)
  have HB5 := Aside0.mk (below_step HB4.out hb5)
  have HC5 : Aside0 (Kd.C (Kd.int .u8) w5 (some ad) 4 [12, 96, 200, 15]) := ⟨hC⟩
  clear hb5 hC HD4 HB4 HP4 HS4 hc
  have c0 : w5.cell? ⟨w2.heap.size, 0, none⟩ = some (.int .u8 239) := (blk_cell HD5.out 0).trans ((u8_get _ _ (by rw [hm_len]; omega)).trans (by rw [jefe0]))
  have c19 : w5.cell? ⟨w2.heap.size, 19, none⟩ = some (.int .u8 121) := (blk_cell HD5.out 19).trans ((u8_get _ _ (by rw [hm_len]; omega)).trans (by rw [jefe19]))
  have hst : (convert 22 9 (.slice (some ad) 4 c)).run Try.prog w5 = .ok (.string ⟨#[12, 96, 200, 15]⟩) w5 := Kd.C_string Try.underlying22 Try.underlying5 Try.underlying9 HC5.out
  have hc3 : (3 : Int) ≤ (c : Int) := by omega
  go_wp2_with (first
    | (go_at_call 23; (with_reducible refine (same44 _ _ _ HC5.out hc4).mono ?_); rintro e w6 ⟨rfl, hd6⟩; have HC6 := Aside0.mk (Kd.C_below HC5.out (below_drawn (Below.refl _ _) hd6)); have HB6 := Aside0.mk (below_drawn HB5.out hd6); clear hd6)
    | (go_at_call 23; (with_reducible refine (same43 _ _ _ HC6.out hc4).mono ?_); rintro e w7 ⟨rfl, hd7⟩; have HB7 := Aside0.mk (below_drawn HB6.out hd7); clear hd7)
    | fail)
  go_ret
  exact ⟨by first | rfl | simp, HB7.out⟩
end Go.Proofs.Ytfgponalmhocmaa.D
