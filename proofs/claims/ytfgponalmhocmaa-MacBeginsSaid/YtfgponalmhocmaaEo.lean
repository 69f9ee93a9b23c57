/- The law of beginnings of layer 11: what a call comes to. -/
import Derived.Test.YtfgponalmhocmaaEn
namespace Go.Proofs.Ytfgponalmhocmaa.D
open Go.RowKit Go.Proofs.YtfgponalmhocmaaW.PrintWords Go.Proofs.YtfgponalmhocmaaW.PrintLast Go.Proofs.YtfgponalmhocmaaW.PrintMore
open Go.Proofs.Ytfgponalmhocmaa.HA Go.Proofs.Ytfgponalmhocmaa.V
set_option linter.unusedVariables false
set_option linter.unusedSimpArgs false

set_option maxHeartbeats 4000000 in
set_option maxRecDepth 100000 in
theorem begins_early (A0 : Option Addr) (n0 c0 : Nat) (A1 : Option Addr) (n1 c1 : Nat) (x y : Int) (w : World) (h : x < 1 ∨ 60 < x ∨ y < 0 ∨ 900 < y ∨ 3000 < n0 ∨ 3000 < n1) :
    Calls Try.prog 10 #[.slice A0 n0 c0, .slice A1 n1 c1, .agg #[.int .i64 x, .int .i64 y]] w fun e w' => e = .returned (.bool true) ∧ Below w.heap.size w w' := by
  have hp : x < 1 ∨ (¬ x < 1 ∧ 60 < x) ∨ (¬ x < 1 ∧ ¬ 60 < x ∧ y < 0) ∨ (¬ x < 1 ∧ ¬ 60 < x ∧ ¬ y < 0 ∧ 900 < y) ∨ (¬ x < 1 ∧ ¬ 60 < x ∧ ¬ y < 0 ∧ ¬ 900 < y ∧ (3000 : Int) < (n0 : Int)) ∨ (¬ x < 1 ∧ ¬ 60 < x ∧ ¬ y < 0 ∧ ¬ 900 < y ∧ ¬ (3000 : Int) < (n0 : Int) ∧ (3000 : Int) < (n1 : Int)) := by omega
  clear h
  have HB0 : Aside0 (Below w.heap.size w (w.alloc (.cells #[.int .i64 x, .int .i64 y] 37))) := ⟨below_alloc (Below.refl _ _) _⟩
  rcases hp with h1 | ⟨h1, h2⟩ | ⟨h1, h2, h3⟩ | ⟨h1, h2, h3, h4⟩ | ⟨h1, h2, h3, h4, h5⟩ | ⟨h1, h2, h3, h4, h5, h6⟩
  all_goals
    go_enter Try.func10, Try.ntmps10
    go_wp2_with (first | (go_at_call 20; (with_reducible refine (alive11_calls _).mono ?_); rintro e w1 ⟨rfl, hb1⟩; have HB1 := Aside0.mk (below_step HB0.out hb1); clear hb1) | fail)
    go_ret
    exact ⟨rfl, HB1.out⟩

set_option maxHeartbeats 4000000 in
set_option maxRecDepth 100000 in
theorem begins_late (A0 : Option Addr) (c0 : Nat) (l0 : List Int) (A1 : Option Addr) (c1 : Nat) (l1 : List Int) (x : Int) (r Y : Nat) (w : World) (hC0 : Kd.C (Kd.int .u8) w A0 l0.length l0) (hc0 : l0.length ≤ c0) (hb0 : ∀ x ∈ l0, byteOk x)
    (hC1 : Kd.C (Kd.int .u8) w A1 l1.length l1) (hc1 : l1.length ≤ c1) (hb1 : ∀ x ∈ l1, byteOk x) (hs0 : l0.length ≤ 3000) (hs1 : l1.length ≤ 3000) (hx : x = (r : Int) + 1) (hr : r + 1 ≤ 60) (hY : Y ≤ 900) :
    Calls Try.prog 10 #[.slice A0 l0.length c0, .slice A1 l1.length c1, .agg #[.int .i64 x, .int .i64 (Y : Int)]] w fun e w' => e = .returned (.bool true) ∧ Below w.heap.size w w' := by
  have HC0 := Aside0.mk hC0
  have HC1 := Aside0.mk hC1
  have HY0 := Aside0.mk hb0
  have HY1 := Aside0.mk hb1
  clear hC0 hC1 hb0 hb1
  have k1 : ¬ x < 1 := by omega
  have k2 : ¬ 60 < x := by omega
  have k3 : ¬ (Y : Int) < 0 := by omega
  have k4 : ¬ (900 : Int) < (Y : Int) := by omega
  have k5 : ¬ (3000 : Int) < (l0.length : Int) := by omega
  have k6 : ¬ (3000 : Int) < (l1.length : Int) := by omega
  have hX := Aside0.mk hx
  clear hx
  have u1 : IntKind.i64.wrap ((Y : Int) + 100) = (Y : Int) + 100 := IntWalk.i64_in _ (by omega)
  generalize hw0 : w.alloc (.cells #[.int .i64 x, .int .i64 (Y : Int)] 37) = w0
  have HB0 : Aside0 (Below w.heap.size w w0) := ⟨by rw [← hw0]; exact below_alloc (Below.refl _ _) _⟩
  have HX0 : Aside0 (w0.heap[w.heap.size]? = some (.cells #[.int .i64 x, .int .i64 (Y : Int)] 37 (0, 0))) := ⟨by rw [← hw0]; exact blk_new _ _⟩
  have HC00 := Aside0.mk (Kd.C_below HC0.out HB0.out)
  have HC10 := Aside0.mk (Kd.C_below HC1.out HB0.out)
  replace hw0 := Aside0.mk hw0
  have hbeg := Aside0.mk (pkey_begin l0 l1 r Y (Y + 100) (by omega))
  go_enter Try.func10, Try.ntmps10
  go_upto_region 4 with (first
    | (go_at_call 24; rw [hw0.out]; (with_reducible refine (mackey_L A0 c0 l0 A1 c1 l1 x (Y : Int) r Y _ HC00.out hc0 HY0.out HC10.out hc1 HY1.out (by omega) (by omega) hX.out rfl (by omega) (by omega)).mono ?_); rintro e w1 ⟨Ak, ck, rfl, hck, hCk, hb1⟩; have HX1 := Aside0.mk (blk_below HX0.out hb1); have HB1 := Aside0.mk (below_step HB0.out hb1); have HCk := Aside0.mk hCk; have HC01 := Aside0.mk (Kd.C_below HC00.out hb1); have HC11 := Aside0.mk (Kd.C_below HC10.out hb1); clear hCk hb1)
    | fail)
  have cx : w1.cell? ⟨w.heap.size, 0, none⟩ = some (.int .i64 x) := (blk_cell HX1.out 0).trans rfl
  have cy : w1.cell? ⟨w.heap.size, 1, none⟩ = some (.int .i64 (Y : Int)) := (blk_cell HX1.out 1).trans rfl
  go_upto_region 5 with (first
    | (go_at_call 24; (with_reducible refine (mackey_L A0 c0 l0 A1 c1 l1 x ((Y : Int) + 100) r (Y + 100) _ HC01.out hc0 HY0.out HC11.out hc1 HY1.out (by omega) (by omega) hX.out (by omega) (by omega) (by omega)).mono ?_); rintro e w2 ⟨Am, cm, rfl, hcm, hCm, hb2⟩; have HX2 := Aside0.mk (blk_below HX1.out hb2); have HB2 := Aside0.mk (below_step HB1.out hb2); have HCk2 := Aside0.mk (Kd.C_below HCk.out hb2); have HCm := Aside0.mk hCm; clear cx cy hCm hb2)
    | fail)
  obtain ⟨am, rfl, _⟩ := HCm.out.2.2 (by omega)
  have hpl := Aside0.mk (pkey_len l0 l1 r (Y + 100))
  have s1 : (0 : Int) ≤ (Y : Int) := by omega
  have s2 : (Y : Int) ≤ (cm : Int) := by omega
  have HB3 : Aside0 (Below w.heap.size w w2.drew) := ⟨below_drew HB2.out⟩
  have hstr : Aside0 (∀ W, Kd.C (Kd.int .u8) W Ak Y (pkey l0 l1 r Y) → Kd.C (Kd.int .u8) W (some am) (Y + 100) (pkey l0 l1 r (Y + 100)) → W.heap[w.heap.size]? = some (.cells #[.int .i64 x, .int .i64 (Y : Int)] 37 (0, 0)) →
      (convert 22 9 (.slice Ak Y ck)).run Try.prog W = .ok (.string (strOfNums (pkey l0 l1 r Y))) W ∧ (convert 22 9 (.slice (some am) Y cm)).run Try.prog W = .ok (.string (strOfNums (pkey l0 l1 r Y))) W ∧ W.cell? ⟨w.heap.size, 1, none⟩ = some (.int .i64 (Y : Int))) :=
    ⟨fun W h0 h1 h2 => ⟨str_of h0, by
      have h3 := Kd.C_take (m := Y) (xs := pkey l0 l1 r (Y + 100)) (by rw [hpl.out]; exact h1) (by rw [hpl.out]; omega)
      rw [hbeg.out] at h3
      rw [pkey_len] at h3
      exact str_of h3, (blk_cell h2 1).trans rfl⟩⟩
  have HE0 := Aside0.mk (hstr.out w2.drew (Kd.C_below HCk2.out (below_drew (Below.refl _ _))) (Kd.C_below HCm.out (below_drew (Below.refl _ _))) HX2.out)
  go_region_held3 (fun w' => (convert 22 9 (.slice Ak Y ck)).run Try.prog w' = .ok (.string (strOfNums (pkey l0 l1 r Y))) w' ∧ (convert 22 9 (.slice (some am) Y cm)).run Try.prog w' = .ok (.string (strOfNums (pkey l0 l1 r Y))) w' ∧ w'.cell? ⟨w.heap.size, 1, none⟩ = some (.int .i64 (Y : Int))) (first | exact HE0.out | exact HE1.out | assumption) (first
    | (go_at_call 20; (with_reducible refine (alive11_calls _).mono ?_); rintro e w6 ⟨rfl, hb6⟩; have HB7 := Aside0.mk (below_step HB3.out hb6); have HE1 := Aside0.mk (hstr.out w6 (Kd.C_below HCk2.out (below_then (below_drew (Below.refl _ _)) (Nat.le_refl _) hb6)) (Kd.C_below HCm.out (below_then (below_drew (Below.refl _ _)) (Nat.le_refl _) hb6)) (blk_below HX2.out (below_then (below_drew (Below.refl _ _)) (Nat.le_refl _) hb6))); clear hb6)
    | fail)
  go_wp2_with fail
  go_ret
  exact ⟨by first | rfl | simp, HB7.out⟩
theorem macbegins_calls (A0 : Option Addr) (c0 : Nat) (l0 : List Int) (A1 : Option Addr) (c1 : Nat) (l1 : List Int) (x y : Int) (w : World) (hC0 : Kd.C (Kd.int .u8) w A0 l0.length l0) (hc0 : l0.length ≤ c0) (hb0 : ∀ x ∈ l0, byteOk x)
    (hC1 : Kd.C (Kd.int .u8) w A1 l1.length l1) (hc1 : l1.length ≤ c1) (hb1 : ∀ x ∈ l1, byteOk x) :
    Calls Try.prog 10 #[.slice A0 l0.length c0, .slice A1 l1.length c1, .agg #[.int .i64 x, .int .i64 y]] w fun e w' => e = .returned (.bool true) ∧ Below w.heap.size w w' := by
  by_cases h : x < 1 ∨ 60 < x ∨ y < 0 ∨ 900 < y ∨ 3000 < l0.length ∨ 3000 < l1.length
  · exact begins_early A0 _ c0 A1 _ c1 x y w h
  · obtain ⟨Y, rfl⟩ := Int.eq_ofNat_of_zero_le (show 0 ≤ y by omega)
    exact begins_late A0 c0 l0 A1 c1 l1 x (x.toNat - 1) Y w hC0 hc0 hb0 hC1 hc1 hb1 (by omega) (by omega) (by omega) (by omega) (by omega)
end Go.Proofs.Ytfgponalmhocmaa.D
