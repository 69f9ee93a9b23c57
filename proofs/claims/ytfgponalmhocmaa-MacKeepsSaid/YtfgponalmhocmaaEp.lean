/- The law of keeping of layer 11: what a call comes to. -/
import Derived.Test.YtfgponalmhocmaaEn
namespace Go.Proofs.Ytfgponalmhocmaa.D
open Go.RowKit Go.Proofs.YtfgponalmhocmaaW.PrintWords Go.Proofs.YtfgponalmhocmaaW.PrintLast Go.Proofs.YtfgponalmhocmaaW.PrintMore
open Go.Proofs.Ytfgponalmhocmaa.HA Go.Proofs.Ytfgponalmhocmaa.V
set_option linter.unusedVariables false
set_option linter.unusedSimpArgs false

def six : List Int := [1, 2, 3, 4, 5, 6]
theorem C_six (W : World) (o : Nat) {fr : Nat × Nat} (h : W.heap[o]? = some (.cells #[.int .u8 1, .int .u8 2, .int .u8 3, .int .u8 4, .int .u8 5, .int .u8 6] 5 fr)) : Kd.C (Kd.int .u8) W (some ⟨o, 0, none⟩) 6 six :=
  C_rowT (l := six) h (by decide)
theorem mackey_Ln (A0 : Option Addr) (c0 : Nat) (l0 : List Int) (A1 : Option Addr) (n1 c1 : Nat) (l1 : List Int) (rounds long : Int) (r L : Nat) (w : World) (e1 : l1.length = n1) (hC0 : Kd.C (Kd.int .u8) w A0 l0.length l0) (hc0 : l0.length ≤ c0) (hb0 : ∀ x ∈ l0, byteOk x)
    (hC1 : Kd.C (Kd.int .u8) w A1 n1 l1) (hc1 : n1 ≤ c1) (hb1 : ∀ x ∈ l1, byteOk x) (hs0 : l0.length + 200 < 140737488355328) (hs1 : n1 + 300 < 140737488355328) (hr : rounds = (r : Int) + 1) (hl : long = (L : Int)) (hr2 : r + 1 ≤ 5000) (hL : L ≤ 1000) :
    Calls Try.prog 24 #[.slice A0 l0.length c0, .slice A1 n1 c1, .int .i64 rounds, .int .i64 long] w (KeyL L (pkey l0 l1 r L) w) := by
  subst e1
  exact mackey_L A0 c0 l0 A1 c1 l1 rounds long r L w hC0 hc0 hb0 hC1 hc1 hb1 hs0 hs1 hr hl hr2 hL
set_option maxHeartbeats 4000000 in
set_option maxRecDepth 100000 in
theorem mkeeps_early (A0 : Option Addr) (n0 c0 : Nat) (A1 : Option Addr) (n1 c1 : Nat) (w : World) (h : 3000 < n0 ∨ 3000 < n1) :
    Calls Try.prog 11 #[.slice A0 n0 c0, .slice A1 n1 c1] w fun e w' => e = .returned (.bool true) ∧ Below w.heap.size w w' := by
  have hp : ((3000 : Int) < (n0 : Int)) ∨ (¬ (3000 : Int) < (n0 : Int) ∧ (3000 : Int) < (n1 : Int)) := by omega
  clear h
  rcases hp with h1 | ⟨h1, h2⟩
  all_goals
    go_enter Try.func11, Try.ntmps11
    go_wp2_with (first | (go_at_call 20; (with_reducible refine (alive11_calls _).mono ?_); rintro e w1 ⟨rfl, hb1⟩; have HB1 := Aside0.mk hb1; clear hb1) | fail)
    go_ret
    exact ⟨rfl, HB1.out⟩

set_option maxHeartbeats 4000000 in
set_option maxRecDepth 100000 in
theorem mkeeps_late (A0 : Option Addr) (c0 : Nat) (l0 : List Int) (A1 : Option Addr) (c1 : Nat) (l1 : List Int) (n1 : Nat) (w : World) (hn : l1.length = n1) (hC0 : Kd.C (Kd.int .u8) w A0 l0.length l0) (hc0 : l0.length ≤ c0) (hb0 : ∀ x ∈ l0, byteOk x)
    (hC1 : Kd.C (Kd.int .u8) w A1 n1 l1) (hc1 : n1 ≤ c1) (hb1 : ∀ x ∈ l1, byteOk x) (hs0 : l0.length ≤ 3000) (hs1 : n1 ≤ 3000) :
    Calls Try.prog 11 #[.slice A0 l0.length c0, .slice A1 n1 c1] w fun e w' => e = .returned (.bool true) ∧ Below w.heap.size w w' := by
  have HC0 := Aside0.mk hC0
  have HC1 := Aside0.mk hC1
  have HY0 := Aside0.mk hb0
  have HY1 := Aside0.mk hb1
  have HN := Aside0.mk hn
  clear hC0 hC1 hb0 hb1 hn
  have k5 : ¬ (3000 : Int) < (l0.length : Int) := by omega
  have k6 : ¬ (3000 : Int) < (n1 : Int) := by omega
  have hM0 : Aside0 ((([] : List Int).length + n1) * 1 ≤ 140737488355328) := ⟨by simp; omega⟩
  have hM1 : Aside0 ((l1.length + 6) * 1 ≤ 140737488355328) := ⟨by rw [HN.out]; omega⟩
  have hl6 : Aside0 ((l1 ++ six).length = n1 + 6) := ⟨by rw [List.length_append, HN.out]; rfl⟩
  have HBd : Aside0 (Below w.heap.size w w.drew) := ⟨below_drew (Below.refl _ _)⟩
  have HC0d := Aside0.mk (Kd.C_below HC0.out HBd.out)
  have HC1d := Aside0.mk (Kd.C_below HC1.out HBd.out)
  have hstr : Aside0 (∀ W, Kd.C (Kd.int .u8) W A0 l0.length l0 → Kd.C (Kd.int .u8) W A1 n1 l1 → (convert 22 9 (.slice A0 l0.length c0)).run Try.prog W = .ok (.string (strOfNums l0)) W ∧ (convert 22 9 (.slice A1 n1 c1)).run Try.prog W = .ok (.string (strOfNums l1)) W) :=
    ⟨fun W h0 h1 => ⟨str_of h0, str_of h1⟩⟩
  have HE0 := Aside0.mk (hstr.out w.drew HC0d.out HC1d.out)
  go_enter Try.func11, Try.ntmps11
  go_upto_region 3 with fail
  go_region_held3 (fun w' => (convert 22 9 (.slice A0 l0.length c0)).run Try.prog w' = .ok (.string (strOfNums l0)) w' ∧ (convert 22 9 (.slice A1 n1 c1)).run Try.prog w' = .ok (.string (strOfNums l1)) w') (first | exact HE0.out | assumption) (fail)
  generalize hwd : w.drew = w1 at HBd HC0d HC1d HE0 ⊢
  clear hwd HE0
  go_upto_region 5 with (first
    | (refine Kd.R_append_rows (Kd.int .u8) (w0 := w1) w1.heap.size rfl (.tmp 23) (.tmp 24) 22 5 (.int .u8 0) 1 rfl Try.underlying22 info5 rfl (by decide) (by decide) _ [] l1 _ _ _ (fun _ => True) (fun _ => False) rfl rfl (R_litB w1 w1.heap.size (Nat.le_refl _)) (Kd.C_below HC1d.out (below_alloc (Below.refl _ _) _)) (fun _ _ h => h) (fun _ h => h.elim) (fun _ _ => trivial) (below_alloc (Below.refl _ _) _) (by simp) hM0.out ?_; intro v1 w2 ho hb hg hat; rw [List.nil_append] at ho; obtain ⟨A2, c2, hx⟩ := Kd.R_slice ho; subst hx; have HO2 := Aside0.mk ho; have HB2 := Aside0.mk hb; clear ho hb hg hat)
    | (refine Kd.R_append_rows (Kd.int .u8) (w0 := w1) w1.heap.size rfl (.tmp 25) (.tmp 26) 22 5 (.int .u8 0) 1 rfl Try.underlying22 info5 rfl (by decide) (by decide) _ l1 six _ 6 6 (fun _ => True) (fun _ => False) rfl rfl (Kd.R_alloc HO2.out _) (C_six _ _ (blk_new _ _)) (fun _ _ h => h) (fun _ h => h.elim) (fun _ _ => trivial) (below_alloc HB2.out _) (by have := HB2.out.size; simp; omega) hM1.out ?_; intro v1 w3 ho hb hg hat; obtain ⟨A3, c3, hx⟩ := Kd.R_slice ho; subst hx; have hc3 := (Kd.R_reads' ho).2.1; have hC3 := (Kd.R_reads' ho).2.2; rw [hl6.out] at hc3 hC3 ⊢; have HC3 := Aside0.mk hC3; clear hC3; have HC03 := Aside0.mk (Kd.C_below HC0d.out hb); have HC13 := Aside0.mk (Kd.C_below HC1d.out hb); have HB3 := Aside0.mk (below_step HBd.out hb); clear ho hb hg hat)
    | fail)
  obtain ⟨a3, rfl, _⟩ := HC3.out.2.2 (by omega)
  have s1 : (0 : Int) ≤ (n1 : Int) := by omega
  have s2 : (n1 : Int) ≤ (c3 : Int) := by omega
  have HCs : Aside0 (Kd.C (Kd.int .u8) w3 (some a3) n1 l1) := ⟨by
    have h3 := Kd.C_take (m := n1) (xs := l1 ++ six) (by rw [hl6.out]; exact HC3.out) (by rw [hl6.out]; omega)
    rw [List.take_append_of_le_length (by rw [HN.out]; exact Nat.le_refl _), List.take_of_length_le (by rw [HN.out]; exact Nat.le_refl _), HN.out] at h3
    exact h3⟩
  have HC6 : Aside0 (Kd.C (Kd.int .u8) w3 (some (a3.add n1)) 6 six) := ⟨by
    have h3 := C_part (l := l1 ++ six) (ad := a3) (by rw [hl6.out]; exact HC3.out) n1 6 (by rw [hl6.out]; omega)
    rw [List.drop_append_of_le_length (by rw [HN.out]; exact Nat.le_refl _), List.drop_of_length_le (by rw [HN.out]; exact Nat.le_refl _), List.nil_append] at h3
    exact h3⟩
  go_upto_region 7 with (first
    | (go_at_call 24; (with_reducible refine (mackey_Ln A0 c0 l0 (some a3) n1 c3 l1 2 30 1 30 _ HN.out HC03.out hc0 HY0.out HCs.out (by omega) HY1.out (by omega) (by omega) rfl rfl (by decide) (by decide)).mono ?_); rintro e w4 ⟨Ak, ck, rfl, hck, hCk, hb4⟩; have HB4 := Aside0.mk (below_step HB3.out hb4); have HC04 := Aside0.mk (Kd.C_below HC03.out hb4); have HC14 := Aside0.mk (Kd.C_below HC13.out hb4); have HC64 := Aside0.mk (Kd.C_below HC6.out hb4); clear hCk hb4)
    | (go_at_call 21; (with_reducible refine (macsum_n A0 _ c0 l0 A1 n1 c1 l1 _ rfl HN.out HC04.out hc0 HY0.out HC14.out hc1 HY1.out (by omega) (by omega)).mono ?_); rintro e w5 ⟨rfl, hb5⟩; have HB5 := Aside0.mk (below_step HB4.out hb5); have HC05 := Aside0.mk (Kd.C_below HC04.out hb5); have HC15 := Aside0.mk (Kd.C_below HC14.out hb5); have HC65 := Aside0.mk (Kd.C_below HC64.out hb5); clear hb5)
    | fail)
  have s3 : ¬ c3 = n1 := by omega
  have s4 : (n1 : Int) ≤ ((n1 + 6 : Nat) : Int) := by omega
  have e6 : (strOfNums six) = ⟨#[1, 2, 3, 4, 5, 6]⟩ := rfl
  go_wp2_with (first
    | (go_at_call 20; (with_reducible refine (alive11_calls _).mono ?_); rintro e w6 ⟨rfl, hb6⟩; have HB6 := Aside0.mk (below_step HB5.out hb6); have t1 := str_of (c := c0) (Kd.C_below HC05.out hb6); have t2 := str_of (c := c1) (Kd.C_below HC15.out hb6); have t3 := str_of (c := c3 - n1) (Kd.C_below HC65.out hb6); rw [e6] at t3; clear hb6)
    | fail)
  go_ret
  exact ⟨by first | rfl | simp, HB6.out⟩
theorem mackeeps_calls (A0 : Option Addr) (c0 : Nat) (l0 : List Int) (A1 : Option Addr) (c1 : Nat) (l1 : List Int) (w : World) (hC0 : Kd.C (Kd.int .u8) w A0 l0.length l0) (hc0 : l0.length ≤ c0) (hb0 : ∀ x ∈ l0, byteOk x)
    (hC1 : Kd.C (Kd.int .u8) w A1 l1.length l1) (hc1 : l1.length ≤ c1) (hb1 : ∀ x ∈ l1, byteOk x) :
    Calls Try.prog 11 #[.slice A0 l0.length c0, .slice A1 l1.length c1] w fun e w' => e = .returned (.bool true) ∧ Below w.heap.size w w' := by
  by_cases h : 3000 < l0.length ∨ 3000 < l1.length
  · exact mkeeps_early A0 _ c0 A1 _ c1 w h
  · exact mkeeps_late A0 c0 l0 A1 c1 l1 _ w rfl hC0 hc0 hb0 hC1 hc1 hb1 (by omega) (by omega)
end Go.Proofs.Ytfgponalmhocmaa.D
