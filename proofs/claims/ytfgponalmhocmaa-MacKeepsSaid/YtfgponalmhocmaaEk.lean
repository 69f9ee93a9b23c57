/- Refused keys; the law of keys of layer 11: what a call comes to. -/
import Derived.Test.YtfgponalmhocmaaEj
namespace Go.Proofs.Ytfgponalmhocmaa.D
open Go.RowKit Go.Proofs.YtfgponalmhocmaaW.PrintWords Go.Proofs.YtfgponalmhocmaaW.PrintLast Go.Proofs.YtfgponalmhocmaaW.PrintMore
open Go.Proofs.Ytfgponalmhocmaa.HA Go.Proofs.Ytfgponalmhocmaa.V
set_option linter.unusedVariables false
set_option linter.unusedSimpArgs false

def badAsk (rounds long : Int) : Prop := rounds < 1 ∨ 5000 < rounds ∨ long < 0 ∨ 1000 < long
theorem badAsk.parts {r l : Int} (h : badAsk r l) : r < 1 ∨ (¬ r < 1 ∧ 5000 < r) ∨ (¬ r < 1 ∧ ¬ 5000 < r ∧ l < 0) ∨ (¬ r < 1 ∧ ¬ 5000 < r ∧ ¬ l < 0 ∧ 1000 < l) := by
  unfold badAsk at h
  omega
set_option maxHeartbeats 4000000 in
set_option maxRecDepth 100000 in
theorem mackey_no (v0 v1 : Value) (rounds long : Int) (w : World) (h : badAsk rounds long) :
    Calls Try.prog 24 #[v0, v1, .int .i64 rounds, .int .i64 long] w fun e w' => e = .returned (.tuple #[.slice none 0 0, .bool false]) ∧ w = w' := by
  rcases h.parts with h1 | ⟨h1, h2⟩ | ⟨h1, h2, h3⟩ | ⟨h1, h2, h3, h4⟩
  all_goals
    clear h
    go_enter Try.func24, Try.ntmps24
    go_wp2_with fail
    go_ret2
    exact ⟨rfl, rfl⟩
set_option maxHeartbeats 4000000 in
set_option maxRecDepth 100000 in
theorem refkey_no (v0 v1 : Value) (rounds long : Int) (w : World) (h : badAsk rounds long) :
    Calls Try.prog 25 #[v0, v1, .int .i64 rounds, .int .i64 long] w fun e w' => e = .returned (.tuple #[.slice none 0 0, .bool false]) ∧ w = w' := by
  rcases h.parts with h1 | ⟨h1, h2⟩ | ⟨h1, h2, h3⟩ | ⟨h1, h2, h3, h4⟩
  all_goals
    clear h
    go_enter Try.func25, Try.ntmps25
    go_wp2_with fail
    go_ret2
    exact ⟨rfl, rfl⟩
theorem mackey_yes (A0 : Option Addr) (c0 : Nat) (l0 : List Int) (A1 : Option Addr) (c1 : Nat) (l1 : List Int) (rounds long : Int) (w : World) (hC0 : Kd.C (Kd.int .u8) w A0 l0.length l0) (hc0 : l0.length ≤ c0) (hb0 : ∀ x ∈ l0, byteOk x)
    (hC1 : Kd.C (Kd.int .u8) w A1 l1.length l1) (hc1 : l1.length ≤ c1) (hb1 : ∀ x ∈ l1, byteOk x) (hs0 : l0.length + 200 < 140737488355328) (hs1 : l1.length + 300 < 140737488355328) (h : ¬ badAsk rounds long) :
    Calls Try.prog 24 #[.slice A0 l0.length c0, .slice A1 l1.length c1, .int .i64 rounds, .int .i64 long] w (KeyV (pkey l0 l1 (rounds.toNat - 1) long.toNat) w) := by
  unfold badAsk at h
  have e : long = (long.toNat : Int) := by omega
  have := mackey_calls A0 c0 l0 A1 c1 l1 rounds (rounds.toNat - 1) long.toNat w (by omega) hC0 hc0 hb0 hC1 hc1 hb1 hs0 hs1 (by omega) (by omega)
  rw [← e] at this
  exact this
theorem refkey_yes (A0 : Option Addr) (c0 : Nat) (l0 : List Int) (A1 : Option Addr) (c1 : Nat) (l1 : List Int) (rounds long : Int) (w : World) (hC0 : Kd.C (Kd.int .u8) w A0 l0.length l0) (hc0 : l0.length ≤ c0) (hb0 : ∀ x ∈ l0, byteOk x)
    (hC1 : Kd.C (Kd.int .u8) w A1 l1.length l1) (hc1 : l1.length ≤ c1) (hb1 : ∀ x ∈ l1, byteOk x) (hs0 : l0.length + 200 < 140737488355328) (hs1 : l1.length + 304 < 140737488355328) (h : ¬ badAsk rounds long) :
    Calls Try.prog 25 #[.slice A0 l0.length c0, .slice A1 l1.length c1, .int .i64 rounds, .int .i64 long] w (KeyV (pkey l0 l1 (rounds.toNat - 1) long.toNat) w) := by
  unfold badAsk at h
  have e : long = (long.toNat : Int) := by omega
  have := refkey_calls A0 c0 l0 A1 c1 l1 rounds (rounds.toNat - 1) long.toNat w (by omega) hC0 hc0 hb0 hC1 hc1 hb1 hs0 hs1 (by omega) (by omega)
  rw [← e] at this
  exact this

set_option maxHeartbeats 4000000 in
set_option maxRecDepth 100000 in
theorem keys_early (A0 : Option Addr) (n0 c0 : Nat) (A1 : Option Addr) (n1 c1 : Nat) (x y : Int) (w : World) (h : (60 < x ∧ x ≤ 5000) ∨ 3000 < n0 ∨ 3000 < n1) :
    Calls Try.prog 9 #[.slice A0 n0 c0, .slice A1 n1 c1, .agg #[.int .i64 x, .int .i64 y]] w fun e w' => e = .returned (.bool true) ∧ Below w.heap.size w w' := by
  have hp : (60 < x ∧ x ≤ 5000) ∨ (¬ 60 < x ∧ (3000 : Int) < (n0 : Int)) ∨ (60 < x ∧ ¬ x ≤ 5000 ∧ (3000 : Int) < (n0 : Int)) ∨ (¬ 60 < x ∧ ¬ (3000 : Int) < (n0 : Int) ∧ (3000 : Int) < (n1 : Int)) ∨ (60 < x ∧ ¬ x ≤ 5000 ∧ ¬ (3000 : Int) < (n0 : Int) ∧ (3000 : Int) < (n1 : Int)) := by omega
  clear h
  have HB0 : Aside0 (Below w.heap.size w (w.alloc (.cells #[.int .i64 x, .int .i64 y] 37))) := ⟨below_alloc (Below.refl _ _) _⟩
  rcases hp with ⟨h1, h2⟩ | ⟨h1, h2⟩ | ⟨h1, h2, h3⟩ | ⟨h1, h2, h3⟩ | ⟨h1, h2, h3, h4⟩
  all_goals
    go_enter Try.func9, Try.ntmps9
    go_wp2_with (first | (go_at_call 20; (with_reducible refine (alive11_calls _).mono ?_); rintro e w1 ⟨rfl, hb1⟩; have HB1 := Aside0.mk (below_step HB0.out hb1); clear hb1) | fail)
    go_ret
    exact ⟨rfl, HB1.out⟩

theorem str_of {W : World} {A : Option Addr} {n c : Nat} {l : List Int} (h : Kd.C (Kd.int .u8) W A n l) : (convert 22 9 (.slice A n c)).run Try.prog W = .ok (.string (strOfNums l)) W := Kd.C_string Try.underlying22 Try.underlying5 Try.underlying9 h
theorem str_nil (W : World) : (convert 22 9 (.slice none 0 0)).run Try.prog W = .ok (.string (strOfNums [])) W := str_of (l := []) (Kd.C_nil (Kd.int .u8) W)

set_option maxHeartbeats 4000000 in
set_option maxRecDepth 100000 in
theorem keys_late (A0 : Option Addr) (c0 : Nat) (l0 : List Int) (A1 : Option Addr) (c1 : Nat) (l1 : List Int) (x y : Int) (w : World) (hC0 : Kd.C (Kd.int .u8) w A0 l0.length l0) (hc0 : l0.length ≤ c0) (hb0 : ∀ x ∈ l0, byteOk x)
    (hC1 : Kd.C (Kd.int .u8) w A1 l1.length l1) (hc1 : l1.length ≤ c1) (hb1 : ∀ x ∈ l1, byteOk x) (hs0 : l0.length ≤ 3000) (hs1 : l1.length ≤ 3000) (h : ¬ (60 < x ∧ x ≤ 5000)) :
    Calls Try.prog 9 #[.slice A0 l0.length c0, .slice A1 l1.length c1, .agg #[.int .i64 x, .int .i64 y]] w fun e w' => e = .returned (.bool true) ∧ Below w.heap.size w w' := by
  have HC0 := Aside0.mk hC0
  have HC1 := Aside0.mk hC1
  have HY0 := Aside0.mk hb0
  have HY1 := Aside0.mk hb1
  clear hC0 hC1 hb0 hb1
  have hp : (¬ 60 < x) ∨ (60 < x ∧ ¬ x ≤ 5000) := by omega
  clear h
  have k3 : ¬ (3000 : Int) < (l0.length : Int) := by omega
  have k4 : ¬ (3000 : Int) < (l1.length : Int) := by omega
  generalize hw0 : w.alloc (.cells #[.int .i64 x, .int .i64 y] 37) = w0
  have HB0 : Aside0 (Below w.heap.size w w0) := ⟨by rw [← hw0]; exact below_alloc (Below.refl _ _) _⟩
  have HX0 : Aside0 (w0.heap[w.heap.size]? = some (.cells #[.int .i64 x, .int .i64 y] 37 (0, 0))) := ⟨by rw [← hw0]; exact blk_new _ _⟩
  have HC00 := Aside0.mk (Kd.C_below HC0.out HB0.out)
  have HC10 := Aside0.mk (Kd.C_below HC1.out HB0.out)
  replace hw0 := Aside0.mk hw0
  by_cases hbad : badAsk x y
  · have HBAD := Aside0.mk hbad
    clear hbad
    have hn := str_nil
    rcases hp with h1 | ⟨h1, h2⟩
    all_goals
      go_enter Try.func9, Try.ntmps9
      go_wp2_with (first
        | (go_at_call 24; rw [hw0.out]; (with_reducible refine (mackey_no _ _ x y _ HBAD.out).mono ?_); rintro e w1 ⟨rfl, rfl⟩; have cx := (blk_cell HX0.out 0).trans rfl; have cy := (blk_cell HX0.out 1).trans rfl)
        | (go_at_call 25; (with_reducible refine (refkey_no _ _ x y _ HBAD.out).mono ?_); rintro e w1 ⟨rfl, rfl⟩; clear cx cy)
        | (go_at_call 20; (with_reducible refine (alive11_calls _).mono ?_); rintro e w1 ⟨rfl, hb1⟩; have HB1 := Aside0.mk (below_step HB0.out hb1); clear hb1)
        | fail)
      go_ret
      exact ⟨by first | rfl | simp, HB1.out⟩
  · have HBAD := Aside0.mk hbad
    clear hbad
    rcases hp with h1 | ⟨h1, h2⟩
    all_goals
      go_enter Try.func9, Try.ntmps9
      go_wp2_with (first
        | (go_at_call 24; rw [hw0.out]; (with_reducible refine (mackey_yes A0 c0 l0 A1 c1 l1 x y _ HC00.out hc0 HY0.out HC10.out hc1 HY1.out (by omega) (by omega) HBAD.out).mono ?_); rintro e w1 ⟨Ak, ck, rfl, hck, hCk, hb1⟩; have cx := (blk_cell (blk_below HX0.out hb1) 0).trans rfl; have cy := (blk_cell (blk_below HX0.out hb1) 1).trans rfl; have HB1 := Aside0.mk (below_step HB0.out hb1); have HCk := Aside0.mk hCk; have HC01 := Aside0.mk (Kd.C_below HC00.out hb1); have HC11 := Aside0.mk (Kd.C_below HC10.out hb1); clear hCk hb1)
        | (go_at_call 25; (with_reducible refine (refkey_yes A0 c0 l0 A1 c1 l1 x y _ HC01.out hc0 HY0.out HC11.out hc1 HY1.out (by omega) (by omega) HBAD.out).mono ?_); rintro e w2 ⟨Am, cm, rfl, hcm, hCm, hb2⟩; have HB2 := Aside0.mk (below_step HB1.out hb2); have HCk2 := Aside0.mk (Kd.C_below HCk.out hb2); have HCm := Aside0.mk hCm; clear cx cy hCm hb2)
        | (go_at_call 20; (with_reducible refine (alive11_calls _).mono ?_); rintro e w3 ⟨rfl, hb3⟩; have HB3 := Aside0.mk (below_step HB2.out hb3); have t1 := str_of (c := ck) (Kd.C_below HCk2.out hb3); have t2 := str_of (c := cm) (Kd.C_below HCm.out hb3); clear hb3)
        | fail)
      go_ret
      exact ⟨by first | rfl | simp, HB3.out⟩
theorem mackeys_calls (A0 : Option Addr) (c0 : Nat) (l0 : List Int) (A1 : Option Addr) (c1 : Nat) (l1 : List Int) (x y : Int) (w : World) (hC0 : Kd.C (Kd.int .u8) w A0 l0.length l0) (hc0 : l0.length ≤ c0) (hb0 : ∀ x ∈ l0, byteOk x)
    (hC1 : Kd.C (Kd.int .u8) w A1 l1.length l1) (hc1 : l1.length ≤ c1) (hb1 : ∀ x ∈ l1, byteOk x) :
    Calls Try.prog 9 #[.slice A0 l0.length c0, .slice A1 l1.length c1, .agg #[.int .i64 x, .int .i64 y]] w fun e w' => e = .returned (.bool true) ∧ Below w.heap.size w w' := by
  by_cases h : (60 < x ∧ x ≤ 5000) ∨ 3000 < l0.length ∨ 3000 < l1.length
  · exact keys_early A0 l0.length c0 A1 l1.length c1 x y w h
  · exact keys_late A0 c0 l0 A1 c1 l1 x y w hC0 hc0 hb0 hC1 hc1 hb1 (by omega) (by omega) (by omega)
end Go.Proofs.Ytfgponalmhocmaa.D
