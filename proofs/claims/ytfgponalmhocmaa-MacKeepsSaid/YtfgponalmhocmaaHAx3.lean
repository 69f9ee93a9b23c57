/- What calls of these Go functions come to, as plain Lean functions, each with its proof; printed for this claim by a program of this session. -/
import Derived.Test.YtfgponalmhocmaaHAx0
namespace Go.Proofs.Ytfgponalmhocmaa.HA
open Go.RowKit Go.Proofs.YtfgponalmhocmaaW.PrintWords Go.Proofs.YtfgponalmhocmaaW.PrintLast Go.Proofs.YtfgponalmhocmaaW.PrintMore
attribute [local go_sem] max2_int min2_int max_two min_two max_three min_three max_four min_four   -- for this text's walks alone
set_option linter.unusedVariables false
set_option linter.unusedSimpArgs false

-- NOT PRINTED: function 27 (wainloadref10_block)

-- NOT PRINTED: function 16 (wainloadref10_Sum)

-- NOT PRINTED: function 3 (wainloadlaw10_DigestSums)

-- NOT PRINTED: function 4 (wainloadlaw10_DigestPieces)

-- NOT PRINTED: function 5 (wainloadlaw10_DigestLong)

-- NOT PRINTED: function 6 (wainloadlaw10_DigestKeeps)

-- NOT PRINTED: function 37 (mac_padded)

-- NOT PRINTED: function 29 (mac_halves)

-- NOT PRINTED: function 30 (mac_sum)

-- NOT PRINTED: function 21 (mac_Sum)

/-! ### mac_Same: function 23 -/
def mac_Same.l0 : Nat → List Int → List Int → Int → Int → Int → Option (Bool)
  | 0, _, _, _, _, _ => none
  | k + 1, x0, x1, x5, x13, x14 => if x14 < x13 then (if 0 ≤ x14 then (if x14 < (x0.length : Int) then (if x14 < (x1.length : Int) then (mac_Same.l0 k x0 x1 (Go.bits .or .u8 x5 (Go.bits .xor .u8 (rd x0 x14) (rd x1 x14))) x13 (wrap64 (x14 + 1))) else (none)) else (none)) else (none)) else (some (x5 == 0))
def mac_Same.f (k : Nat) (l0 : List Int) (l1 : List Int) : Option (Bool) := if (l0.length : Int) = (l1.length : Int) then (mac_Same.l0 k l0 l1 0 (l0.length : Int) 0) else (some false)
theorem mac_Same.mono_l : ∀ k, (∀ y0 y1 y2 y3 y4, LeO (mac_Same.l0 k y0 y1 y2 y3 y4) (mac_Same.l0 (k + 1) y0 y1 y2 y3 y4))
  | 0 => fun _ _ _ _ _ r h => by simp [mac_Same.l0] at h
  | k + 1 => by
    have ih0 := mac_Same.mono_l k
    · intro y0 y1 y2 y3 y4
      unfold mac_Same.l0
      repeat' first
      | (with_reducible exact ih0 _ _ _ _ _)
      | (with_reducible exact LeO.refl _)
      | (with_reducible exact LeO.none _)
      | (with_reducible refine LeO.ite ?_ ?_)
      | (with_reducible refine LeO.bind ?_ (fun _ => ?_))
      | exact ih0 _ _ _ _ _
      | exact LeO.none _
      | refine LeO.ite ?_ ?_
      | refine LeO.bind ?_ (fun _ => ?_)
theorem mac_Same.mono : ∀ a0 a1 k, LeO (mac_Same.f k a0 a1) (mac_Same.f (k + 1) a0 a1) := by
  intro a0 a1 k
  have ih0 := mac_Same.mono_l k
  unfold mac_Same.f
  repeat' first
      | (with_reducible exact ih0 _ _ _ _ _)
      | (with_reducible exact LeO.refl _)
      | (with_reducible exact LeO.none _)
      | (with_reducible refine LeO.ite ?_ ?_)
      | (with_reducible refine LeO.bind ?_ (fun _ => ?_))
      | exact ih0 _ _ _ _ _
      | exact LeO.none _
      | refine LeO.ite ?_ ?_
      | refine LeO.bind ?_ (fun _ => ?_)
set_option maxHeartbeats 8000000 in
set_option maxRecDepth 100000 in
theorem mac_Same.calls (k : Nat) (A0 : Option Addr) (c0 : Nat) (l0 : List Int) (A1 : Option Addr) (c1 : Nat) (l1 : List Int) (r : Bool) (w : World) (hr0 : Kd.C (Kd.int .u8) w A0 l0.length l0) (hc0 : l0.length ≤ c0) (hr1 : Kd.C (Kd.int .u8) w A1 l1.length l1) (hc1 : l1.length ≤ c1) (h : mac_Same.f k l0 l1 = some r) :
    Calls Try.prog 23 #[.slice A0 l0.length c0, .slice A1 l1.length c1] w fun e w' => e = .returned (.bool r) ∧ Drawn0 w w' := by
  have HR0 := Aside0.mk hr0
  have HC0 := Aside0.mk hc0
  clear hr0 hc0
  have HR1 := Aside0.mk hr1
  have HC1 := Aside0.mk hc1
  clear hr1 hc1
  have H : (if (l0.length : Int) = (l1.length : Int) then (mac_Same.l0 k l0 l1 0 (l0.length : Int) 0) else (some false)) = some r := h
  clear h
  by_cases c3 : (l0.length : Int) = (l1.length : Int)
  · rw [if_pos c3] at H
    have c3b0 : ((l0.length : Int) == (l1.length : Int)) = true := beq_iff_eq.mpr c3
    have c3b1 : ((l0.length : Int) != (l1.length : Int)) = false := bne_eq_false_iff_eq.mpr c3
    have c3b2 : (l0.length == l1.length) = true := by first | simpa using c3 | (simp at c3 ⊢; omega)
    clear c3
    have H' := Aside0.mk H
    clear H
    go_enter Try.func23, Try.ntmps23
    go_wp2
    repeat (go_quiet (fail); try go_wp2)
    go_loopg [5, 14] k (fun kq v5 v14 w' => ∃ (x5_1 : Int) (x14_1 : Int), v5 = .int .u8 x5_1 ∧ v14 = .int .i64 x14_1 ∧ Aside0 (mac_Same.l0 kq l0 l1 x5_1 (l0.length : Int) x14_1 = some r) ∧ Aside0 (kq ≤ k) ∧ Drawn0 w w')
    case atStart => exact ⟨(0), (0), (by first | rfl | (simp; done) | (simp [*]; done)), (by first | rfl | (simp; done) | (simp [*]; done)), H', ⟨Nat.le_refl _⟩, by repeat (first | exact Drawn0.refl _ | apply Drawn0.step)⟩
    case round =>
      clear H'
      try clear c1
      try clear c2
      try clear p2
      try clear c3
      try clear c3b0
      try clear c3b1
      try clear c3b2
      obtain ⟨x5_1, x14_1, rfl, rfl, HA, HK1, ⟨m1, rfl⟩⟩ := hrel
      cases gk with
      | zero => exact absurd HA.out (by simp [mac_Same.l0])
      | succ k1 =>
        have H := HA.out
        clear HA
        simp only [mac_Same.l0] at H
        by_cases c4 : x14_1 < (l0.length : Int)
        · rw [if_pos c4] at H
          have c4b0 : decide (x14_1 < (l0.length : Int)) = true := decide_eq_true c4
          clear c4
          by_cases c5 : 0 ≤ x14_1
          · rw [if_pos c5] at H
            have c5b0 : decide (0 ≤ x14_1) = true := decide_eq_true c5
            clear c5
            by_cases c6 : x14_1 < (l0.length : Int)
            · rw [if_pos c6] at H
              have c6b0 : decide (x14_1 < (l0.length : Int)) = true := decide_eq_true c6
              clear c6
              by_cases c7 : x14_1 < (l1.length : Int)
              · rw [if_pos c7] at H
                have c7b0 : decide (x14_1 < (l1.length : Int)) = true := decide_eq_true c7
                clear c7
                have H' := Aside0.mk H
                clear H
                have p138 : 0 ≤ (x14_1 : Int) := of_decide_eq_true (by first | (with_reducible assumption) | assumption)
                have q138 : x14_1 < (l0.length : Int) := of_decide_eq_true (by first | (with_reducible assumption) | assumption)
                obtain ⟨ad138, e138, hx138_0⟩ := Kd.at_int HR0.out x14_1 p138 q138
                cases e138
                replace p138 := eq_true p138
                replace q138 := eq_true q138
                have p139 : 0 ≤ (x14_1 : Int) := of_decide_eq_true (by first | (with_reducible assumption) | assumption)
                have q139 : x14_1 < (l1.length : Int) := of_decide_eq_true (by first | (with_reducible assumption) | assumption)
                obtain ⟨ad139, e139, hx139_0⟩ := Kd.at_int HR1.out x14_1 p139 q139
                cases e139
                replace p139 := eq_true p139
                replace q139 := eq_true q139
                go_wp2
                repeat (go_quiet (fail); try go_wp2)
                go_roundg k1
                case measure => have := HK1.out; omega
                case rel => exact ⟨(Go.bits .or .u8 x5_1 (Go.bits .xor .u8 (rd l0 x14_1) (rd l1 x14_1))), (wrap64 (x14_1 + 1)), (by first | rfl | (simp; done) | (simp [*]; done)), (by first | rfl | (simp; done) | (simp [*]; done)), H', ⟨by have := HK1.out; omega⟩, by repeat (first | exact Drawn0.refl _ | apply Drawn0.step)⟩
              · rw [if_neg c7] at H
                exact absurd H (by simp)
            · rw [if_neg c6] at H
              exact absurd H (by simp)
          · rw [if_neg c5] at H
            exact absurd H (by simp)
        · rw [if_neg c4] at H
          have c4b0 : decide (x14_1 < (l0.length : Int)) = false := decide_eq_false c4
          clear c4
          obtain rfl := Option.some.inj H
          go_wp2
          repeat (go_quiet (fail); try go_wp2)
          go_ret
          exact ⟨by first | rfl | (simp; done) | (simp [*]; done), by repeat (first | exact Drawn0.refl _ | apply Drawn0.step)⟩
  · rw [if_neg c3] at H
    have c3b0 : ((l0.length : Int) == (l1.length : Int)) = false := beq_eq_false_iff_ne.mpr c3
    have c3b1 : ((l0.length : Int) != (l1.length : Int)) = true := bne_iff_ne.mpr c3
    have c3b2 : (l0.length == l1.length) = false := by first | simpa using c3 | (simp at c3 ⊢; omega)
    obtain rfl := Option.some.inj H
    go_enter Try.func23, Try.ntmps23
    go_wp2
    repeat (go_quiet (fail); try go_wp2)
    go_ret
    exact ⟨by first | rfl | (simp; done) | (simp [*]; done), by repeat (first | exact Drawn0.refl _ | apply Drawn0.step)⟩

-- NOT PRINTED: function 24 (mac_Key)

-- NOT PRINTED: function 20 (wainloadlaw11_alive)

-- NOT PRINTED: function 31 (wainloadref11_with)

-- NOT PRINTED: function 22 (wainloadref11_Sum)

-- NOT PRINTED: function 7 (wainloadlaw11_MacSums)

-- NOT PRINTED: function 8 (wainloadlaw11_MacSame)

-- NOT PRINTED: function 25 (wainloadref11_Key)

-- NOT PRINTED: function 9 (wainloadlaw11_MacKeys)

-- NOT PRINTED: function 10 (wainloadlaw11_MacBegins)

-- NOT PRINTED: function 11 (wainloadlaw11_MacKeeps)

-- NOT PRINTED: function 12 (wainloadlaw11_MacLong)

-- NOT PRINTED: function 13 (wainloadlaw11_MacOne)

end Go.Proofs.Ytfgponalmhocmaa.HA
