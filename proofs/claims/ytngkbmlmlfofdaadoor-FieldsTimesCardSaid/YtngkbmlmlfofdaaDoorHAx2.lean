/- What calls of these Go functions come to, as plain Lean functions, each with its proof; printed for this claim by a program of this session. -/
import Derived.Test.YtngkbmlmlfofdaaDoorHAx0
import Derived.Test.YtngkbmlmlfofdaaDoorHAx1
namespace Go.Proofs.YtngkbmlmlfofdaaDoor.HA
open Go.RowKit Go.Proofs.YtngkbmlmlfofdaaDoorW.PrintWords Go.Proofs.YtngkbmlmlfofdaaDoorW.PrintLast Go.Proofs.YtngkbmlmlfofdaaDoorW.PrintMore
attribute [local go_sem] max2_int min2_int max_two min_two max_three min_three max_four min_four   -- for this text's walks alone
set_option linter.unusedVariables false
set_option linter.unusedSimpArgs false

/-! ### wainloadref03_Octal: function 11 -/
mutual
def wainloadref03_Octal.j0 : Nat → List Int → Int → Bool → Option (Int × Int)
  | 0, _, _, _ => none
  | k + 1, x0, x4, x15 => if x15 = true then (wainloadref03_Octal.l0 k x0 x4 1) else (wainloadref03_Octal.l1 k x0 x4 0)
def wainloadref03_Octal.l0 : Nat → List Int → Int → Int → Option (Int × Int)
  | 0, _, _, _ => none
  | k + 1, x0, x4, x5 => if x5 < (x0.length : Int) then (if 0 ≤ x5 then ((wainloadref03_add.f x4 256 (wrap64 (rd x0 x5))).bind fun t103 => (wainloadref03_Octal.l0 k x0 t103 (wrap64 (x5 + 1)))) else (none)) else (if x4 < 0 then (some (0, 31)) else (some (x4, 0)))
def wainloadref03_Octal.j3 : Nat → List Int → Int → Int → Option (Int × Int)
  | 0, _, _, _ => none
  | k + 1, x0, x4, x6 => wainloadref03_Octal.l2 k x0 x4 x6
def wainloadref03_Octal.j5 : Nat → List Int → Int → Int → Option (Int × Int)
  | 0, _, _, _ => none
  | k + 1, x0, x4, x6 => wainloadref03_Octal.l3 k x0 x4 x6
def wainloadref03_Octal.l3 : Nat → List Int → Int → Int → Option (Int × Int)
  | 0, _, _, _ => none
  | k + 1, x0, x4, x6 => if x6 < (x0.length : Int) then (if 0 ≤ x6 then (if (rd x0 x6) = 32 then (wainloadref03_Octal.l3 k x0 x4 (wrap64 (x6 + 1))) else (if (rd x0 x6) = 0 then (wainloadref03_Octal.l3 k x0 x4 (wrap64 (x6 + 1))) else (some (0, 30)))) else (none)) else (if x4 < 0 then (some (0, 31)) else (some (x4, 0)))
def wainloadref03_Octal.l2 : Nat → List Int → Int → Int → Option (Int × Int)
  | 0, _, _, _ => none
  | k + 1, x0, x4, x6 => if x6 < (x0.length : Int) then (if 0 ≤ x6 then (if (rd x0 x6) ≥ 48 then (if (rd x0 x6) ≤ 55 then ((wainloadref03_add.f x4 8 (wrap64 ((wrap64 (rd x0 x6)) - 48))).bind fun t108 => (wainloadref03_Octal.l2 k x0 t108 (wrap64 (x6 + 1)))) else (wainloadref03_Octal.j5 k x0 x4 x6)) else (wainloadref03_Octal.j5 k x0 x4 x6)) else (none)) else (wainloadref03_Octal.j5 k x0 x4 x6)
def wainloadref03_Octal.l1 : Nat → List Int → Int → Int → Option (Int × Int)
  | 0, _, _, _ => none
  | k + 1, x0, x4, x6 => if x6 < (x0.length : Int) then (if 0 ≤ x6 then (if (rd x0 x6) = 32 then (wainloadref03_Octal.l1 k x0 x4 (wrap64 (x6 + 1))) else (wainloadref03_Octal.j3 k x0 x4 x6)) else (none)) else (wainloadref03_Octal.j3 k x0 x4 x6)
end
def wainloadref03_Octal.f (k : Nat) (l0 : List Int) : Option (Int × Int) := if (l0.length : Int) > 0 then (if 0 < (l0.length : Int) then (wainloadref03_Octal.j0 k l0 0 ((rd l0 0) == 128)) else (none)) else (wainloadref03_Octal.j0 k l0 0 false)
theorem wainloadref03_Octal.mono_l : ∀ k, (∀ y0 y1 y2, LeO (wainloadref03_Octal.j0 k y0 y1 y2) (wainloadref03_Octal.j0 (k + 1) y0 y1 y2)) ∧ (∀ y0 y1 y2, LeO (wainloadref03_Octal.l0 k y0 y1 y2) (wainloadref03_Octal.l0 (k + 1) y0 y1 y2)) ∧ (∀ y0 y1 y2, LeO (wainloadref03_Octal.j3 k y0 y1 y2) (wainloadref03_Octal.j3 (k + 1) y0 y1 y2)) ∧ (∀ y0 y1 y2, LeO (wainloadref03_Octal.j5 k y0 y1 y2) (wainloadref03_Octal.j5 (k + 1) y0 y1 y2)) ∧ (∀ y0 y1 y2, LeO (wainloadref03_Octal.l3 k y0 y1 y2) (wainloadref03_Octal.l3 (k + 1) y0 y1 y2)) ∧ (∀ y0 y1 y2, LeO (wainloadref03_Octal.l2 k y0 y1 y2) (wainloadref03_Octal.l2 (k + 1) y0 y1 y2)) ∧ (∀ y0 y1 y2, LeO (wainloadref03_Octal.l1 k y0 y1 y2) (wainloadref03_Octal.l1 (k + 1) y0 y1 y2))
  | 0 => ⟨fun _ _ _ r h => by simp [wainloadref03_Octal.j0] at h, fun _ _ _ r h => by simp [wainloadref03_Octal.l0] at h, fun _ _ _ r h => by simp [wainloadref03_Octal.j3] at h, fun _ _ _ r h => by simp [wainloadref03_Octal.j5] at h, fun _ _ _ r h => by simp [wainloadref03_Octal.l3] at h, fun _ _ _ r h => by simp [wainloadref03_Octal.l2] at h, fun _ _ _ r h => by simp [wainloadref03_Octal.l1] at h⟩
  | k + 1 => by
    obtain ⟨ih0, ih1, ih2, ih3, ih4, ih5, ih6⟩ := wainloadref03_Octal.mono_l k
    refine ⟨?_, ?_, ?_, ?_, ?_, ?_, ?_⟩
    · intro y0 y1 y2
      unfold wainloadref03_Octal.j0
      repeat' first
      | (with_reducible exact ih0 _ _ _)
      | (with_reducible exact ih1 _ _ _)
      | (with_reducible exact ih2 _ _ _)
      | (with_reducible exact ih3 _ _ _)
      | (with_reducible exact ih4 _ _ _)
      | (with_reducible exact ih5 _ _ _)
      | (with_reducible exact ih6 _ _ _)
      | (with_reducible exact LeO.refl _)
      | (with_reducible exact LeO.none _)
      | (with_reducible refine LeO.ite ?_ ?_)
      | (with_reducible refine LeO.bind ?_ (fun _ => ?_))
      | exact ih0 _ _ _
      | exact ih1 _ _ _
      | exact ih2 _ _ _
      | exact ih3 _ _ _
      | exact ih4 _ _ _
      | exact ih5 _ _ _
      | exact ih6 _ _ _
      | exact LeO.none _
      | refine LeO.ite ?_ ?_
      | refine LeO.bind ?_ (fun _ => ?_)
    · intro y0 y1 y2
      unfold wainloadref03_Octal.l0
      repeat' first
      | (with_reducible exact ih0 _ _ _)
      | (with_reducible exact ih1 _ _ _)
      | (with_reducible exact ih2 _ _ _)
      | (with_reducible exact ih3 _ _ _)
      | (with_reducible exact ih4 _ _ _)
      | (with_reducible exact ih5 _ _ _)
      | (with_reducible exact ih6 _ _ _)
      | (with_reducible exact LeO.refl _)
      | (with_reducible exact LeO.none _)
      | (with_reducible refine LeO.ite ?_ ?_)
      | (with_reducible refine LeO.bind ?_ (fun _ => ?_))
      | exact ih0 _ _ _
      | exact ih1 _ _ _
      | exact ih2 _ _ _
      | exact ih3 _ _ _
      | exact ih4 _ _ _
      | exact ih5 _ _ _
      | exact ih6 _ _ _
      | exact LeO.none _
      | refine LeO.ite ?_ ?_
      | refine LeO.bind ?_ (fun _ => ?_)
    · intro y0 y1 y2
      unfold wainloadref03_Octal.j3
      repeat' first
      | (with_reducible exact ih0 _ _ _)
      | (with_reducible exact ih1 _ _ _)
      | (with_reducible exact ih2 _ _ _)
      | (with_reducible exact ih3 _ _ _)
      | (with_reducible exact ih4 _ _ _)
      | (with_reducible exact ih5 _ _ _)
      | (with_reducible exact ih6 _ _ _)
      | (with_reducible exact LeO.refl _)
      | (with_reducible exact LeO.none _)
      | (with_reducible refine LeO.ite ?_ ?_)
      | (with_reducible refine LeO.bind ?_ (fun _ => ?_))
      | exact ih0 _ _ _
      | exact ih1 _ _ _
      | exact ih2 _ _ _
      | exact ih3 _ _ _
      | exact ih4 _ _ _
      | exact ih5 _ _ _
      | exact ih6 _ _ _
      | exact LeO.none _
      | refine LeO.ite ?_ ?_
      | refine LeO.bind ?_ (fun _ => ?_)
    · intro y0 y1 y2
      unfold wainloadref03_Octal.j5
      repeat' first
      | (with_reducible exact ih0 _ _ _)
      | (with_reducible exact ih1 _ _ _)
      | (with_reducible exact ih2 _ _ _)
      | (with_reducible exact ih3 _ _ _)
      | (with_reducible exact ih4 _ _ _)
      | (with_reducible exact ih5 _ _ _)
      | (with_reducible exact ih6 _ _ _)
      | (with_reducible exact LeO.refl _)
      | (with_reducible exact LeO.none _)
      | (with_reducible refine LeO.ite ?_ ?_)
      | (with_reducible refine LeO.bind ?_ (fun _ => ?_))
      | exact ih0 _ _ _
      | exact ih1 _ _ _
      | exact ih2 _ _ _
      | exact ih3 _ _ _
      | exact ih4 _ _ _
      | exact ih5 _ _ _
      | exact ih6 _ _ _
      | exact LeO.none _
      | refine LeO.ite ?_ ?_
      | refine LeO.bind ?_ (fun _ => ?_)
    · intro y0 y1 y2
      unfold wainloadref03_Octal.l3
      repeat' first
      | (with_reducible exact ih0 _ _ _)
      | (with_reducible exact ih1 _ _ _)
      | (with_reducible exact ih2 _ _ _)
      | (with_reducible exact ih3 _ _ _)
      | (with_reducible exact ih4 _ _ _)
      | (with_reducible exact ih5 _ _ _)
      | (with_reducible exact ih6 _ _ _)
      | (with_reducible exact LeO.refl _)
      | (with_reducible exact LeO.none _)
      | (with_reducible refine LeO.ite ?_ ?_)
      | (with_reducible refine LeO.bind ?_ (fun _ => ?_))
      | exact ih0 _ _ _
      | exact ih1 _ _ _
      | exact ih2 _ _ _
      | exact ih3 _ _ _
      | exact ih4 _ _ _
      | exact ih5 _ _ _
      | exact ih6 _ _ _
      | exact LeO.none _
      | refine LeO.ite ?_ ?_
      | refine LeO.bind ?_ (fun _ => ?_)
    · intro y0 y1 y2
      unfold wainloadref03_Octal.l2
      repeat' first
      | (with_reducible exact ih0 _ _ _)
      | (with_reducible exact ih1 _ _ _)
      | (with_reducible exact ih2 _ _ _)
      | (with_reducible exact ih3 _ _ _)
      | (with_reducible exact ih4 _ _ _)
      | (with_reducible exact ih5 _ _ _)
      | (with_reducible exact ih6 _ _ _)
      | (with_reducible exact LeO.refl _)
      | (with_reducible exact LeO.none _)
      | (with_reducible refine LeO.ite ?_ ?_)
      | (with_reducible refine LeO.bind ?_ (fun _ => ?_))
      | exact ih0 _ _ _
      | exact ih1 _ _ _
      | exact ih2 _ _ _
      | exact ih3 _ _ _
      | exact ih4 _ _ _
      | exact ih5 _ _ _
      | exact ih6 _ _ _
      | exact LeO.none _
      | refine LeO.ite ?_ ?_
      | refine LeO.bind ?_ (fun _ => ?_)
    · intro y0 y1 y2
      unfold wainloadref03_Octal.l1
      repeat' first
      | (with_reducible exact ih0 _ _ _)
      | (with_reducible exact ih1 _ _ _)
      | (with_reducible exact ih2 _ _ _)
      | (with_reducible exact ih3 _ _ _)
      | (with_reducible exact ih4 _ _ _)
      | (with_reducible exact ih5 _ _ _)
      | (with_reducible exact ih6 _ _ _)
      | (with_reducible exact LeO.refl _)
      | (with_reducible exact LeO.none _)
      | (with_reducible refine LeO.ite ?_ ?_)
      | (with_reducible refine LeO.bind ?_ (fun _ => ?_))
      | exact ih0 _ _ _
      | exact ih1 _ _ _
      | exact ih2 _ _ _
      | exact ih3 _ _ _
      | exact ih4 _ _ _
      | exact ih5 _ _ _
      | exact ih6 _ _ _
      | exact LeO.none _
      | refine LeO.ite ?_ ?_
      | refine LeO.bind ?_ (fun _ => ?_)
theorem wainloadref03_Octal.mono : ∀ a0 k, LeO (wainloadref03_Octal.f k a0) (wainloadref03_Octal.f (k + 1) a0) := by
  intro a0 k
  obtain ⟨ih0, ih1, ih2, ih3, ih4, ih5, ih6⟩ := wainloadref03_Octal.mono_l k
  unfold wainloadref03_Octal.f
  repeat' first
      | (with_reducible exact ih0 _ _ _)
      | (with_reducible exact ih1 _ _ _)
      | (with_reducible exact ih2 _ _ _)
      | (with_reducible exact ih3 _ _ _)
      | (with_reducible exact ih4 _ _ _)
      | (with_reducible exact ih5 _ _ _)
      | (with_reducible exact ih6 _ _ _)
      | (with_reducible exact LeO.refl _)
      | (with_reducible exact LeO.none _)
      | (with_reducible refine LeO.ite ?_ ?_)
      | (with_reducible refine LeO.bind ?_ (fun _ => ?_))
      | exact ih0 _ _ _
      | exact ih1 _ _ _
      | exact ih2 _ _ _
      | exact ih3 _ _ _
      | exact ih4 _ _ _
      | exact ih5 _ _ _
      | exact ih6 _ _ _
      | exact LeO.none _
      | refine LeO.ite ?_ ?_
      | refine LeO.bind ?_ (fun _ => ?_)
set_option maxHeartbeats 8000000 in
set_option maxRecDepth 100000 in
theorem wainloadref03_Octal.calls (k : Nat) (A0 : Option Addr) (c0 : Nat) (l0 : List Int) (r1 : Int) (r2 : Int) (w : World) (hr0 : Kd.C (Kd.int .u8) w A0 l0.length l0) (hc0 : l0.length ≤ c0) (h : wainloadref03_Octal.f k l0 = some (r1, r2)) :
    Calls Tryd.prog 11 #[.slice A0 l0.length c0] w fun e w' => e = .returned (.tuple #[.int .i64 r1, .int .i64 r2]) ∧ Drawn0 w w' := by
  have HR0 := Aside0.mk hr0
  have HC0 := Aside0.mk hc0
  clear hr0 hc0
  have H : (if (l0.length : Int) > 0 then (if 0 < (l0.length : Int) then (wainloadref03_Octal.j0 k l0 0 ((rd l0 0) == 128)) else (none)) else (wainloadref03_Octal.j0 k l0 0 false)) = some (r1, r2) := h
  clear h
  have HC2 := Aside0.mk H
  clear H
  go_enter Tryd.func11, Tryd.ntmps11
  go_upto_region 2 with (fail)
  go_cut [15] (fun v15 wc => ∃ (kq : Nat) (x15_1 : Bool), v15 = .bool x15_1 ∧ Aside0 (wainloadref03_Octal.j0 kq l0 0 x15_1 = some (r1, r2)) ∧ Aside0 (kq ≤ k) ∧ Drawn0 w wc)
  case first =>
    have H := HC2.out
    clear HC2
    by_cases c3 : (l0.length : Int) > 0
    · rw [if_pos c3] at H
      have c3b0 : decide (0 < (l0.length : Int)) = true := decide_eq_true c3
      have c3b1 : decide (0 < l0.length) = true := decide_eq_true (by omega)
      clear c3
      (first | rw [c3b0] | (simp only [i64_w, i32_w]; rw [c3b0]) | skip)
      by_cases c4 : 0 < (l0.length : Int)
      · rw [if_pos c4] at H
        have c4b0 : decide (0 < (l0.length : Int)) = true := decide_eq_true c4
        have c4b1 : decide (0 < l0.length) = true := decide_eq_true (by omega)
        clear c4
        have H' := Aside0.mk H
        clear H
        have p101 : 0 ≤ (0 : Int) := (by omega)
        have q101 : 0 < (l0.length : Int) := of_decide_eq_true (by first | (with_reducible assumption) | assumption)
        obtain ⟨ad101, e101, hx101_0⟩ := Kd.at_int HR0.out 0 p101 q101
        cases e101
        have qi101 : (0 < l0.length) = True := eq_true (by omega)
        (try rw [show ((0 : Int)).toNat = 0 from rfl] at hx101_0)
        (try rw [Addr.add_zero'] at hx101_0)
        replace p101 := eq_true p101
        replace q101 := eq_true q101
        go_wp2
        go_meet
        case rel => exact ⟨_, (((rd l0 0) == 128)), (by first | rfl | (simp; done) | (simp [*]; done)), H', ⟨by first | omega | exact Nat.le_refl _⟩, by repeat (first | exact Drawn0.refl _ | apply Drawn0.step)⟩
      · rw [if_neg c4] at H
        exact absurd H (by simp)
    · rw [if_neg c3] at H
      have c3b0 : decide (0 < (l0.length : Int)) = false := decide_eq_false c3
      have c3b1 : decide (0 < l0.length) = false := decide_eq_false (by omega)
      clear c3
      (first | rw [c3b0] | (simp only [i64_w, i32_w]; rw [c3b0]) | skip)
      have H' := Aside0.mk H
      clear H
      go_wp2
      go_meet
      case rel => exact ⟨_, (false), (by first | rfl | (simp; done) | (simp [*]; done)), H', ⟨by first | omega | exact Nat.le_refl _⟩, by repeat (first | exact Drawn0.refl _ | apply Drawn0.step)⟩
  case rest =>
    clear HC2
    try clear c1
    try clear p1
    try clear q1
    try clear hx1
    try clear qi1
    try clear p2
    try clear c3
    try clear c3b0
    try clear c3b1
    try clear c4
    try clear c4b0
    try clear c4b1
    try clear hx101_0
    try clear p101
    try clear q101
    obtain ⟨kq, x15_1, rfl, HA, HJ1, ⟨mc1, rfl⟩⟩ := hcut
    cases kq with
    | zero => exact absurd HA.out (by simp [wainloadref03_Octal.j0])
    | succ kj1 =>
      have H := HA.out
      clear HA
      simp only [wainloadref03_Octal.j0] at H
      by_cases c5 : x15_1 = true
      · subst c5
        have H1 : (wainloadref03_Octal.l0 kj1 l0 0 1) = some (r1, r2) := by rw [if_pos rfl] at H; exact H
        clear H
        have H := H1
        clear H1
        have H' := Aside0.mk H
        clear H
        go_wp2
        go_loopg [4, 5] kj1 (fun kq v4 v5 w' => ∃ (x4_2 : Int) (x5_2 : Int), v4 = .int .i64 x4_2 ∧ v5 = .int .i64 x5_2 ∧ Aside0 (wainloadref03_Octal.l0 kq l0 x4_2 x5_2 = some (r1, r2)) ∧ Aside0 (kq ≤ kj1) ∧ Drawn0 w w')
        case atStart => exact ⟨(0), (1), (by first | rfl | (simp; done) | (simp [*]; done)), (by first | rfl | (simp; done) | (simp [*]; done)), H', ⟨Nat.le_refl _⟩, by repeat (first | exact Drawn0.refl _ | apply Drawn0.step)⟩
        case round =>
          clear H'
          try clear c1
          try clear p1
          try clear q1
          try clear hx1
          try clear qi1
          try clear p2
          try clear c3
          try clear c3b0
          try clear c3b1
          try clear c4
          try clear c4b0
          try clear c4b1
          try clear c5
          try clear hx101_0
          try clear p1
          try clear p101
          try clear p2
          try clear q1
          try clear q101
          obtain ⟨x4_2, x5_2, rfl, rfl, HA, HK2, ⟨m2, rfl⟩⟩ := hrel
          cases gk with
          | zero => exact absurd HA.out (by simp [wainloadref03_Octal.l0])
          | succ k2 =>
            have H := HA.out
            clear HA
            simp only [wainloadref03_Octal.l0] at H
            by_cases c6 : x5_2 < (l0.length : Int)
            · rw [if_pos c6] at H
              have c6b0 : decide (x5_2 < (l0.length : Int)) = true := decide_eq_true c6
              clear c6
              by_cases c7 : 0 ≤ x5_2
              · rw [if_pos c7] at H
                have c7b0 : decide (0 ≤ x5_2) = true := decide_eq_true c7
                clear c7
                replace H := Option.bind_eq_some_iff.mp H
                obtain ⟨t103, A80, H⟩ := H
                replace H : (wainloadref03_Octal.l0 k2 l0 t103 (wrap64 (x5_2 + 1))) = some (r1, r2) := H
                have A8 := Aside0.mk A80
                clear A80
                have H' := Aside0.mk H
                clear H
                have p102 : 0 ≤ (x5_2 : Int) := of_decide_eq_true (by first | (with_reducible assumption) | assumption)
                have q102 : x5_2 < (l0.length : Int) := of_decide_eq_true (by first | (with_reducible assumption) | assumption)
                obtain ⟨ad102, e102, hx102_0⟩ := Kd.at_int HR0.out x5_2 p102 q102
                cases e102
                replace p102 := eq_true p102
                replace q102 := eq_true q102
                go_wp2_with (first | ((with_reducible refine gate_callee (f := 29) rfl ?_); refine goesL_ (some 28) rfl rfl Tryd.func29 (by kernel_rfl) rfl #[.int .i64 x4_2, .int .i64 256, .int .i64 (wrap64 (rd l0 x5_2))] rfl (by (try simp only [List.map_toArray, List.map_cons, List.map_nil]); first | done | rfl | (simp only [List.length_drop, List.length_take]; rfl)) ?_; (with_reducible refine (wainloadref03_add.calls x4_2 256 (wrap64 (rd l0 x5_2)) t103 _ A8.out).mono ?_); rintro e w' ⟨rfl, ⟨nd, rfl⟩⟩; refine ⟨_, rfl, ?_⟩))
                go_roundg k2
                case measure => have := HJ1.out; have := HK2.out; omega
                case rel => exact ⟨(t103), (wrap64 (x5_2 + 1)), (by first | rfl | (simp; done) | (simp [*]; done)), (by first | rfl | (simp; done) | (simp [*]; done)), H', ⟨by have := HJ1.out; have := HK2.out; omega⟩, by repeat (first | exact Drawn0.refl _ | apply Drawn0.step)⟩
              · rw [if_neg c7] at H
                exact absurd H (by simp)
            · rw [if_neg c6] at H
              have c6b0 : decide (x5_2 < (l0.length : Int)) = false := decide_eq_false c6
              clear c6
              by_cases c9 : x4_2 < 0
              · rw [if_pos c9] at H
                have c9b0 : decide (x4_2 < 0) = true := decide_eq_true c9
                clear c9
                simp only [Option.some.injEq, Prod.mk.injEq] at H
                obtain ⟨rfl, rfl⟩ := H
                go_wp2
                go_ret2
                exact ⟨by first | rfl | (simp; done) | (simp [*]; done), by repeat (first | exact Drawn0.refl _ | apply Drawn0.step)⟩
              · rw [if_neg c9] at H
                have c9b0 : decide (x4_2 < 0) = false := decide_eq_false c9
                clear c9
                simp only [Option.some.injEq, Prod.mk.injEq] at H
                obtain ⟨rfl, rfl⟩ := H
                go_wp2
                go_ret2
                exact ⟨by first | rfl | (simp; done) | (simp [*]; done), by repeat (first | exact Drawn0.refl _ | apply Drawn0.step)⟩
      · replace c5 := Bool.eq_false_iff.mpr c5
        subst c5
        have H1 : (wainloadref03_Octal.l1 kj1 l0 0 0) = some (r1, r2) := by rw [if_neg (show ¬ (false = true) by decide)] at H; exact H
        clear H
        have H := H1
        clear H1
        have HC10 := Aside0.mk H
        clear H
        go_upto_block 2 with (fail)
        go_cut [6] (fun v6 wc => ∃ (kq : Nat) (x6_9 : Int), v6 = .int .i64 x6_9 ∧ Aside0 (wainloadref03_Octal.j3 kq l0 0 x6_9 = some (r1, r2)) ∧ Aside0 (kq ≤ kj1) ∧ Drawn0 w wc)
        case first =>
          have H := HC10.out
          clear HC10
          have H' := Aside0.mk H
          clear H
          go_wp2
          go_loopg [6] kj1 (fun kq v6 w' => ∃ (x6_2 : Int), v6 = .int .i64 x6_2 ∧ Aside0 (wainloadref03_Octal.l1 kq l0 0 x6_2 = some (r1, r2)) ∧ Aside0 (kq ≤ kj1) ∧ Drawn0 w w')
          case atStart => exact ⟨(0), (by first | rfl | (simp; done) | (simp [*]; done)), H', ⟨Nat.le_refl _⟩, by repeat (first | exact Drawn0.refl _ | apply Drawn0.step)⟩
          case round =>
            clear H'
            try clear c1
            try clear p1
            try clear q1
            try clear hx1
            try clear qi1
            try clear c2
            try clear p2
            try clear c3
            try clear c3b0
            try clear c3b1
            try clear c4
            try clear c4b0
            try clear c4b1
            try clear c5
            try clear c6
            try clear c6b0
            try clear p6
            try clear c7
            try clear c7b0
            try clear c9
            try clear c9b0
            try clear p10
            try clear q10
            try clear hx10
            try clear qi10
            try clear hx101_0
            try clear hx102_0
            try clear p1
            try clear p101
            try clear p102
            try clear p2
            try clear q1
            try clear q101
            try clear q102
            obtain ⟨x6_2, rfl, HA, HK2, ⟨m2, rfl⟩⟩ := hrel
            cases gk with
            | zero => exact absurd HA.out (by simp [wainloadref03_Octal.l1])
            | succ k2 =>
              have H := HA.out
              clear HA
              simp only [wainloadref03_Octal.l1] at H
              by_cases c11 : x6_2 < (l0.length : Int)
              · rw [if_pos c11] at H
                have c11b0 : decide (x6_2 < (l0.length : Int)) = true := decide_eq_true c11
                clear c11
                (first | rw [c11b0] | (simp only [i64_w, i32_w]; rw [c11b0]) | skip)
                by_cases c12 : 0 ≤ x6_2
                · rw [if_pos c12] at H
                  have c12b0 : decide (0 ≤ x6_2) = true := decide_eq_true c12
                  clear c12
                  by_cases c13 : (rd l0 x6_2) = 32
                  · rw [if_pos c13] at H
                    have c13b0 : ((rd l0 x6_2) == 32) = true := beq_iff_eq.mpr c13
                    have c13b1 : ((rd l0 x6_2) != 32) = false := bne_eq_false_iff_eq.mpr c13
                    clear c13
                    have H' := Aside0.mk H
                    clear H
                    have p104 : 0 ≤ (x6_2 : Int) := of_decide_eq_true (by first | (with_reducible assumption) | assumption)
                    have q104 : x6_2 < (l0.length : Int) := of_decide_eq_true (by first | (with_reducible assumption) | assumption)
                    obtain ⟨ad104, e104, hx104_0⟩ := Kd.at_int HR0.out x6_2 p104 q104
                    cases e104
                    replace p104 := eq_true p104
                    replace q104 := eq_true q104
                    go_wp2
                    go_roundg k2
                    case measure => have := HJ1.out; have := HK2.out; omega
                    case rel => exact ⟨(wrap64 (x6_2 + 1)), (by first | rfl | (simp; done) | (simp [*]; done)), H', ⟨by have := HJ1.out; have := HK2.out; omega⟩, by repeat (first | exact Drawn0.refl _ | apply Drawn0.step)⟩
                  · rw [if_neg c13] at H
                    have c13b0 : ((rd l0 x6_2) == 32) = false := beq_eq_false_iff_ne.mpr c13
                    have c13b1 : ((rd l0 x6_2) != 32) = true := bne_iff_ne.mpr c13
                    have H' := Aside0.mk H
                    clear H
                    have p104 : 0 ≤ (x6_2 : Int) := of_decide_eq_true (by first | (with_reducible assumption) | assumption)
                    have q104 : x6_2 < (l0.length : Int) := of_decide_eq_true (by first | (with_reducible assumption) | assumption)
                    obtain ⟨ad104, e104, hx104_0⟩ := Kd.at_int HR0.out x6_2 p104 q104
                    cases e104
                    replace p104 := eq_true p104
                    replace q104 := eq_true q104
                    go_wp2
                    go_meet
                    case rel => exact ⟨_, (x6_2), (by first | rfl | (simp; done) | (simp [*]; done)), H', ⟨by have := HJ1.out; have := HK2.out; first | omega | exact Nat.le_refl _⟩, by repeat (first | exact Drawn0.refl _ | apply Drawn0.step)⟩
                · rw [if_neg c12] at H
                  exact absurd H (by simp)
              · rw [if_neg c11] at H
                have c11b0 : decide (x6_2 < (l0.length : Int)) = false := decide_eq_false c11
                clear c11
                (first | rw [c11b0] | (simp only [i64_w, i32_w]; rw [c11b0]) | skip)
                have H' := Aside0.mk H
                clear H
                go_wp2
                go_meet
                case rel => exact ⟨_, (x6_2), (by first | rfl | (simp; done) | (simp [*]; done)), H', ⟨by have := HJ1.out; have := HK2.out; first | omega | exact Nat.le_refl _⟩, by repeat (first | exact Drawn0.refl _ | apply Drawn0.step)⟩
        case rest =>
          clear HC10
          try clear c1
          try clear p1
          try clear q1
          try clear hx1
          try clear qi1
          try clear c2
          try clear p2
          try clear c3
          try clear c3b0
          try clear c3b1
          try clear c4
          try clear c4b0
          try clear c4b1
          try clear c5
          try clear c6
          try clear c6b0
          try clear p6
          try clear c7
          try clear c7b0
          try clear c9
          try clear c9b0
          try clear p10
          try clear q10
          try clear hx10
          try clear qi10
          try clear c11
          try clear c11b0
          try clear c12
          try clear c12b0
          try clear c13
          try clear c13b0
          try clear c13b1
          try clear hx101_0
          try clear hx102_0
          try clear hx104_0
          try clear p1
          try clear p10
          try clear p101
          try clear p102
          try clear p104
          try clear p2
          try clear p6
          try clear q1
          try clear q10
          try clear q101
          try clear q102
          try clear q104
          obtain ⟨kq, x6_9, rfl, HA, HJ9, ⟨mc9, rfl⟩⟩ := hcut
          cases kq with
          | zero => exact absurd HA.out (by simp [wainloadref03_Octal.j3])
          | succ kj9 =>
            have H := HA.out
            clear HA
            simp only [wainloadref03_Octal.j3] at H
            have HC14 := Aside0.mk H
            clear H
            go_upto_block 4 with (fail)
            go_cut [4, 6] (fun v4 v6 wc => ∃ (kq : Nat) (x4_13 : Int) (x6_13 : Int), v4 = .int .i64 x4_13 ∧ v6 = .int .i64 x6_13 ∧ Aside0 (wainloadref03_Octal.j5 kq l0 x4_13 x6_13 = some (r1, r2)) ∧ Aside0 (kq ≤ kj9) ∧ Drawn0 w wc)
            case first =>
              have H := HC14.out
              clear HC14
              have H' := Aside0.mk H
              clear H
              go_wp2
              go_loopg [4, 6] kj9 (fun kq v4 v6 w' => ∃ (x4_3 : Int) (x6_3 : Int), v4 = .int .i64 x4_3 ∧ v6 = .int .i64 x6_3 ∧ Aside0 (wainloadref03_Octal.l2 kq l0 x4_3 x6_3 = some (r1, r2)) ∧ Aside0 (kq ≤ kj9) ∧ Drawn0 w w')
              case atStart => exact ⟨(0), (x6_9), (by first | rfl | (simp; done) | (simp [*]; done)), (by first | rfl | (simp; done) | (simp [*]; done)), H', ⟨Nat.le_refl _⟩, by repeat (first | exact Drawn0.refl _ | apply Drawn0.step)⟩
              case round =>
                clear H'
                try clear c1
                try clear p1
                try clear q1
                try clear hx1
                try clear qi1
                try clear c2
                try clear p2
                try clear c3
                try clear c3b0
                try clear c3b1
                try clear c4
                try clear c4b0
                try clear c4b1
                try clear c5
                try clear c6
                try clear c6b0
                try clear p6
                try clear c7
                try clear c7b0
                try clear c9
                try clear c9b0
                try clear p10
                try clear q10
                try clear hx10
                try clear qi10
                try clear c11
                try clear c11b0
                try clear c12
                try clear c12b0
                try clear c13
                try clear c13b0
                try clear c13b1
                try clear hx101_0
                try clear hx102_0
                try clear hx104_0
                try clear p1
                try clear p10
                try clear p101
                try clear p102
                try clear p104
                try clear p2
                try clear p6
                try clear q1
                try clear q10
                try clear q101
                try clear q102
                try clear q104
                obtain ⟨x4_3, x6_3, rfl, rfl, HA, HK3, ⟨m3, rfl⟩⟩ := hrel
                cases gk with
                | zero => exact absurd HA.out (by simp [wainloadref03_Octal.l2])
                | succ k3 =>
                  have H := HA.out
                  clear HA
                  simp only [wainloadref03_Octal.l2] at H
                  by_cases c15 : x6_3 < (l0.length : Int)
                  · rw [if_pos c15] at H
                    have c15b0 : decide (x6_3 < (l0.length : Int)) = true := decide_eq_true c15
                    clear c15
                    (first | rw [c15b0] | (simp only [i64_w, i32_w]; rw [c15b0]) | skip)
                    by_cases c16 : 0 ≤ x6_3
                    · rw [if_pos c16] at H
                      have c16b0 : decide (0 ≤ x6_3) = true := decide_eq_true c16
                      clear c16
                      by_cases c17 : (rd l0 x6_3) ≥ 48
                      · rw [if_pos c17] at H
                        have c17b0 : decide (48 ≤ (rd l0 x6_3)) = true := decide_eq_true c17
                        clear c17
                        by_cases c18 : (rd l0 x6_3) ≤ 55
                        · rw [if_pos c18] at H
                          have c18b0 : decide ((rd l0 x6_3) ≤ 55) = true := decide_eq_true c18
                          clear c18
                          replace H := Option.bind_eq_some_iff.mp H
                          obtain ⟨t108, A190, H⟩ := H
                          replace H : (wainloadref03_Octal.l2 k3 l0 t108 (wrap64 (x6_3 + 1))) = some (r1, r2) := H
                          have A19 := Aside0.mk A190
                          clear A190
                          have H' := Aside0.mk H
                          clear H
                          have p105 : 0 ≤ (x6_3 : Int) := of_decide_eq_true (by first | (with_reducible assumption) | assumption)
                          have q105 : x6_3 < (l0.length : Int) := of_decide_eq_true (by first | (with_reducible assumption) | assumption)
                          obtain ⟨ad105, e105, hx105_0⟩ := Kd.at_int HR0.out x6_3 p105 q105
                          cases e105
                          replace p105 := eq_true p105
                          replace q105 := eq_true q105
                          have p106 : 0 ≤ (x6_3 : Int) := of_decide_eq_true (by first | (with_reducible assumption) | assumption)
                          have q106 : x6_3 < (l0.length : Int) := of_decide_eq_true (by first | (with_reducible assumption) | assumption)
                          obtain ⟨ad106, e106, hx106_0⟩ := Kd.at_int HR0.out x6_3 p106 q106
                          obtain rfl : ad105 = ad106 := (by injection e106)
                          replace p106 := eq_true p106
                          replace q106 := eq_true q106
                          have p107 : 0 ≤ (x6_3 : Int) := of_decide_eq_true (by first | (with_reducible assumption) | assumption)
                          have q107 : x6_3 < (l0.length : Int) := of_decide_eq_true (by first | (with_reducible assumption) | assumption)
                          obtain ⟨ad107, e107, hx107_0⟩ := Kd.at_int HR0.out x6_3 p107 q107
                          obtain rfl : ad105 = ad107 := (by injection e107)
                          replace p107 := eq_true p107
                          replace q107 := eq_true q107
                          go_wp2_with (first | ((with_reducible refine gate_callee (f := 29) rfl ?_); refine goesL_ (some 70) rfl rfl Tryd.func29 (by kernel_rfl) rfl #[.int .i64 x4_3, .int .i64 8, .int .i64 (wrap64 ((wrap64 (rd l0 x6_3)) - 48))] rfl (by (try simp only [List.map_toArray, List.map_cons, List.map_nil]); first | done | rfl | (simp only [List.length_drop, List.length_take]; rfl)) ?_; (with_reducible refine (wainloadref03_add.calls x4_3 8 (wrap64 ((wrap64 (rd l0 x6_3)) - 48)) t108 _ A19.out).mono ?_); rintro e w' ⟨rfl, ⟨nd, rfl⟩⟩; refine ⟨_, rfl, ?_⟩))
                          go_roundg k3
                          case measure => have := HJ1.out; have := HJ9.out; have := HK3.out; omega
                          case rel => exact ⟨(t108), (wrap64 (x6_3 + 1)), (by first | rfl | (simp; done) | (simp [*]; done)), (by first | rfl | (simp; done) | (simp [*]; done)), H', ⟨by have := HJ1.out; have := HJ9.out; have := HK3.out; omega⟩, by repeat (first | exact Drawn0.refl _ | apply Drawn0.step)⟩
                        · rw [if_neg c18] at H
                          have c18b0 : decide ((rd l0 x6_3) ≤ 55) = false := decide_eq_false c18
                          clear c18
                          have H' := Aside0.mk H
                          clear H
                          have p105 : 0 ≤ (x6_3 : Int) := of_decide_eq_true (by first | (with_reducible assumption) | assumption)
                          have q105 : x6_3 < (l0.length : Int) := of_decide_eq_true (by first | (with_reducible assumption) | assumption)
                          obtain ⟨ad105, e105, hx105_0⟩ := Kd.at_int HR0.out x6_3 p105 q105
                          cases e105
                          replace p105 := eq_true p105
                          replace q105 := eq_true q105
                          have p106 : 0 ≤ (x6_3 : Int) := of_decide_eq_true (by first | (with_reducible assumption) | assumption)
                          have q106 : x6_3 < (l0.length : Int) := of_decide_eq_true (by first | (with_reducible assumption) | assumption)
                          obtain ⟨ad106, e106, hx106_0⟩ := Kd.at_int HR0.out x6_3 p106 q106
                          obtain rfl : ad105 = ad106 := (by injection e106)
                          replace p106 := eq_true p106
                          replace q106 := eq_true q106
                          go_wp2
                          go_meet
                          case rel => exact ⟨_, (x4_3), (x6_3), (by first | rfl | (simp; done) | (simp [*]; done)), (by first | rfl | (simp; done) | (simp [*]; done)), H', ⟨by have := HJ1.out; have := HJ9.out; have := HK3.out; first | omega | exact Nat.le_refl _⟩, by repeat (first | exact Drawn0.refl _ | apply Drawn0.step)⟩
                      · rw [if_neg c17] at H
                        have c17b0 : decide (48 ≤ (rd l0 x6_3)) = false := decide_eq_false c17
                        clear c17
                        have H' := Aside0.mk H
                        clear H
                        have p105 : 0 ≤ (x6_3 : Int) := of_decide_eq_true (by first | (with_reducible assumption) | assumption)
                        have q105 : x6_3 < (l0.length : Int) := of_decide_eq_true (by first | (with_reducible assumption) | assumption)
                        obtain ⟨ad105, e105, hx105_0⟩ := Kd.at_int HR0.out x6_3 p105 q105
                        cases e105
                        replace p105 := eq_true p105
                        replace q105 := eq_true q105
                        go_wp2
                        go_meet
                        case rel => exact ⟨_, (x4_3), (x6_3), (by first | rfl | (simp; done) | (simp [*]; done)), (by first | rfl | (simp; done) | (simp [*]; done)), H', ⟨by have := HJ1.out; have := HJ9.out; have := HK3.out; first | omega | exact Nat.le_refl _⟩, by repeat (first | exact Drawn0.refl _ | apply Drawn0.step)⟩
                    · rw [if_neg c16] at H
                      exact absurd H (by simp)
                  · rw [if_neg c15] at H
                    have c15b0 : decide (x6_3 < (l0.length : Int)) = false := decide_eq_false c15
                    clear c15
                    (first | rw [c15b0] | (simp only [i64_w, i32_w]; rw [c15b0]) | skip)
                    have H' := Aside0.mk H
                    clear H
                    go_wp2
                    go_meet
                    case rel => exact ⟨_, (x4_3), (x6_3), (by first | rfl | (simp; done) | (simp [*]; done)), (by first | rfl | (simp; done) | (simp [*]; done)), H', ⟨by have := HJ1.out; have := HJ9.out; have := HK3.out; first | omega | exact Nat.le_refl _⟩, by repeat (first | exact Drawn0.refl _ | apply Drawn0.step)⟩
            case rest =>
              clear HC14
              try clear c1
              try clear p1
              try clear q1
              try clear hx1
              try clear qi1
              try clear c2
              try clear p2
              try clear c3
              try clear c3b0
              try clear c3b1
              try clear c4
              try clear c4b0
              try clear c4b1
              try clear c5
              try clear c6
              try clear c6b0
              try clear p6
              try clear c7
              try clear c7b0
              try clear c9
              try clear c9b0
              try clear p10
              try clear q10
              try clear hx10
              try clear qi10
              try clear c11
              try clear c11b0
              try clear c12
              try clear c12b0
              try clear c13
              try clear c13b0
              try clear c13b1
              try clear c15
              try clear c15b0
              try clear c16
              try clear c16b0
              try clear c17
              try clear c17b0
              try clear c18
              try clear c18b0
              try clear hx101_0
              try clear hx102_0
              try clear hx104_0
              try clear hx105_0
              try clear hx106_0
              try clear hx107_0
              try clear p1
              try clear p10
              try clear p101
              try clear p102
              try clear p104
              try clear p105
              try clear p106
              try clear p107
              try clear p2
              try clear p6
              try clear q1
              try clear q10
              try clear q101
              try clear q102
              try clear q104
              try clear q105
              try clear q106
              try clear q107
              obtain ⟨kq, x4_13, x6_13, rfl, rfl, HA, HJ13, ⟨mc13, rfl⟩⟩ := hcut
              cases kq with
              | zero => exact absurd HA.out (by simp [wainloadref03_Octal.j5])
              | succ kj13 =>
                have H := HA.out
                clear HA
                simp only [wainloadref03_Octal.j5] at H
                have H' := Aside0.mk H
                clear H
                go_wp2
                go_loopg [6] kj13 (fun kq v6 w' => ∃ (x6_4 : Int), v6 = .int .i64 x6_4 ∧ Aside0 (wainloadref03_Octal.l3 kq l0 x4_13 x6_4 = some (r1, r2)) ∧ Aside0 (kq ≤ kj13) ∧ Drawn0 w w')
                case atStart => exact ⟨(x6_13), (by first | rfl | (simp; done) | (simp [*]; done)), H', ⟨Nat.le_refl _⟩, by repeat (first | exact Drawn0.refl _ | apply Drawn0.step)⟩
                case round =>
                  clear H'
                  try clear c1
                  try clear p1
                  try clear q1
                  try clear hx1
                  try clear qi1
                  try clear c2
                  try clear p2
                  try clear c3
                  try clear c3b0
                  try clear c3b1
                  try clear c4
                  try clear c4b0
                  try clear c4b1
                  try clear c5
                  try clear c6
                  try clear c6b0
                  try clear p6
                  try clear c7
                  try clear c7b0
                  try clear c9
                  try clear c9b0
                  try clear p10
                  try clear q10
                  try clear hx10
                  try clear qi10
                  try clear c11
                  try clear c11b0
                  try clear c12
                  try clear c12b0
                  try clear c13
                  try clear c13b0
                  try clear c13b1
                  try clear c15
                  try clear c15b0
                  try clear c16
                  try clear c16b0
                  try clear c17
                  try clear c17b0
                  try clear c18
                  try clear c18b0
                  try clear hx101_0
                  try clear hx102_0
                  try clear hx104_0
                  try clear hx105_0
                  try clear hx106_0
                  try clear hx107_0
                  try clear p1
                  try clear p10
                  try clear p101
                  try clear p102
                  try clear p104
                  try clear p105
                  try clear p106
                  try clear p107
                  try clear p2
                  try clear p6
                  try clear q1
                  try clear q10
                  try clear q101
                  try clear q102
                  try clear q104
                  try clear q105
                  try clear q106
                  try clear q107
                  obtain ⟨x6_4, rfl, HA, HK4, ⟨m4, rfl⟩⟩ := hrel
                  cases gk with
                  | zero => exact absurd HA.out (by simp [wainloadref03_Octal.l3])
                  | succ k4 =>
                    have H := HA.out
                    clear HA
                    simp only [wainloadref03_Octal.l3] at H
                    by_cases c20 : x6_4 < (l0.length : Int)
                    · rw [if_pos c20] at H
                      have c20b0 : decide (x6_4 < (l0.length : Int)) = true := decide_eq_true c20
                      clear c20
                      by_cases c21 : 0 ≤ x6_4
                      · rw [if_pos c21] at H
                        have c21b0 : decide (0 ≤ x6_4) = true := decide_eq_true c21
                        clear c21
                        by_cases c22 : (rd l0 x6_4) = 32
                        · rw [if_pos c22] at H
                          have c22b0 : ((rd l0 x6_4) == 32) = true := beq_iff_eq.mpr c22
                          have c22b1 : ((rd l0 x6_4) != 32) = false := bne_eq_false_iff_eq.mpr c22
                          clear c22
                          have H' := Aside0.mk H
                          clear H
                          have p109 : 0 ≤ (x6_4 : Int) := of_decide_eq_true (by first | (with_reducible assumption) | assumption)
                          have q109 : x6_4 < (l0.length : Int) := of_decide_eq_true (by first | (with_reducible assumption) | assumption)
                          obtain ⟨ad109, e109, hx109_0⟩ := Kd.at_int HR0.out x6_4 p109 q109
                          cases e109
                          replace p109 := eq_true p109
                          replace q109 := eq_true q109
                          go_wp2
                          go_roundg k4
                          case measure => have := HJ1.out; have := HJ9.out; have := HJ13.out; have := HK4.out; omega
                          case rel => exact ⟨(wrap64 (x6_4 + 1)), (by first | rfl | (simp; done) | (simp [*]; done)), H', ⟨by have := HJ1.out; have := HJ9.out; have := HJ13.out; have := HK4.out; omega⟩, by repeat (first | exact Drawn0.refl _ | apply Drawn0.step)⟩
                        · rw [if_neg c22] at H
                          have c22b0 : ((rd l0 x6_4) == 32) = false := beq_eq_false_iff_ne.mpr c22
                          have c22b1 : ((rd l0 x6_4) != 32) = true := bne_iff_ne.mpr c22
                          by_cases c23 : (rd l0 x6_4) = 0
                          · rw [if_pos c23] at H
                            have c23b0 : ((rd l0 x6_4) == 0) = true := beq_iff_eq.mpr c23
                            have c23b1 : ((rd l0 x6_4) != 0) = false := bne_eq_false_iff_eq.mpr c23
                            clear c23
                            have H' := Aside0.mk H
                            clear H
                            have p109 : 0 ≤ (x6_4 : Int) := of_decide_eq_true (by first | (with_reducible assumption) | assumption)
                            have q109 : x6_4 < (l0.length : Int) := of_decide_eq_true (by first | (with_reducible assumption) | assumption)
                            obtain ⟨ad109, e109, hx109_0⟩ := Kd.at_int HR0.out x6_4 p109 q109
                            cases e109
                            replace p109 := eq_true p109
                            replace q109 := eq_true q109
                            have p110 : 0 ≤ (x6_4 : Int) := of_decide_eq_true (by first | (with_reducible assumption) | assumption)
                            have q110 : x6_4 < (l0.length : Int) := of_decide_eq_true (by first | (with_reducible assumption) | assumption)
                            obtain ⟨ad110, e110, hx110_0⟩ := Kd.at_int HR0.out x6_4 p110 q110
                            obtain rfl : ad109 = ad110 := (by injection e110)
                            replace p110 := eq_true p110
                            replace q110 := eq_true q110
                            go_wp2
                            go_roundg k4
                            case measure => have := HJ1.out; have := HJ9.out; have := HJ13.out; have := HK4.out; omega
                            case rel => exact ⟨(wrap64 (x6_4 + 1)), (by first | rfl | (simp; done) | (simp [*]; done)), H', ⟨by have := HJ1.out; have := HJ9.out; have := HJ13.out; have := HK4.out; omega⟩, by repeat (first | exact Drawn0.refl _ | apply Drawn0.step)⟩
                          · rw [if_neg c23] at H
                            have c23b0 : ((rd l0 x6_4) == 0) = false := beq_eq_false_iff_ne.mpr c23
                            have c23b1 : ((rd l0 x6_4) != 0) = true := bne_iff_ne.mpr c23
                            simp only [Option.some.injEq, Prod.mk.injEq] at H
                            obtain ⟨rfl, rfl⟩ := H
                            have p109 : 0 ≤ (x6_4 : Int) := of_decide_eq_true (by first | (with_reducible assumption) | assumption)
                            have q109 : x6_4 < (l0.length : Int) := of_decide_eq_true (by first | (with_reducible assumption) | assumption)
                            obtain ⟨ad109, e109, hx109_0⟩ := Kd.at_int HR0.out x6_4 p109 q109
                            cases e109
                            replace p109 := eq_true p109
                            replace q109 := eq_true q109
                            have p110 : 0 ≤ (x6_4 : Int) := of_decide_eq_true (by first | (with_reducible assumption) | assumption)
                            have q110 : x6_4 < (l0.length : Int) := of_decide_eq_true (by first | (with_reducible assumption) | assumption)
                            obtain ⟨ad110, e110, hx110_0⟩ := Kd.at_int HR0.out x6_4 p110 q110
                            obtain rfl : ad109 = ad110 := (by injection e110)
                            replace p110 := eq_true p110
                            replace q110 := eq_true q110
                            go_wp2
                            go_ret2
                            exact ⟨by first | rfl | (simp; done) | (simp [*]; done), by repeat (first | exact Drawn0.refl _ | apply Drawn0.step)⟩
                      · rw [if_neg c21] at H
                        exact absurd H (by simp)
                    · rw [if_neg c20] at H
                      have c20b0 : decide (x6_4 < (l0.length : Int)) = false := decide_eq_false c20
                      clear c20
                      by_cases c24 : x4_13 < 0
                      · rw [if_pos c24] at H
                        have c24b0 : decide (x4_13 < 0) = true := decide_eq_true c24
                        clear c24
                        simp only [Option.some.injEq, Prod.mk.injEq] at H
                        obtain ⟨rfl, rfl⟩ := H
                        go_wp2
                        go_ret2
                        exact ⟨by first | rfl | (simp; done) | (simp [*]; done), by repeat (first | exact Drawn0.refl _ | apply Drawn0.step)⟩
                      · rw [if_neg c24] at H
                        have c24b0 : decide (x4_13 < 0) = false := decide_eq_false c24
                        clear c24
                        simp only [Option.some.injEq, Prod.mk.injEq] at H
                        obtain ⟨rfl, rfl⟩ := H
                        go_wp2
                        go_ret2
                        exact ⟨by first | rfl | (simp; done) | (simp [*]; done), by repeat (first | exact Drawn0.refl _ | apply Drawn0.step)⟩

end Go.Proofs.YtngkbmlmlfofdaaDoor.HA
