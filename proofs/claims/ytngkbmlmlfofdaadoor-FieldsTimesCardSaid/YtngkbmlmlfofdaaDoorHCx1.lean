/- What calls of these Go functions come to, as plain Lean functions, each with its proof; printed for this claim by a program of this session. -/
import Derived.Test.YtngkbmlmlfofdaaDoorHCx0
namespace Go.Proofs.YtngkbmlmlfofdaaDoor.HC
open Go.Proofs.YtngkbmlmlfofdaaDoor.HA
open Go.Proofs.YtngkbmlmlfofdaaDoor.HB
open Go.RowKit Go.Proofs.YtngkbmlmlfofdaaDoorW.PrintWords Go.Proofs.YtngkbmlmlfofdaaDoorW.PrintLast Go.Proofs.YtngkbmlmlfofdaaDoorW.PrintMore
attribute [local go_sem] max2_int min2_int max_two min_two max_three min_three max_four min_four   -- for this text's walks alone
set_option linter.unusedVariables false
set_option linter.unusedSimpArgs false

/-! ### wainloadref03_Seconds: function 16 -/
mutual
def wainloadref03_Seconds.j0 : Nat → ByteArray → Int → Bool → Option (Int × Int)
  | 0, _, _, _ => none
  | k + 1, x0, x4, x17 => if x17 = true then (if 1 ≤ (x0.size : Int) then (wainloadref03_Seconds.j1 k (x0.extract 1 x0.size) (-1)) else (none)) else (wainloadref03_Seconds.j1 k x0 x4)
def wainloadref03_Seconds.j1 : Nat → ByteArray → Int → Option (Int × Int)
  | 0, _, _ => none
  | k + 1, x0, x4 => (Go.Proofs.YtngkbmlmlfofdaaDoor.HA.wainloadref03_run.f k x0).bind fun t101 => (if t101 = 0 then (some (0, 30)) else (if t101 < (x0.size : Int) then (if 0 ≤ (wrap64 (t101 + 1)) then (if (wrap64 (t101 + 1)) ≤ (x0.size : Int) then (if 0 ≤ t101 then (if (bt x0 t101) = 46 then (if ((x0.extract ((wrap64 (t101 + 1)) : Int).toNat x0.size).size : Int) = 0 then (some (0, 30)) else ((Go.Proofs.YtngkbmlmlfofdaaDoor.HA.wainloadref03_run.f k (x0.extract ((wrap64 (t101 + 1)) : Int).toNat x0.size)).bind fun t102 => (if t102 < ((x0.extract ((wrap64 (t101 + 1)) : Int).toNat x0.size).size : Int) then (some (0, 30)) else (wainloadref03_Seconds.j2 k x0 x4 t101 (x0.extract ((wrap64 (t101 + 1)) : Int).toNat x0.size))))) else (some (0, 30))) else (none)) else (none)) else (none)) else (wainloadref03_Seconds.j2 k x0 x4 t101 (⟨#[]⟩ : ByteArray))))
def wainloadref03_Seconds.j2 : Nat → ByteArray → Int → Int → ByteArray → Option (Int × Int)
  | 0, _, _, _, _ => none
  | k + 1, x0, x4, x5, x6 => if 0 ≤ x5 then (if x5 ≤ (x0.size : Int) then ((Go.Proofs.YtngkbmlmlfofdaaDoor.HA.wainloadref03_number.f k (x0.extract 0 (x5 : Int).toNat)).bind fun t103 => (if t103 < 0 then (wainloadref03_Seconds.j3 k x4 x6 t103 true) else (wainloadref03_Seconds.j3 k x4 x6 t103 (decide (t103 > 9000000000))))) else (none)) else (none)
def wainloadref03_Seconds.j3 : Nat → Int → ByteArray → Int → Bool → Option (Int × Int)
  | 0, _, _, _, _ => none
  | k + 1, x4, x6, x7, x57 => if x57 = true then (some (0, 31)) else (wainloadref03_Seconds.l0 k x4 x6 x7 0 0)
def wainloadref03_Seconds.l0 : Nat → Int → ByteArray → Int → Int → Int → Option (Int × Int)
  | 0, _, _, _, _, _ => none
  | k + 1, x4, x6, x7, x8, x9 => if x9 < 9 then (if x9 < (x6.size : Int) then (if 0 ≤ x9 then (wainloadref03_Seconds.l0 k x4 x6 x7 (wrap64 ((wrap64 ((wrap64 (x8 * 10)) + (wrap64 (bt x6 x9)))) - 48)) (wrap64 (x9 + 1))) else (none)) else (wainloadref03_Seconds.l0 k x4 x6 x7 (wrap64 (x8 * 10)) (wrap64 (x9 + 1)))) else (some (wrap64 (x4 * (wrap64 ((wrap64 (x7 * 1000000000)) + x8))), 0))
end
def wainloadref03_Seconds.f (k : Nat) (a0 : ByteArray) : Option (Int × Int) := if (a0.size : Int) > 0 then (if 0 < (a0.size : Int) then (wainloadref03_Seconds.j0 k a0 1 ((bt a0 0) == 45)) else (none)) else (wainloadref03_Seconds.j0 k a0 1 false)
theorem wainloadref03_Seconds.mono_l : ∀ k, (∀ y0 y1 y2, LeO (wainloadref03_Seconds.j0 k y0 y1 y2) (wainloadref03_Seconds.j0 (k + 1) y0 y1 y2)) ∧ (∀ y0 y1, LeO (wainloadref03_Seconds.j1 k y0 y1) (wainloadref03_Seconds.j1 (k + 1) y0 y1)) ∧ (∀ y0 y1 y2 y3, LeO (wainloadref03_Seconds.j2 k y0 y1 y2 y3) (wainloadref03_Seconds.j2 (k + 1) y0 y1 y2 y3)) ∧ (∀ y0 y1 y2 y3, LeO (wainloadref03_Seconds.j3 k y0 y1 y2 y3) (wainloadref03_Seconds.j3 (k + 1) y0 y1 y2 y3)) ∧ (∀ y0 y1 y2 y3 y4, LeO (wainloadref03_Seconds.l0 k y0 y1 y2 y3 y4) (wainloadref03_Seconds.l0 (k + 1) y0 y1 y2 y3 y4))
  | 0 => ⟨fun _ _ _ r h => by simp [wainloadref03_Seconds.j0] at h, fun _ _ r h => by simp [wainloadref03_Seconds.j1] at h, fun _ _ _ _ r h => by simp [wainloadref03_Seconds.j2] at h, fun _ _ _ _ r h => by simp [wainloadref03_Seconds.j3] at h, fun _ _ _ _ _ r h => by simp [wainloadref03_Seconds.l0] at h⟩
  | k + 1 => by
    obtain ⟨ih0, ih1, ih2, ih3, ih4⟩ := wainloadref03_Seconds.mono_l k
    refine ⟨?_, ?_, ?_, ?_, ?_⟩
    · intro y0 y1 y2
      unfold wainloadref03_Seconds.j0
      repeat' first
      | (with_reducible exact ih0 _ _ _)
      | (with_reducible exact ih1 _ _)
      | (with_reducible exact ih2 _ _ _ _)
      | (with_reducible exact ih3 _ _ _ _)
      | (with_reducible exact ih4 _ _ _ _ _)
      | (with_reducible exact Go.Proofs.YtngkbmlmlfofdaaDoor.HA.wainloadref03_number.mono _ _)
      | (with_reducible exact Go.Proofs.YtngkbmlmlfofdaaDoor.HA.wainloadref03_run.mono _ _)
      | (with_reducible exact LeO.refl _)
      | (with_reducible exact LeO.none _)
      | (with_reducible refine LeO.ite ?_ ?_)
      | (with_reducible refine LeO.bind ?_ (fun _ => ?_))
      | exact ih0 _ _ _
      | exact ih1 _ _
      | exact ih2 _ _ _ _
      | exact ih3 _ _ _ _
      | exact ih4 _ _ _ _ _
      | exact Go.Proofs.YtngkbmlmlfofdaaDoor.HA.wainloadref03_number.mono _ _
      | exact Go.Proofs.YtngkbmlmlfofdaaDoor.HA.wainloadref03_run.mono _ _
      | exact LeO.none _
      | refine LeO.ite ?_ ?_
      | refine LeO.bind ?_ (fun _ => ?_)
    · intro y0 y1
      unfold wainloadref03_Seconds.j1
      repeat' first
      | (with_reducible exact ih0 _ _ _)
      | (with_reducible exact ih1 _ _)
      | (with_reducible exact ih2 _ _ _ _)
      | (with_reducible exact ih3 _ _ _ _)
      | (with_reducible exact ih4 _ _ _ _ _)
      | (with_reducible exact Go.Proofs.YtngkbmlmlfofdaaDoor.HA.wainloadref03_number.mono _ _)
      | (with_reducible exact Go.Proofs.YtngkbmlmlfofdaaDoor.HA.wainloadref03_run.mono _ _)
      | (with_reducible exact LeO.refl _)
      | (with_reducible exact LeO.none _)
      | (with_reducible refine LeO.ite ?_ ?_)
      | (with_reducible refine LeO.bind ?_ (fun _ => ?_))
      | exact ih0 _ _ _
      | exact ih1 _ _
      | exact ih2 _ _ _ _
      | exact ih3 _ _ _ _
      | exact ih4 _ _ _ _ _
      | exact Go.Proofs.YtngkbmlmlfofdaaDoor.HA.wainloadref03_number.mono _ _
      | exact Go.Proofs.YtngkbmlmlfofdaaDoor.HA.wainloadref03_run.mono _ _
      | exact LeO.none _
      | refine LeO.ite ?_ ?_
      | refine LeO.bind ?_ (fun _ => ?_)
    · intro y0 y1 y2 y3
      unfold wainloadref03_Seconds.j2
      repeat' first
      | (with_reducible exact ih0 _ _ _)
      | (with_reducible exact ih1 _ _)
      | (with_reducible exact ih2 _ _ _ _)
      | (with_reducible exact ih3 _ _ _ _)
      | (with_reducible exact ih4 _ _ _ _ _)
      | (with_reducible exact Go.Proofs.YtngkbmlmlfofdaaDoor.HA.wainloadref03_number.mono _ _)
      | (with_reducible exact Go.Proofs.YtngkbmlmlfofdaaDoor.HA.wainloadref03_run.mono _ _)
      | (with_reducible exact LeO.refl _)
      | (with_reducible exact LeO.none _)
      | (with_reducible refine LeO.ite ?_ ?_)
      | (with_reducible refine LeO.bind ?_ (fun _ => ?_))
      | exact ih0 _ _ _
      | exact ih1 _ _
      | exact ih2 _ _ _ _
      | exact ih3 _ _ _ _
      | exact ih4 _ _ _ _ _
      | exact Go.Proofs.YtngkbmlmlfofdaaDoor.HA.wainloadref03_number.mono _ _
      | exact Go.Proofs.YtngkbmlmlfofdaaDoor.HA.wainloadref03_run.mono _ _
      | exact LeO.none _
      | refine LeO.ite ?_ ?_
      | refine LeO.bind ?_ (fun _ => ?_)
    · intro y0 y1 y2 y3
      unfold wainloadref03_Seconds.j3
      repeat' first
      | (with_reducible exact ih0 _ _ _)
      | (with_reducible exact ih1 _ _)
      | (with_reducible exact ih2 _ _ _ _)
      | (with_reducible exact ih3 _ _ _ _)
      | (with_reducible exact ih4 _ _ _ _ _)
      | (with_reducible exact Go.Proofs.YtngkbmlmlfofdaaDoor.HA.wainloadref03_number.mono _ _)
      | (with_reducible exact Go.Proofs.YtngkbmlmlfofdaaDoor.HA.wainloadref03_run.mono _ _)
      | (with_reducible exact LeO.refl _)
      | (with_reducible exact LeO.none _)
      | (with_reducible refine LeO.ite ?_ ?_)
      | (with_reducible refine LeO.bind ?_ (fun _ => ?_))
      | exact ih0 _ _ _
      | exact ih1 _ _
      | exact ih2 _ _ _ _
      | exact ih3 _ _ _ _
      | exact ih4 _ _ _ _ _
      | exact Go.Proofs.YtngkbmlmlfofdaaDoor.HA.wainloadref03_number.mono _ _
      | exact Go.Proofs.YtngkbmlmlfofdaaDoor.HA.wainloadref03_run.mono _ _
      | exact LeO.none _
      | refine LeO.ite ?_ ?_
      | refine LeO.bind ?_ (fun _ => ?_)
    · intro y0 y1 y2 y3 y4
      unfold wainloadref03_Seconds.l0
      repeat' first
      | (with_reducible exact ih0 _ _ _)
      | (with_reducible exact ih1 _ _)
      | (with_reducible exact ih2 _ _ _ _)
      | (with_reducible exact ih3 _ _ _ _)
      | (with_reducible exact ih4 _ _ _ _ _)
      | (with_reducible exact Go.Proofs.YtngkbmlmlfofdaaDoor.HA.wainloadref03_number.mono _ _)
      | (with_reducible exact Go.Proofs.YtngkbmlmlfofdaaDoor.HA.wainloadref03_run.mono _ _)
      | (with_reducible exact LeO.refl _)
      | (with_reducible exact LeO.none _)
      | (with_reducible refine LeO.ite ?_ ?_)
      | (with_reducible refine LeO.bind ?_ (fun _ => ?_))
      | exact ih0 _ _ _
      | exact ih1 _ _
      | exact ih2 _ _ _ _
      | exact ih3 _ _ _ _
      | exact ih4 _ _ _ _ _
      | exact Go.Proofs.YtngkbmlmlfofdaaDoor.HA.wainloadref03_number.mono _ _
      | exact Go.Proofs.YtngkbmlmlfofdaaDoor.HA.wainloadref03_run.mono _ _
      | exact LeO.none _
      | refine LeO.ite ?_ ?_
      | refine LeO.bind ?_ (fun _ => ?_)
theorem wainloadref03_Seconds.mono : ∀ a0 k, LeO (wainloadref03_Seconds.f k a0) (wainloadref03_Seconds.f (k + 1) a0) := by
  intro a0 k
  obtain ⟨ih0, ih1, ih2, ih3, ih4⟩ := wainloadref03_Seconds.mono_l k
  unfold wainloadref03_Seconds.f
  repeat' first
      | (with_reducible exact ih0 _ _ _)
      | (with_reducible exact ih1 _ _)
      | (with_reducible exact ih2 _ _ _ _)
      | (with_reducible exact ih3 _ _ _ _)
      | (with_reducible exact ih4 _ _ _ _ _)
      | (with_reducible exact Go.Proofs.YtngkbmlmlfofdaaDoor.HA.wainloadref03_number.mono _ _)
      | (with_reducible exact Go.Proofs.YtngkbmlmlfofdaaDoor.HA.wainloadref03_run.mono _ _)
      | (with_reducible exact LeO.refl _)
      | (with_reducible exact LeO.none _)
      | (with_reducible refine LeO.ite ?_ ?_)
      | (with_reducible refine LeO.bind ?_ (fun _ => ?_))
      | exact ih0 _ _ _
      | exact ih1 _ _
      | exact ih2 _ _ _ _
      | exact ih3 _ _ _ _
      | exact ih4 _ _ _ _ _
      | exact Go.Proofs.YtngkbmlmlfofdaaDoor.HA.wainloadref03_number.mono _ _
      | exact Go.Proofs.YtngkbmlmlfofdaaDoor.HA.wainloadref03_run.mono _ _
      | exact LeO.none _
      | refine LeO.ite ?_ ?_
      | refine LeO.bind ?_ (fun _ => ?_)
set_option maxHeartbeats 8000000 in
set_option maxRecDepth 100000 in
theorem wainloadref03_Seconds.calls (k : Nat) (a0 : ByteArray) (r1 : Int) (r2 : Int) (w : World) (h : wainloadref03_Seconds.f k a0 = some (r1, r2)) :
    Calls Tryd.prog 16 #[.string a0] w fun e w' => e = .returned (.tuple #[.int .i64 r1, .int .i64 r2]) ∧ Drawn0 w w' := by
  have H : (if (a0.size : Int) > 0 then (if 0 < (a0.size : Int) then (wainloadref03_Seconds.j0 k a0 1 ((bt a0 0) == 45)) else (none)) else (wainloadref03_Seconds.j0 k a0 1 false)) = some (r1, r2) := h
  clear h
  have HC2 := Aside0.mk H
  clear H
  go_enter Tryd.func16, Tryd.ntmps16
  go_upto_region 2 with (fail)
  go_cut [17] (fun v17 wc => ∃ (kq : Nat) (x17_1 : Bool), v17 = .bool x17_1 ∧ Aside0 (wainloadref03_Seconds.j0 kq a0 1 x17_1 = some (r1, r2)) ∧ Aside0 (kq ≤ k) ∧ Drawn0 w wc)
  case first =>
    have H := HC2.out
    clear HC2
    by_cases c3 : (a0.size : Int) > 0
    · rw [if_pos c3] at H
      have c3b0 : decide (0 < (a0.size : Int)) = true := decide_eq_true c3
      have c3b1 : decide (0 < a0.size) = true := decide_eq_true (by omega)
      clear c3
      (first | rw [c3b0] | (simp only [i64_w, i32_w]; rw [c3b0]) | skip)
      by_cases c4 : 0 < (a0.size : Int)
      · rw [if_pos c4] at H
        have c4b0 : decide (0 < (a0.size : Int)) = true := decide_eq_true c4
        have c4b1 : decide (0 < a0.size) = true := decide_eq_true (by omega)
        clear c4
        have H' := Aside0.mk H
        clear H
        have p5 : 0 ≤ (0 : Int) := (by omega)
        have q5 : 0 < a0.size := (by have : (0 : Int) < (a0.size : Int) := of_decide_eq_true (by first | (with_reducible assumption) | assumption); omega)
        have hx5 : ∀ h : 0 < a0.size, ((a0[0]'h).toNat : Int) = bt a0 0 := bt_at a0 0
        clear p5
        have qi5 : (0 < (a0.size : Int)) = True := eq_true (of_decide_eq_true (by first | (with_reducible assumption) | assumption))
        replace q5 := eq_true q5
        go_wp2
        go_meet
        case rel => exact ⟨_, (((bt a0 0) == 45)), (by first | rfl | (simp; done) | (simp [*]; done)), H', ⟨by first | omega | exact Nat.le_refl _⟩, by repeat (first | exact Drawn0.refl _ | apply Drawn0.step)⟩
      · rw [if_neg c4] at H
        exact absurd H (by simp)
    · rw [if_neg c3] at H
      have c3b0 : decide (0 < (a0.size : Int)) = false := decide_eq_false c3
      have c3b1 : decide (0 < a0.size) = false := decide_eq_false (by omega)
      clear c3
      (first | rw [c3b0] | (simp only [i64_w, i32_w]; rw [c3b0]) | skip)
      have H' := Aside0.mk H
      clear H
      go_wp2
      go_meet
      case rel => exact ⟨_, (false), (by first | rfl | (simp; done) | (simp [*]; done)), H', ⟨by first | omega | exact Nat.le_refl _⟩, by repeat (first | exact Drawn0.refl _ | apply Drawn0.step)⟩
  case rest =>
    clear HC2
    try clear c1
    try clear p2
    try clear c3
    try clear c3b0
    try clear c3b1
    try clear c4
    try clear c4b0
    try clear c4b1
    try clear p5
    try clear q5
    try clear hx5
    try clear qi5
    try clear p5
    try clear q5
    obtain ⟨kq, x17_1, rfl, HA, HJ1, ⟨mc1, rfl⟩⟩ := hcut
    cases kq with
    | zero => exact absurd HA.out (by simp [wainloadref03_Seconds.j0])
    | succ kj1 =>
      have H := HA.out
      clear HA
      simp only [wainloadref03_Seconds.j0] at H
      have HC6 := Aside0.mk H
      clear H
      go_upto_if 17 with (fail)
      go_cut [0, 4] (fun v0 v4 wc => ∃ (kq : Nat) (x0_5 : ByteArray) (x4_5 : Int), v0 = .string x0_5 ∧ v4 = .int .i64 x4_5 ∧ Aside0 (wainloadref03_Seconds.j1 kq x0_5 x4_5 = some (r1, r2)) ∧ Aside0 (kq ≤ kj1) ∧ Drawn0 w wc)
      case first =>
        have H := HC6.out
        clear HC6
        by_cases c7 : x17_1 = true
        · subst c7
          have H1 : (if 1 ≤ (a0.size : Int) then (wainloadref03_Seconds.j1 kj1 (a0.extract 1 a0.size) (-1)) else (none)) = some (r1, r2) := by rw [if_pos rfl] at H; exact H
          clear H
          have H := H1
          clear H1
          by_cases c8 : 1 ≤ (a0.size : Int)
          · rw [if_pos c8] at H
            have c8b0 := eq_true c8
            have c8b1 : decide (1 ≤ (a0.size : Int)) = true := decide_eq_true c8
            clear c8
            have H' := Aside0.mk H
            clear H
            go_wp2
            go_meet
            case rel => exact ⟨_, (a0.extract 1 a0.size), ((-1)), (by first | rfl | (simp; done) | (simp [*]; done)), (by first | rfl | (simp; done) | (simp [*]; done)), H', ⟨by have := HJ1.out; first | omega | exact Nat.le_refl _⟩, by repeat (first | exact Drawn0.refl _ | apply Drawn0.step)⟩
          · rw [if_neg c8] at H
            exact absurd H (by simp)
        · replace c7 := Bool.eq_false_iff.mpr c7
          subst c7
          have H1 : (wainloadref03_Seconds.j1 kj1 a0 1) = some (r1, r2) := by rw [if_neg (show ¬ (false = true) by decide)] at H; exact H
          clear H
          have H := H1
          clear H1
          have H' := Aside0.mk H
          clear H
          go_wp2
          go_meet
          case rel => exact ⟨_, (a0), (1), (by first | rfl | (simp; done) | (simp [*]; done)), (by first | rfl | (simp; done) | (simp [*]; done)), H', ⟨by have := HJ1.out; first | omega | exact Nat.le_refl _⟩, by repeat (first | exact Drawn0.refl _ | apply Drawn0.step)⟩
      case rest =>
        clear HC6
        try clear c1
        try clear p2
        try clear c3
        try clear c3b0
        try clear c3b1
        try clear c4
        try clear c4b0
        try clear c4b1
        try clear p5
        try clear q5
        try clear hx5
        try clear qi5
        try clear c7
        try clear c8
        try clear c8b0
        try clear c8b1
        try clear p2
        try clear p5
        try clear q5
        obtain ⟨kq, x0_5, x4_5, rfl, rfl, HA, HJ5, ⟨mc5, rfl⟩⟩ := hcut
        cases kq with
        | zero => exact absurd HA.out (by simp [wainloadref03_Seconds.j1])
        | succ kj5 =>
          have H := HA.out
          clear HA
          simp only [wainloadref03_Seconds.j1] at H
          replace H := Option.bind_eq_some_iff.mp H
          obtain ⟨t101, A90, H⟩ := H
          replace H : (if t101 = 0 then (some (0, 30)) else (if t101 < (x0_5.size : Int) then (if 0 ≤ (wrap64 (t101 + 1)) then (if (wrap64 (t101 + 1)) ≤ (x0_5.size : Int) then (if 0 ≤ t101 then (if (bt x0_5 t101) = 46 then (if ((x0_5.extract ((wrap64 (t101 + 1)) : Int).toNat x0_5.size).size : Int) = 0 then (some (0, 30)) else ((Go.Proofs.YtngkbmlmlfofdaaDoor.HA.wainloadref03_run.f kj5 (x0_5.extract ((wrap64 (t101 + 1)) : Int).toNat x0_5.size)).bind fun t102 => (if t102 < ((x0_5.extract ((wrap64 (t101 + 1)) : Int).toNat x0_5.size).size : Int) then (some (0, 30)) else (wainloadref03_Seconds.j2 kj5 x0_5 x4_5 t101 (x0_5.extract ((wrap64 (t101 + 1)) : Int).toNat x0_5.size))))) else (some (0, 30))) else (none)) else (none)) else (none)) else (wainloadref03_Seconds.j2 kj5 x0_5 x4_5 t101 (⟨#[]⟩ : ByteArray)))) = some (r1, r2) := H
          have A9 := Aside0.mk A90
          clear A90
          by_cases c10 : t101 = 0
          · rw [if_pos c10] at H
            have c10b0 : (t101 == 0) = true := beq_iff_eq.mpr c10
            have c10b1 : (t101 != 0) = false := bne_eq_false_iff_eq.mpr c10
            clear c10
            simp only [Option.some.injEq, Prod.mk.injEq] at H
            obtain ⟨rfl, rfl⟩ := H
            go_wp2_with (first | ((with_reducible refine gate_callee (f := 35) rfl ?_); refine goesL_ (some 21) rfl rfl Tryd.func35 (by kernel_rfl) rfl #[.string x0_5] rfl (by (try simp only [List.map_toArray, List.map_cons, List.map_nil]); first | done | rfl | (simp only [List.length_drop, List.length_take]; rfl)) ?_; (with_reducible refine (Go.Proofs.YtngkbmlmlfofdaaDoor.HA.wainloadref03_run.calls kj5 x0_5 t101 _ A9.out).mono ?_); rintro e w' ⟨rfl, ⟨nd, rfl⟩⟩; refine ⟨_, rfl, ?_⟩))
            go_ret2
            exact ⟨by first | rfl | (simp; done) | (simp [*]; done), by repeat (first | exact Drawn0.refl _ | apply Drawn0.step)⟩
          · rw [if_neg c10] at H
            have c10b0 : (t101 == 0) = false := beq_eq_false_iff_ne.mpr c10
            have c10b1 : (t101 != 0) = true := bne_iff_ne.mpr c10
            have HC11 := Aside0.mk H
            clear H
            go_upto_if 27 with (first | ((with_reducible refine gate_callee (f := 35) rfl ?_); refine goesL_ (some 21) rfl rfl Tryd.func35 (by kernel_rfl) rfl #[.string x0_5] rfl (by (try simp only [List.map_toArray, List.map_cons, List.map_nil]); first | done | rfl | (simp only [List.length_drop, List.length_take]; rfl)) ?_; (with_reducible refine (Go.Proofs.YtngkbmlmlfofdaaDoor.HA.wainloadref03_run.calls kj5 x0_5 t101 _ A9.out).mono ?_); rintro e w' ⟨rfl, ⟨nd, rfl⟩⟩; refine ⟨_, rfl, ?_⟩))
            (try simp only [Act.put, List.setIfInBounds_toArray, List.set_cons_zero, List.set_cons_succ])
            go_cut [6] (fun v6 wc => ∃ (kq : Nat) (x6_10 : ByteArray), v6 = .string x6_10 ∧ Aside0 (wainloadref03_Seconds.j2 kq x0_5 x4_5 t101 x6_10 = some (r1, r2)) ∧ Aside0 (kq ≤ kj5) ∧ Drawn0 w wc)
            case first =>
              have H := HC11.out
              clear HC11
              by_cases c12 : t101 < (x0_5.size : Int)
              · rw [if_pos c12] at H
                have c12b0 : decide (t101 < (x0_5.size : Int)) = true := decide_eq_true c12
                clear c12
                (first | rw [c12b0] | (simp only [i64_w, i32_w]; rw [c12b0]) | skip)
                obtain ⟨ji13, hji13⟩ : ∃ j_ : Int, (wrap64 (t101 + 1)) = j_ := ⟨_, rfl⟩
                replace H : (if 0 ≤ (ji13) then (if (ji13) ≤ (x0_5.size : Int) then (if 0 ≤ t101 then (if (bt x0_5 t101) = 46 then (if ((x0_5.extract ((ji13) : Int).toNat x0_5.size).size : Int) = 0 then (some (0, 30)) else ((Go.Proofs.YtngkbmlmlfofdaaDoor.HA.wainloadref03_run.f kj5 (x0_5.extract ((ji13) : Int).toNat x0_5.size)).bind fun t102 => (if t102 < ((x0_5.extract ((ji13) : Int).toNat x0_5.size).size : Int) then (some (0, 30)) else (wainloadref03_Seconds.j2 kj5 x0_5 x4_5 t101 (x0_5.extract ((ji13) : Int).toNat x0_5.size))))) else (some (0, 30))) else (none)) else (none)) else (none)) = some (r1, r2) := by first | (rw [hji13] at H; exact H) | (simp only [hji13] at H ⊢; exact H)
                have hji13w : (IntKind.i64.wrap (t101 + 1)) = ji13 := (i64_w _).trans hji13
                by_cases c14 : 0 ≤ (ji13)
                · rw [if_pos c14] at H
                  have c14b0 := eq_true c14
                  have c14b1 : decide (0 ≤ (ji13)) = true := decide_eq_true c14
                  clear c14
                  by_cases c15 : (ji13) ≤ (x0_5.size : Int)
                  · rw [if_pos c15] at H
                    have c15b0 := eq_true c15
                    have c15b1 : decide ((ji13) ≤ (x0_5.size : Int)) = true := decide_eq_true c15
                    clear c15
                    by_cases c16 : 0 ≤ t101
                    · rw [if_pos c16] at H
                      have c16b0 : decide (0 ≤ t101) = true := decide_eq_true c16
                      clear c16
                      by_cases c18 : (bt x0_5 t101) = 46
                      · rw [if_pos c18] at H
                        have c18b0 : ((bt x0_5 t101) == 46) = true := beq_iff_eq.mpr c18
                        have c18b1 : ((bt x0_5 t101) != 46) = false := bne_eq_false_iff_eq.mpr c18
                        clear c18
                        by_cases c19 : ((x0_5.extract ((ji13) : Int).toNat x0_5.size).size : Int) = 0
                        · rw [if_pos c19] at H
                          have c19b0 : (((x0_5.extract ((ji13) : Int).toNat x0_5.size).size : Int) == 0) = true := beq_iff_eq.mpr c19
                          try have c19b0x := c19b0
                          try simp only [ByteArray.size_extract, Nat.min_self, ByteArray.size_append] at c19b0x
                          have c19b1 : (((x0_5.extract ((ji13) : Int).toNat x0_5.size).size : Int) != 0) = false := bne_eq_false_iff_eq.mpr c19
                          try have c19b1x := c19b1
                          try simp only [ByteArray.size_extract, Nat.min_self, ByteArray.size_append] at c19b1x
                          clear c19
                          simp only [Option.some.injEq, Prod.mk.injEq] at H
                          obtain ⟨rfl, rfl⟩ := H
                          have p17 : 0 ≤ (t101 : Int) := of_decide_eq_true (by first | (with_reducible assumption) | assumption)
                          have q17 : t101 < (x0_5.size : Int) := of_decide_eq_true (by first | (with_reducible assumption) | assumption)
                          have hx17 := bt_at x0_5 t101
                          replace p17 := eq_true p17
                          replace q17 := eq_true q17
                          go_wp2
                          go_ret2
                          exact ⟨by first | rfl | (simp; done) | (simp only [← hji13] <;> (first | rfl | simp)) | (simp [*]; done), by repeat (first | exact Drawn0.refl _ | apply Drawn0.step)⟩
                        · rw [if_neg c19] at H
                          have c19b0 : (((x0_5.extract ((ji13) : Int).toNat x0_5.size).size : Int) == 0) = false := beq_eq_false_iff_ne.mpr c19
                          try have c19b0x := c19b0
                          try simp only [ByteArray.size_extract, Nat.min_self, ByteArray.size_append] at c19b0x
                          have c19b1 : (((x0_5.extract ((ji13) : Int).toNat x0_5.size).size : Int) != 0) = true := bne_iff_ne.mpr c19
                          try have c19b1x := c19b1
                          try simp only [ByteArray.size_extract, Nat.min_self, ByteArray.size_append] at c19b1x
                          replace H := Option.bind_eq_some_iff.mp H
                          obtain ⟨t102, A200, H⟩ := H
                          replace H : (if t102 < ((x0_5.extract ((ji13) : Int).toNat x0_5.size).size : Int) then (some (0, 30)) else (wainloadref03_Seconds.j2 kj5 x0_5 x4_5 t101 (x0_5.extract ((ji13) : Int).toNat x0_5.size))) = some (r1, r2) := H
                          have A20 := Aside0.mk A200
                          clear A200
                          by_cases c21 : t102 < ((x0_5.extract ((ji13) : Int).toNat x0_5.size).size : Int)
                          · rw [if_pos c21] at H
                            have c21b0 : decide (t102 < ((x0_5.extract ((ji13) : Int).toNat x0_5.size).size : Int)) = true := decide_eq_true c21
                            try have c21b0x := c21b0
                            try simp only [ByteArray.size_extract, Nat.min_self, ByteArray.size_append] at c21b0x
                            clear c21
                            simp only [Option.some.injEq, Prod.mk.injEq] at H
                            obtain ⟨rfl, rfl⟩ := H
                            have p17 : 0 ≤ (t101 : Int) := of_decide_eq_true (by first | (with_reducible assumption) | assumption)
                            have q17 : t101 < (x0_5.size : Int) := of_decide_eq_true (by first | (with_reducible assumption) | assumption)
                            have hx17 := bt_at x0_5 t101
                            replace p17 := eq_true p17
                            replace q17 := eq_true q17
                            go_wp2_with (first | (go_at_call 35; (with_reducible refine (Go.Proofs.YtngkbmlmlfofdaaDoor.HA.wainloadref03_run.calls kj5 (x0_5.extract ((ji13) : Int).toNat x0_5.size) t102 _ A20.out).mono ?_); rintro e w' ⟨rfl, ⟨nd, rfl⟩⟩))
                            go_ret2
                            exact ⟨by first | rfl | (simp; done) | (simp only [← hji13] <;> (first | rfl | simp)) | (simp [*]; done), by repeat (first | exact Drawn0.refl _ | apply Drawn0.step)⟩
                          · rw [if_neg c21] at H
                            have c21b0 : decide (t102 < ((x0_5.extract ((ji13) : Int).toNat x0_5.size).size : Int)) = false := decide_eq_false c21
                            try have c21b0x := c21b0
                            try simp only [ByteArray.size_extract, Nat.min_self, ByteArray.size_append] at c21b0x
                            clear c21
                            have H' := Aside0.mk H
                            clear H
                            have p17 : 0 ≤ (t101 : Int) := of_decide_eq_true (by first | (with_reducible assumption) | assumption)
                            have q17 : t101 < (x0_5.size : Int) := of_decide_eq_true (by first | (with_reducible assumption) | assumption)
                            have hx17 := bt_at x0_5 t101
                            replace p17 := eq_true p17
                            replace q17 := eq_true q17
                            go_wp2_with (first | (go_at_call 35; (with_reducible refine (Go.Proofs.YtngkbmlmlfofdaaDoor.HA.wainloadref03_run.calls kj5 (x0_5.extract ((ji13) : Int).toNat x0_5.size) t102 _ A20.out).mono ?_); rintro e w' ⟨rfl, ⟨nd, rfl⟩⟩))
                            go_meet
                            case rel => exact ⟨_, (x0_5.extract ((ji13) : Int).toNat x0_5.size), (by first | rfl | (simp; done) | (simp only [← hji13] <;> (first | rfl | simp)) | (simp [*]; done)), H', ⟨by have := HJ1.out; have := HJ5.out; first | omega | exact Nat.le_refl _⟩, by repeat (first | exact Drawn0.refl _ | apply Drawn0.step)⟩
                      · rw [if_neg c18] at H
                        have c18b0 : ((bt x0_5 t101) == 46) = false := beq_eq_false_iff_ne.mpr c18
                        have c18b1 : ((bt x0_5 t101) != 46) = true := bne_iff_ne.mpr c18
                        simp only [Option.some.injEq, Prod.mk.injEq] at H
                        obtain ⟨rfl, rfl⟩ := H
                        have p17 : 0 ≤ (t101 : Int) := of_decide_eq_true (by first | (with_reducible assumption) | assumption)
                        have q17 : t101 < (x0_5.size : Int) := of_decide_eq_true (by first | (with_reducible assumption) | assumption)
                        have hx17 := bt_at x0_5 t101
                        replace p17 := eq_true p17
                        replace q17 := eq_true q17
                        go_wp2
                        go_ret2
                        exact ⟨by first | rfl | (simp; done) | (simp only [← hji13] <;> (first | rfl | simp)) | (simp [*]; done), by repeat (first | exact Drawn0.refl _ | apply Drawn0.step)⟩
                    · rw [if_neg c16] at H
                      exact absurd H (by simp)
                  · rw [if_neg c15] at H
                    exact absurd H (by simp)
                · rw [if_neg c14] at H
                  exact absurd H (by simp)
              · rw [if_neg c12] at H
                have c12b0 : decide (t101 < (x0_5.size : Int)) = false := decide_eq_false c12
                clear c12
                (first | rw [c12b0] | (simp only [i64_w, i32_w]; rw [c12b0]) | skip)
                have H' := Aside0.mk H
                clear H
                go_wp2
                go_meet
                case rel => exact ⟨_, ((⟨#[]⟩ : ByteArray)), (by first | rfl | (simp; done) | (simp [*]; done)), H', ⟨by have := HJ1.out; have := HJ5.out; first | omega | exact Nat.le_refl _⟩, by repeat (first | exact Drawn0.refl _ | apply Drawn0.step)⟩
            case rest =>
              clear HC11
              try clear c1
              try clear p1
              try clear q1
              try clear hx1
              try clear c2
              try clear p2
              try clear c3
              try clear c3b0
              try clear c3b1
              try clear c4
              try clear c4b0
              try clear c4b1
              try clear c5
              try clear p5
              try clear q5
              try clear hx5
              try clear qi5
              try clear p6
              try clear c7
              try clear c8
              try clear c8b0
              try clear c8b1
              try clear c10
              try clear c10b0
              try clear c10b1
              try clear c12
              try clear c12b0
              try clear c14
              try clear c14b0
              try clear c14b1
              try clear c15
              try clear c15b0
              try clear c15b1
              try clear c16
              try clear c16b0
              try clear p17
              try clear q17
              try clear hx17
              try clear c18
              try clear c18b0
              try clear c18b1
              try clear c19
              try clear c19b0
              try clear c19b1
              try clear c21
              try clear c21b0
              try clear p17
              try clear p2
              try clear p5
              try clear q17
              try clear q5
              obtain ⟨kq, x6_10, rfl, HA, HJ10, ⟨mc10, rfl⟩⟩ := hcut
              cases kq with
              | zero => exact absurd HA.out (by simp [wainloadref03_Seconds.j2])
              | succ kj10 =>
                have H := HA.out
                clear HA
                simp only [wainloadref03_Seconds.j2] at H
                by_cases c22 : 0 ≤ t101
                · rw [if_pos c22] at H
                  have c22b0 := eq_true c22
                  have c22b1 : decide (0 ≤ t101) = true := decide_eq_true c22
                  clear c22
                  by_cases c23 : t101 ≤ (x0_5.size : Int)
                  · rw [if_pos c23] at H
                    have c23b0 := eq_true c23
                    have c23b1 : decide (t101 ≤ (x0_5.size : Int)) = true := decide_eq_true c23
                    clear c23
                    replace H := Option.bind_eq_some_iff.mp H
                    obtain ⟨t103, A240, H⟩ := H
                    replace H : (if t103 < 0 then (wainloadref03_Seconds.j3 kj10 x4_5 x6_10 t103 true) else (wainloadref03_Seconds.j3 kj10 x4_5 x6_10 t103 (decide (t103 > 9000000000)))) = some (r1, r2) := H
                    have A24 := Aside0.mk A240
                    clear A240
                    have HC25 := Aside0.mk H
                    clear H
                    go_upto_region 14 with (first | ((with_reducible refine gate_callee (f := 36) rfl ?_); refine goesL_ (some 51) rfl rfl Tryd.func36 (by kernel_rfl) rfl #[.string (x0_5.extract 0 (t101 : Int).toNat)] rfl (by (try simp only [List.map_toArray, List.map_cons, List.map_nil]); first | done | rfl | (simp only [List.length_drop, List.length_take]; rfl)) ?_; (with_reducible refine (Go.Proofs.YtngkbmlmlfofdaaDoor.HA.wainloadref03_number.calls kj10 (x0_5.extract 0 (t101 : Int).toNat) t103 _ A24.out).mono ?_); rintro e w' ⟨rfl, ⟨nd, rfl⟩⟩; refine ⟨_, rfl, ?_⟩))
                    (try simp only [Act.put, List.setIfInBounds_toArray, List.set_cons_zero, List.set_cons_succ])
                    go_cut [57] (fun v57 wc => ∃ (kq : Nat) (x57_24 : Bool), v57 = .bool x57_24 ∧ Aside0 (wainloadref03_Seconds.j3 kq x4_5 x6_10 t103 x57_24 = some (r1, r2)) ∧ Aside0 (kq ≤ kj10) ∧ Drawn0 w wc)
                    case first =>
                      have H := HC25.out
                      clear HC25
                      by_cases c26 : t103 < 0
                      · rw [if_pos c26] at H
                        have c26b0 : decide (t103 < 0) = true := decide_eq_true c26
                        clear c26
                        (first | rw [c26b0] | (simp only [i64_w, i32_w]; rw [c26b0]) | skip)
                        have H' := Aside0.mk H
                        clear H
                        go_wp2
                        go_meet
                        case rel => exact ⟨_, (true), (by first | rfl | (simp; done) | (simp [*]; done)), H', ⟨by have := HJ1.out; have := HJ5.out; have := HJ10.out; first | omega | exact Nat.le_refl _⟩, by repeat (first | exact Drawn0.refl _ | apply Drawn0.step)⟩
                      · rw [if_neg c26] at H
                        have c26b0 : decide (t103 < 0) = false := decide_eq_false c26
                        clear c26
                        (first | rw [c26b0] | (simp only [i64_w, i32_w]; rw [c26b0]) | skip)
                        have H' := Aside0.mk H
                        clear H
                        go_wp2
                        go_meet
                        case rel => exact ⟨_, (decide (t103 > 9000000000)), (by first | rfl | (simp; done) | (simp [*]; done)), H', ⟨by have := HJ1.out; have := HJ5.out; have := HJ10.out; first | omega | exact Nat.le_refl _⟩, by repeat (first | exact Drawn0.refl _ | apply Drawn0.step)⟩
                    case rest =>
                      clear HC25
                      try clear c1
                      try clear p1
                      try clear q1
                      try clear hx1
                      try clear c2
                      try clear p2
                      try clear c3
                      try clear c3b0
                      try clear c3b1
                      try clear c4
                      try clear c4b0
                      try clear c4b1
                      try clear c5
                      try clear p5
                      try clear q5
                      try clear hx5
                      try clear qi5
                      try clear p6
                      try clear c7
                      try clear c8
                      try clear c8b0
                      try clear c8b1
                      try clear c10
                      try clear c10b0
                      try clear c10b1
                      try clear c12
                      try clear c12b0
                      try clear c14
                      try clear c14b0
                      try clear c14b1
                      try clear c15
                      try clear c15b0
                      try clear c15b1
                      try clear c16
                      try clear c16b0
                      try clear p17
                      try clear q17
                      try clear hx17
                      try clear c18
                      try clear c18b0
                      try clear c18b1
                      try clear c19
                      try clear c19b0
                      try clear c19b1
                      try clear c21
                      try clear c21b0
                      try clear c22
                      try clear c22b0
                      try clear c22b1
                      try clear c23
                      try clear c23b0
                      try clear c23b1
                      try clear c26
                      try clear c26b0
                      try clear p1
                      try clear p17
                      try clear p2
                      try clear p5
                      try clear p6
                      try clear q1
                      try clear q17
                      try clear q5
                      obtain ⟨kq, x57_24, rfl, HA, HJ24, ⟨mc24, rfl⟩⟩ := hcut
                      cases kq with
                      | zero => exact absurd HA.out (by simp [wainloadref03_Seconds.j3])
                      | succ kj24 =>
                        have H := HA.out
                        clear HA
                        simp only [wainloadref03_Seconds.j3] at H
                        by_cases c27 : x57_24 = true
                        · subst c27
                          have H1 : (some (0, 31)) = some (r1, r2) := by rw [if_pos rfl] at H; exact H
                          clear H
                          have H := H1
                          clear H1
                          simp only [Option.some.injEq, Prod.mk.injEq] at H
                          obtain ⟨rfl, rfl⟩ := H
                          go_wp2
                          go_ret2
                          exact ⟨by first | rfl | (simp; done) | (simp [*]; done), by repeat (first | exact Drawn0.refl _ | apply Drawn0.step)⟩
                        · replace c27 := Bool.eq_false_iff.mpr c27
                          subst c27
                          have H1 : (wainloadref03_Seconds.l0 kj24 x4_5 x6_10 t103 0 0) = some (r1, r2) := by rw [if_neg (show ¬ (false = true) by decide)] at H; exact H
                          clear H
                          have H := H1
                          clear H1
                          have H' := Aside0.mk H
                          clear H
                          go_wp2
                          go_loopg [8, 9] kj24 (fun kq v8 v9 w' => ∃ (x8_5 : Int) (x9_5 : Int), v8 = .int .i64 x8_5 ∧ v9 = .int .i64 x9_5 ∧ Aside0 (wainloadref03_Seconds.l0 kq x4_5 x6_10 t103 x8_5 x9_5 = some (r1, r2)) ∧ Aside0 (kq ≤ kj24) ∧ Drawn0 w w')
                          case atStart => exact ⟨(0), (0), (by first | rfl | (simp; done) | (simp [*]; done)), (by first | rfl | (simp; done) | (simp [*]; done)), H', ⟨Nat.le_refl _⟩, by repeat (first | exact Drawn0.refl _ | apply Drawn0.step)⟩
                          case round =>
                            clear H'
                            try clear c1
                            try clear p1
                            try clear q1
                            try clear hx1
                            try clear c2
                            try clear p2
                            try clear c3
                            try clear c3b0
                            try clear c3b1
                            try clear c4
                            try clear c4b0
                            try clear c4b1
                            try clear c5
                            try clear p5
                            try clear q5
                            try clear hx5
                            try clear qi5
                            try clear p6
                            try clear c7
                            try clear c8
                            try clear c8b0
                            try clear c8b1
                            try clear c10
                            try clear c10b0
                            try clear c10b1
                            try clear c12
                            try clear c12b0
                            try clear c14
                            try clear c14b0
                            try clear c14b1
                            try clear c15
                            try clear c15b0
                            try clear c15b1
                            try clear c16
                            try clear c16b0
                            try clear p17
                            try clear q17
                            try clear hx17
                            try clear c18
                            try clear c18b0
                            try clear c18b1
                            try clear c19
                            try clear c19b0
                            try clear c19b1
                            try clear c21
                            try clear c21b0
                            try clear c22
                            try clear c22b0
                            try clear c22b1
                            try clear c23
                            try clear c23b0
                            try clear c23b1
                            try clear c24
                            try clear c26
                            try clear c26b0
                            try clear c27
                            try clear p1
                            try clear p17
                            try clear p2
                            try clear p5
                            try clear p6
                            try clear q1
                            try clear q17
                            try clear q5
                            obtain ⟨x8_5, x9_5, rfl, rfl, HA, HK5, ⟨m5, rfl⟩⟩ := hrel
                            cases gk with
                            | zero => exact absurd HA.out (by simp [wainloadref03_Seconds.l0])
                            | succ k5 =>
                              have H := HA.out
                              clear HA
                              simp only [wainloadref03_Seconds.l0] at H
                              by_cases c28 : x9_5 < 9
                              · rw [if_pos c28] at H
                                have c28b0 : decide (x9_5 < 9) = true := decide_eq_true c28
                                clear c28
                                by_cases c29 : x9_5 < (x6_10.size : Int)
                                · rw [if_pos c29] at H
                                  have c29b0 : decide (x9_5 < (x6_10.size : Int)) = true := decide_eq_true c29
                                  clear c29
                                  by_cases c30 : 0 ≤ x9_5
                                  · rw [if_pos c30] at H
                                    have c30b0 : decide (0 ≤ x9_5) = true := decide_eq_true c30
                                    clear c30
                                    have H' := Aside0.mk H
                                    clear H
                                    have p31 : 0 ≤ (x9_5 : Int) := of_decide_eq_true (by first | (with_reducible assumption) | assumption)
                                    have q31 : x9_5 < (x6_10.size : Int) := of_decide_eq_true (by first | (with_reducible assumption) | assumption)
                                    have hx31 := bt_at x6_10 x9_5
                                    replace p31 := eq_true p31
                                    replace q31 := eq_true q31
                                    go_wp2
                                    go_roundg k5
                                    case measure => have := HJ1.out; have := HJ5.out; have := HJ10.out; have := HJ24.out; have := HK5.out; omega
                                    case rel => exact ⟨(wrap64 ((wrap64 ((wrap64 (x8_5 * 10)) + (wrap64 (bt x6_10 x9_5)))) - 48)), (wrap64 (x9_5 + 1)), (by first | rfl | (simp; done) | (simp [*]; done)), (by first | rfl | (simp; done) | (simp [*]; done)), H', ⟨by have := HJ1.out; have := HJ5.out; have := HJ10.out; have := HJ24.out; have := HK5.out; omega⟩, by repeat (first | exact Drawn0.refl _ | apply Drawn0.step)⟩
                                  · rw [if_neg c30] at H
                                    exact absurd H (by simp)
                                · rw [if_neg c29] at H
                                  have c29b0 : decide (x9_5 < (x6_10.size : Int)) = false := decide_eq_false c29
                                  clear c29
                                  have H' := Aside0.mk H
                                  clear H
                                  go_wp2
                                  go_roundg k5
                                  case measure => have := HJ1.out; have := HJ5.out; have := HJ10.out; have := HJ24.out; have := HK5.out; omega
                                  case rel => exact ⟨(wrap64 (x8_5 * 10)), (wrap64 (x9_5 + 1)), (by first | rfl | (simp; done) | (simp [*]; done)), (by first | rfl | (simp; done) | (simp [*]; done)), H', ⟨by have := HJ1.out; have := HJ5.out; have := HJ10.out; have := HJ24.out; have := HK5.out; omega⟩, by repeat (first | exact Drawn0.refl _ | apply Drawn0.step)⟩
                              · rw [if_neg c28] at H
                                have c28b0 : decide (x9_5 < 9) = false := decide_eq_false c28
                                clear c28
                                simp only [Option.some.injEq, Prod.mk.injEq] at H
                                obtain ⟨rfl, rfl⟩ := H
                                go_wp2
                                go_ret2
                                exact ⟨by first | rfl | (simp; done) | (simp [*]; done), by repeat (first | exact Drawn0.refl _ | apply Drawn0.step)⟩
                  · rw [if_neg c23] at H
                    exact absurd H (by simp)
                · rw [if_neg c22] at H
                  exact absurd H (by simp)

end Go.Proofs.YtngkbmlmlfofdaaDoor.HC
