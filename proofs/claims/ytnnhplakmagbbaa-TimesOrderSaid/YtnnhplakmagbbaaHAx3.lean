/- What calls of these Go functions come to, as plain Lean functions, each with its proof; printed for this claim by a program of this session. -/
import Derived.Test.YtnnhplakmagbbaaHAx0
import Derived.Test.YtnnhplakmagbbaaHAx1
import Derived.Test.YtnnhplakmagbbaaHAx2
namespace Go.Proofs.Ytnnhplakmagbbaa.HA
open Go.RowKit Go.Proofs.YtnnhplakmagbbaaW.PrintWords Go.Proofs.YtnnhplakmagbbaaW.PrintLast Go.Proofs.YtnnhplakmagbbaaW.PrintMore
attribute [local go_sem] max2_int min2_int max_two min_two max_three min_three max_four min_four   -- for this text's walks alone
set_option linter.unusedVariables false
set_option linter.unusedSimpArgs false

/-! ### times_floored: function 35 -/
def times_floored.f (a0 : Int) (a1 : Int) : Option (Int) := if a1 = 0 then (none) else (if (Int.tmod a0 a1) < 0 then (some (wrap64 ((wrap64 (Int.tdiv a0 a1)) - 1))) else (some (wrap64 (Int.tdiv a0 a1))))
set_option maxHeartbeats 8000000 in
set_option maxRecDepth 100000 in
theorem times_floored.calls (a0 : Int) (a1 : Int) (r : Int) (w : World) (h : times_floored.f a0 a1 = some r) :
    Calls Try.prog 35 #[.int .i64 a0, .int .i64 a1] w fun e w' => e = .returned (.int .i64 r) ∧ Drawn0 w w' := by
  have H : (if a1 = 0 then (none) else (if (Int.tmod a0 a1) < 0 then (some (wrap64 ((wrap64 (Int.tdiv a0 a1)) - 1))) else (some (wrap64 (Int.tdiv a0 a1))))) = some r := h
  clear h
  by_cases c3 : a1 = 0
  · rw [if_pos c3] at H
    exact absurd H (by simp)
  · rw [if_neg c3] at H
    have c3b0 : (a1 == 0) = false := beq_eq_false_iff_ne.mpr c3
    have c3b1 : (a1 != 0) = true := bne_iff_ne.mpr c3
    by_cases c4 : (Int.tmod a0 a1) < 0
    · rw [if_pos c4] at H
      have c4b0 : decide ((Int.tmod a0 a1) < 0) = true := decide_eq_true c4
      clear c4
      obtain rfl := Option.some.inj H
      go_enter Try.func35, Try.ntmps35
      go_wp2
      go_ret
      exact ⟨by first | rfl | (simp; done) | (simp [*]; done), by repeat (first | exact Drawn0.refl _ | apply Drawn0.step)⟩
    · rw [if_neg c4] at H
      have c4b0 : decide ((Int.tmod a0 a1) < 0) = false := decide_eq_false c4
      clear c4
      obtain rfl := Option.some.inj H
      go_enter Try.func35, Try.ntmps35
      go_wp2
      go_ret
      exact ⟨by first | rfl | (simp; done) | (simp [*]; done), by repeat (first | exact Drawn0.refl _ | apply Drawn0.step)⟩

-- NOT PRINTED: function 14 (times_ToDate)

/-! ### times_FromNt: function 16 -/
def times_FromNt.f (a0 : Int) : Option (Int × Bool) := if a0 > 208678456368547758 then (some (0, false)) else (if a0 < 24211015631452242 then (some (0, false)) else (some (wrap64 ((wrap64 ((wrap64 (a0)) - 116444736000000000)) * 100), true)))
set_option maxHeartbeats 8000000 in
set_option maxRecDepth 100000 in
theorem times_FromNt.calls (a0 : Int) (r1 : Int) (r2 : Bool) (w : World) (h : times_FromNt.f a0 = some (r1, r2)) :
    Calls Try.prog 16 #[.int .u64 a0] w fun e w' => e = .returned (.tuple #[.int .i64 r1, .bool r2]) ∧ Drawn0 w w' := by
  have H : (if a0 > 208678456368547758 then (some (0, false)) else (if a0 < 24211015631452242 then (some (0, false)) else (some (wrap64 ((wrap64 ((wrap64 (a0)) - 116444736000000000)) * 100), true)))) = some (r1, r2) := h
  clear h
  by_cases c2 : a0 > 208678456368547758
  · rw [if_pos c2] at H
    have c2b0 : decide (208678456368547758 < a0) = true := decide_eq_true c2
    clear c2
    simp only [Option.some.injEq, Prod.mk.injEq] at H
    obtain ⟨rfl, rfl⟩ := H
    go_enter Try.func16, Try.ntmps16
    go_wp2
    go_ret2
    exact ⟨by first | rfl | (simp; done) | (simp [*]; done), by repeat (first | exact Drawn0.refl _ | apply Drawn0.step)⟩
  · rw [if_neg c2] at H
    have c2b0 : decide (208678456368547758 < a0) = false := decide_eq_false c2
    clear c2
    by_cases c3 : a0 < 24211015631452242
    · rw [if_pos c3] at H
      have c3b0 : decide (a0 < 24211015631452242) = true := decide_eq_true c3
      clear c3
      simp only [Option.some.injEq, Prod.mk.injEq] at H
      obtain ⟨rfl, rfl⟩ := H
      go_enter Try.func16, Try.ntmps16
      go_wp2
      go_ret2
      exact ⟨by first | rfl | (simp; done) | (simp [*]; done), by repeat (first | exact Drawn0.refl _ | apply Drawn0.step)⟩
    · rw [if_neg c3] at H
      have c3b0 : decide (a0 < 24211015631452242) = false := decide_eq_false c3
      clear c3
      simp only [Option.some.injEq, Prod.mk.injEq] at H
      obtain ⟨rfl, rfl⟩ := H
      go_enter Try.func16, Try.ntmps16
      go_wp2
      go_ret2
      exact ⟨by first | rfl | (simp; done) | (simp [*]; done), by repeat (first | exact Drawn0.refl _ | apply Drawn0.step)⟩

-- NOT PRINTED: function 24 (times_ToDos)

-- NOT PRINTED: function 13 (wainloadlaw15_alive)

-- NOT PRINTED: function 3 (wainloadlaw15_TimesDates)

/-! ### wainloadref15_down: function 36 -/
def wainloadref15_down.f (a0 : Int) (a1 : Int) : Option (Int) := if a1 = 0 then (none) else (if a0 < 0 then (if (wrap64 ((wrap64 (Int.tdiv a0 a1)) * a1)) = a0 then (some (wrap64 (Int.tdiv a0 a1))) else (some (wrap64 ((wrap64 (Int.tdiv a0 a1)) - 1)))) else (some (wrap64 (Int.tdiv a0 a1))))
set_option maxHeartbeats 8000000 in
set_option maxRecDepth 100000 in
theorem wainloadref15_down.calls (a0 : Int) (a1 : Int) (r : Int) (w : World) (h : wainloadref15_down.f a0 a1 = some r) :
    Calls Try.prog 36 #[.int .i64 a0, .int .i64 a1] w fun e w' => e = .returned (.int .i64 r) ∧ Drawn0 w w' := by
  have H : (if a1 = 0 then (none) else (if a0 < 0 then (if (wrap64 ((wrap64 (Int.tdiv a0 a1)) * a1)) = a0 then (some (wrap64 (Int.tdiv a0 a1))) else (some (wrap64 ((wrap64 (Int.tdiv a0 a1)) - 1)))) else (some (wrap64 (Int.tdiv a0 a1))))) = some r := h
  clear h
  by_cases c3 : a1 = 0
  · rw [if_pos c3] at H
    exact absurd H (by simp)
  · rw [if_neg c3] at H
    have c3b0 : (a1 == 0) = false := beq_eq_false_iff_ne.mpr c3
    have c3b1 : (a1 != 0) = true := bne_iff_ne.mpr c3
    by_cases c4 : a0 < 0
    · rw [if_pos c4] at H
      have c4b0 : decide (a0 < 0) = true := decide_eq_true c4
      clear c4
      by_cases c5 : (wrap64 ((wrap64 (Int.tdiv a0 a1)) * a1)) = a0
      · rw [if_pos c5] at H
        have c5b0 : ((wrap64 ((wrap64 (Int.tdiv a0 a1)) * a1)) == a0) = true := beq_iff_eq.mpr c5
        have c5b1 : ((wrap64 ((wrap64 (Int.tdiv a0 a1)) * a1)) != a0) = false := bne_eq_false_iff_eq.mpr c5
        clear c5
        obtain rfl := Option.some.inj H
        go_enter Try.func36, Try.ntmps36
        go_wp2
        go_ret
        exact ⟨by first | rfl | (simp; done) | (simp [*]; done), by repeat (first | exact Drawn0.refl _ | apply Drawn0.step)⟩
      · rw [if_neg c5] at H
        have c5b0 : ((wrap64 ((wrap64 (Int.tdiv a0 a1)) * a1)) == a0) = false := beq_eq_false_iff_ne.mpr c5
        have c5b1 : ((wrap64 ((wrap64 (Int.tdiv a0 a1)) * a1)) != a0) = true := bne_iff_ne.mpr c5
        obtain rfl := Option.some.inj H
        go_enter Try.func36, Try.ntmps36
        go_wp2
        go_ret
        exact ⟨by first | rfl | (simp; done) | (simp [*]; done), by repeat (first | exact Drawn0.refl _ | apply Drawn0.step)⟩
    · rw [if_neg c4] at H
      have c4b0 : decide (a0 < 0) = false := decide_eq_false c4
      clear c4
      obtain rfl := Option.some.inj H
      go_enter Try.func36, Try.ntmps36
      go_wp2
      go_ret
      exact ⟨by first | rfl | (simp; done) | (simp [*]; done), by repeat (first | exact Drawn0.refl _ | apply Drawn0.step)⟩

/-! ### wainloadref15_ToDate: function 15 -/
mutual
def wainloadref15_ToDate.l0 : Nat → Int → Int → Int → Option (Int × Int × Int × Int × Int × Int)
  | 0, _, _, _ => none
  | k + 1, x4, x5, x6 => if x4 < 0 then ((wainloadref15_year.f (wrap64 (x6 - 1))).bind fun t132 => (wainloadref15_ToDate.l0 k (wrap64 (x4 + t132)) x5 (wrap64 (x6 - 1)))) else (wainloadref15_ToDate.l1 k x4 x5 x6)
def wainloadref15_ToDate.l1 : Nat → Int → Int → Int → Option (Int × Int × Int × Int × Int × Int)
  | 0, _, _, _ => none
  | k + 1, x4, x5, x6 => (wainloadref15_year.f x6).bind fun t133 => (if x4 ≥ t133 then ((wainloadref15_year.f x6).bind fun t134 => (wainloadref15_ToDate.l1 k (wrap64 (x4 - t134)) x5 (wrap64 (x6 + 1)))) else (wainloadref15_ToDate.l2 k x4 x5 x6 1))
def wainloadref15_ToDate.l2 : Nat → Int → Int → Int → Int → Option (Int × Int × Int × Int × Int × Int)
  | 0, _, _, _, _ => none
  | k + 1, x4, x5, x6, x7 => (wainloadref15_month.f x6 x7).bind fun t135 => (if x4 ≥ t135 then ((wainloadref15_month.f x6 x7).bind fun t136 => (wainloadref15_ToDate.l2 k (wrap64 (x4 - t136)) x5 x6 (wrap64 (x7 + 1)))) else (some (x6, x7, wrap64 (x4 + 1), wrap64 (Int.tdiv x5 3600), wrap64 (Int.tdiv (Int.tmod x5 3600) 60), Int.tmod x5 60)))
end
def wainloadref15_ToDate.f (k : Nat) (a0 : Int) : Option (Int × Int × Int × Int × Int × Int) := (wainloadref15_down.f a0 1000000000).bind fun t130 => ((wainloadref15_down.f t130 86400).bind fun t131 => (wainloadref15_ToDate.l0 k t131 (wrap64 (t130 - (wrap64 (t131 * 86400)))) 1970))
theorem wainloadref15_ToDate.mono_l : ∀ k, (∀ y0 y1 y2, LeO (wainloadref15_ToDate.l0 k y0 y1 y2) (wainloadref15_ToDate.l0 (k + 1) y0 y1 y2)) ∧ (∀ y0 y1 y2, LeO (wainloadref15_ToDate.l1 k y0 y1 y2) (wainloadref15_ToDate.l1 (k + 1) y0 y1 y2)) ∧ (∀ y0 y1 y2 y3, LeO (wainloadref15_ToDate.l2 k y0 y1 y2 y3) (wainloadref15_ToDate.l2 (k + 1) y0 y1 y2 y3))
  | 0 => ⟨fun _ _ _ r h => by simp [wainloadref15_ToDate.l0] at h, fun _ _ _ r h => by simp [wainloadref15_ToDate.l1] at h, fun _ _ _ _ r h => by simp [wainloadref15_ToDate.l2] at h⟩
  | k + 1 => by
    obtain ⟨ih0, ih1, ih2⟩ := wainloadref15_ToDate.mono_l k
    refine ⟨?_, ?_, ?_⟩
    · intro y0 y1 y2
      unfold wainloadref15_ToDate.l0
      repeat' first
      | (with_reducible exact ih0 _ _ _)
      | (with_reducible exact ih1 _ _ _)
      | (with_reducible exact ih2 _ _ _ _)
      | (with_reducible exact LeO.refl _)
      | (with_reducible exact LeO.none _)
      | (with_reducible refine LeO.ite ?_ ?_)
      | (with_reducible refine LeO.bind ?_ (fun _ => ?_))
      | exact ih0 _ _ _
      | exact ih1 _ _ _
      | exact ih2 _ _ _ _
      | exact LeO.none _
      | refine LeO.ite ?_ ?_
      | refine LeO.bind ?_ (fun _ => ?_)
    · intro y0 y1 y2
      unfold wainloadref15_ToDate.l1
      repeat' first
      | (with_reducible exact ih0 _ _ _)
      | (with_reducible exact ih1 _ _ _)
      | (with_reducible exact ih2 _ _ _ _)
      | (with_reducible exact LeO.refl _)
      | (with_reducible exact LeO.none _)
      | (with_reducible refine LeO.ite ?_ ?_)
      | (with_reducible refine LeO.bind ?_ (fun _ => ?_))
      | exact ih0 _ _ _
      | exact ih1 _ _ _
      | exact ih2 _ _ _ _
      | exact LeO.none _
      | refine LeO.ite ?_ ?_
      | refine LeO.bind ?_ (fun _ => ?_)
    · intro y0 y1 y2 y3
      unfold wainloadref15_ToDate.l2
      repeat' first
      | (with_reducible exact ih0 _ _ _)
      | (with_reducible exact ih1 _ _ _)
      | (with_reducible exact ih2 _ _ _ _)
      | (with_reducible exact LeO.refl _)
      | (with_reducible exact LeO.none _)
      | (with_reducible refine LeO.ite ?_ ?_)
      | (with_reducible refine LeO.bind ?_ (fun _ => ?_))
      | exact ih0 _ _ _
      | exact ih1 _ _ _
      | exact ih2 _ _ _ _
      | exact LeO.none _
      | refine LeO.ite ?_ ?_
      | refine LeO.bind ?_ (fun _ => ?_)
theorem wainloadref15_ToDate.mono : ∀ a0 k, LeO (wainloadref15_ToDate.f k a0) (wainloadref15_ToDate.f (k + 1) a0) := by
  intro a0 k
  obtain ⟨ih0, ih1, ih2⟩ := wainloadref15_ToDate.mono_l k
  unfold wainloadref15_ToDate.f
  repeat' first
      | (with_reducible exact ih0 _ _ _)
      | (with_reducible exact ih1 _ _ _)
      | (with_reducible exact ih2 _ _ _ _)
      | (with_reducible exact LeO.refl _)
      | (with_reducible exact LeO.none _)
      | (with_reducible refine LeO.ite ?_ ?_)
      | (with_reducible refine LeO.bind ?_ (fun _ => ?_))
      | exact ih0 _ _ _
      | exact ih1 _ _ _
      | exact ih2 _ _ _ _
      | exact LeO.none _
      | refine LeO.ite ?_ ?_
      | refine LeO.bind ?_ (fun _ => ?_)
set_option maxHeartbeats 8000000 in
set_option maxRecDepth 100000 in
theorem wainloadref15_ToDate.calls (k : Nat) (a0 : Int) (r1 : Int) (r2 : Int) (r3 : Int) (r4 : Int) (r5 : Int) (r6 : Int) (w : World) (h : wainloadref15_ToDate.f k a0 = some (r1, r2, r3, r4, r5, r6)) :
    Calls Try.prog 15 #[.int .i64 a0] w fun e w' => e = .returned (.agg #[.int .i64 r1, .int .i64 r2, .int .i64 r3, .int .i64 r4, .int .i64 r5, .int .i64 r6]) ∧ Below w.heap.size w w' := by
  have hu27 := Try.underlying27
  have HB := Aside0.mk (Below.refl w.heap.size w)
  have H : ((wainloadref15_down.f a0 1000000000).bind fun t130 => ((wainloadref15_down.f t130 86400).bind fun t131 => (wainloadref15_ToDate.l0 k t131 (wrap64 (t130 - (wrap64 (t131 * 86400)))) 1970))) = some (r1, r2, r3, r4, r5, r6) := h
  clear h
  replace H := Option.bind_eq_some_iff.mp H
  obtain ⟨t130, A20, H⟩ := H
  replace H : ((wainloadref15_down.f t130 86400).bind fun t131 => (wainloadref15_ToDate.l0 k t131 (wrap64 (t130 - (wrap64 (t131 * 86400)))) 1970)) = some (r1, r2, r3, r4, r5, r6) := H
  have A2 := Aside0.mk A20
  clear A20
  replace H := Option.bind_eq_some_iff.mp H
  obtain ⟨t131, A30, H⟩ := H
  replace H : (wainloadref15_ToDate.l0 k t131 (wrap64 (t130 - (wrap64 (t131 * 86400)))) 1970) = some (r1, r2, r3, r4, r5, r6) := H
  have A3 := Aside0.mk A30
  clear A30
  have H' := Aside0.mk H
  clear H
  go_enter Try.func15, Try.ntmps15
  go_wp2_with (first | ((with_reducible refine gate_dst (N := 2) rfl ?_); refine box_event ?hg (N := 2) ?hd (cs := #[.int .i64 0, .int .i64 0, .int .i64 0, .int .i64 0, .int .i64 0, .int .i64 0]) (t := 27) ?hr ?_; (case hd => rfl); (case hg => rfl); (case hr => first | (go_simp; done) | (go_simp; rfl)); intro gb129 hg w4 hbox hb; have n0_ := Aside0.mk (below_step (by repeat (first | (with_reducible first | exact HB.out | apply below_alloc | apply pw_below_drewN | apply below_drew1) | exact HB.out)) hb); have n1_ := Aside0.mk (hbox); have n2_ := Aside0.mk ((by rw [hg]; exact (below_size (by repeat (first | (with_reducible first | exact HB.out | apply below_alloc | apply pw_below_drewN | apply below_drew1) | exact HB.out))) : w.heap.size ≤ gb129)); have n3_ := Aside0.mk ((by rw [hg]; exact (below_size (by repeat (first | (with_reducible first | exact HB.out | apply below_alloc | apply pw_below_drewN | apply below_drew1) | exact HB.out))) : w.heap.size ≤ gb129)); clear HB; have HB := n0_; have BK129 := n1_; have GW129 := n2_; have GE129 := n3_; clear n0_ n1_ n2_ n3_; clear hb hbox hg) | ((with_reducible refine gate_callee (f := 36) rfl ?_); refine goesL_ (some 9) rfl rfl Try.func36 (by kernel_rfl) rfl #[.int .i64 a0, .int .i64 1000000000] rfl (by (try simp only [List.map_toArray, List.map_cons, List.map_nil]); first | done | rfl | (simp only [List.length_drop, List.length_take]; rfl)) ?_; (with_reducible refine (wainloadref15_down.calls a0 1000000000 t130 _ A2.out).mono ?_); rintro e w' ⟨rfl, ⟨nd, rfl⟩⟩; refine ⟨_, rfl, ?_⟩) | ((with_reducible refine gate_callee (f := 36) rfl ?_); refine goesL_ (some 11) rfl rfl Try.func36 (by kernel_rfl) rfl #[.int .i64 t130, .int .i64 86400] rfl (by (try simp only [List.map_toArray, List.map_cons, List.map_nil]); first | done | rfl | (simp only [List.length_drop, List.length_take]; rfl)) ?_; (with_reducible refine (wainloadref15_down.calls t130 86400 t131 _ A3.out).mono ?_); rintro e w' ⟨rfl, ⟨nd, rfl⟩⟩; refine ⟨_, rfl, ?_⟩))
  go_loopg [4, 6] k (fun kq v4 v6 w' => ∃ (x4_1 : Int) (x6_1 : Int), v4 = .int .i64 x4_1 ∧ v6 = .int .i64 x6_1 ∧ Aside0 (wainloadref15_ToDate.l0 kq x4_1 (wrap64 (t130 - (wrap64 (t131 * 86400)))) x6_1 = some (r1, r2, r3, r4, r5, r6)) ∧ Aside0 (kq ≤ k) ∧ Aside0 (w'.heap[gb129]? = some (.cells #[.int .i64 0, .int .i64 0, .int .i64 0, .int .i64 0, .int .i64 0, .int .i64 0] 27 (0, 0))) ∧ Aside0 (Below w.heap.size w w'))
  case atStart => exact ⟨(t131), (1970), (by first | rfl | (simp; done) | (simp [*]; done)), (by first | rfl | (simp; done) | (simp [*]; done)), H', ⟨Nat.le_refl _⟩, ⟨by (with_reducible repeat (first | refine blk_drewN ?_ _ | refine blk_drew ?_ | refine blk_alloc ?_ _)); exact BK129.out⟩, ⟨by repeat (first | (with_reducible first | exact HB.out | apply below_alloc | apply pw_below_drewN | apply below_drew1 | refine below_set ?_ GE129.out) | exact HB.out)⟩⟩
  case round =>
    clear H'
    try clear c1
    try clear p2
    try clear c3
    obtain ⟨x4_1, x6_1, rfl, rfl, HA, HK1, BK129, HB⟩ := hrel
    cases gk with
    | zero => exact absurd HA.out (by simp [wainloadref15_ToDate.l0])
    | succ k1 =>
      have H := HA.out
      clear HA
      simp only [wainloadref15_ToDate.l0] at H
      by_cases c5 : x4_1 < 0
      · rw [if_pos c5] at H
        have c5b0 : decide (x4_1 < 0) = true := decide_eq_true c5
        clear c5
        replace H := Option.bind_eq_some_iff.mp H
        obtain ⟨t132, A60, H⟩ := H
        replace H : (wainloadref15_ToDate.l0 k1 (wrap64 (x4_1 + t132)) (wrap64 (t130 - (wrap64 (t131 * 86400)))) (wrap64 (x6_1 - 1))) = some (r1, r2, r3, r4, r5, r6) := H
        have A6 := Aside0.mk A60
        clear A60
        have H' := Aside0.mk H
        clear H
        go_wp2_with (first | ((with_reducible refine gate_callee (f := 37) rfl ?_); refine goesL_ (some 22) rfl rfl Try.func37 (by kernel_rfl) rfl #[.int .i64 (wrap64 (x6_1 - 1))] rfl (by (try simp only [List.map_toArray, List.map_cons, List.map_nil]); first | done | rfl | (simp only [List.length_drop, List.length_take]; rfl)) ?_; (with_reducible refine (wainloadref15_year.calls (wrap64 (x6_1 - 1)) t132 _ A6.out).mono ?_); rintro e w' ⟨rfl, ⟨nd, rfl⟩⟩; refine ⟨_, rfl, ?_⟩))
        go_roundg k1
        case measure => have := HK1.out; omega
        case rel => exact ⟨(wrap64 (x4_1 + t132)), (wrap64 (x6_1 - 1)), (by first | rfl | (simp; done) | (simp [*]; done)), (by first | rfl | (simp; done) | (simp [*]; done)), H', ⟨by have := HK1.out; omega⟩, ⟨by (with_reducible repeat (first | refine blk_drewN ?_ _ | refine blk_drew ?_ | refine blk_alloc ?_ _)); exact BK129.out⟩, ⟨by repeat (first | (with_reducible first | exact HB.out | apply below_alloc | apply pw_below_drewN | apply below_drew1 | refine below_set ?_ GE129.out) | exact HB.out)⟩⟩
      · rw [if_neg c5] at H
        have c5b0 : decide (x4_1 < 0) = false := decide_eq_false c5
        clear c5
        have H' := Aside0.mk H
        clear H
        go_wp2
        go_loopg [4, 6] k1 (fun kq v4 v6 w' => ∃ (x4_2 : Int) (x6_2 : Int), v4 = .int .i64 x4_2 ∧ v6 = .int .i64 x6_2 ∧ Aside0 (wainloadref15_ToDate.l1 kq x4_2 (wrap64 (t130 - (wrap64 (t131 * 86400)))) x6_2 = some (r1, r2, r3, r4, r5, r6)) ∧ Aside0 (kq ≤ k1) ∧ Aside0 (w'.heap[gb129]? = some (.cells #[.int .i64 0, .int .i64 0, .int .i64 0, .int .i64 0, .int .i64 0, .int .i64 0] 27 (0, 0))) ∧ Aside0 (Below w.heap.size w w'))
        case atStart => exact ⟨(x4_1), (x6_1), (by first | rfl | (simp; done) | (simp [*]; done)), (by first | rfl | (simp; done) | (simp [*]; done)), H', ⟨Nat.le_refl _⟩, ⟨by (with_reducible repeat (first | refine blk_drewN ?_ _ | refine blk_drew ?_ | refine blk_alloc ?_ _)); exact BK129.out⟩, ⟨by repeat (first | (with_reducible first | exact HB.out | apply below_alloc | apply pw_below_drewN | apply below_drew1 | refine below_set ?_ GE129.out) | exact HB.out)⟩⟩
        case round =>
          clear H'
          try clear c1
          try clear p2
          try clear c3
          try clear c5
          try clear c5b0
          try clear p6
          try clear p2
          obtain ⟨x4_2, x6_2, rfl, rfl, HA, HK2, BK129, HB⟩ := hrel
          cases gk with
          | zero => exact absurd HA.out (by simp [wainloadref15_ToDate.l1])
          | succ k2 =>
            have H := HA.out
            clear HA
            simp only [wainloadref15_ToDate.l1] at H
            replace H := Option.bind_eq_some_iff.mp H
            obtain ⟨t133, A70, H⟩ := H
            replace H : (if x4_2 ≥ t133 then ((wainloadref15_year.f x6_2).bind fun t134 => (wainloadref15_ToDate.l1 k2 (wrap64 (x4_2 - t134)) (wrap64 (t130 - (wrap64 (t131 * 86400)))) (wrap64 (x6_2 + 1)))) else (wainloadref15_ToDate.l2 k2 x4_2 (wrap64 (t130 - (wrap64 (t131 * 86400)))) x6_2 1)) = some (r1, r2, r3, r4, r5, r6) := H
            have A7 := Aside0.mk A70
            clear A70
            by_cases c8 : x4_2 ≥ t133
            · rw [if_pos c8] at H
              have c8b0 : decide (t133 ≤ x4_2) = true := decide_eq_true c8
              clear c8
              replace H := Option.bind_eq_some_iff.mp H
              obtain ⟨t134, A90, H⟩ := H
              replace H : (wainloadref15_ToDate.l1 k2 (wrap64 (x4_2 - t134)) (wrap64 (t130 - (wrap64 (t131 * 86400)))) (wrap64 (x6_2 + 1))) = some (r1, r2, r3, r4, r5, r6) := H
              have A9 := Aside0.mk A90
              clear A90
              have H' := Aside0.mk H
              clear H
              go_wp2_with (first | ((with_reducible refine gate_callee (f := 37) rfl ?_); refine goesL_ (some 26) rfl rfl Try.func37 (by kernel_rfl) rfl #[.int .i64 x6_2] rfl (by (try simp only [List.map_toArray, List.map_cons, List.map_nil]); first | done | rfl | (simp only [List.length_drop, List.length_take]; rfl)) ?_; (with_reducible refine (wainloadref15_year.calls x6_2 t133 _ A7.out).mono ?_); rintro e w' ⟨rfl, ⟨nd, rfl⟩⟩; refine ⟨_, rfl, ?_⟩) | ((with_reducible refine gate_callee (f := 37) rfl ?_); refine goesL_ (some 30) rfl rfl Try.func37 (by kernel_rfl) rfl #[.int .i64 x6_2] rfl (by (try simp only [List.map_toArray, List.map_cons, List.map_nil]); first | done | rfl | (simp only [List.length_drop, List.length_take]; rfl)) ?_; (with_reducible refine (wainloadref15_year.calls x6_2 t134 _ A9.out).mono ?_); rintro e w' ⟨rfl, ⟨nd, rfl⟩⟩; refine ⟨_, rfl, ?_⟩))
              go_roundg k2
              case measure => have := HK1.out; have := HK2.out; omega
              case rel => exact ⟨(wrap64 (x4_2 - t134)), (wrap64 (x6_2 + 1)), (by first | rfl | (simp; done) | (simp [*]; done)), (by first | rfl | (simp; done) | (simp [*]; done)), H', ⟨by have := HK1.out; have := HK2.out; omega⟩, ⟨by (with_reducible repeat (first | refine blk_drewN ?_ _ | refine blk_drew ?_ | refine blk_alloc ?_ _)); exact BK129.out⟩, ⟨by repeat (first | (with_reducible first | exact HB.out | apply below_alloc | apply pw_below_drewN | apply below_drew1 | refine below_set ?_ GE129.out) | exact HB.out)⟩⟩
            · rw [if_neg c8] at H
              have c8b0 : decide (t133 ≤ x4_2) = false := decide_eq_false c8
              clear c8
              have H' := Aside0.mk H
              clear H
              go_wp2_with (first | ((with_reducible refine gate_callee (f := 37) rfl ?_); refine goesL_ (some 26) rfl rfl Try.func37 (by kernel_rfl) rfl #[.int .i64 x6_2] rfl (by (try simp only [List.map_toArray, List.map_cons, List.map_nil]); first | done | rfl | (simp only [List.length_drop, List.length_take]; rfl)) ?_; (with_reducible refine (wainloadref15_year.calls x6_2 t133 _ A7.out).mono ?_); rintro e w' ⟨rfl, ⟨nd, rfl⟩⟩; refine ⟨_, rfl, ?_⟩))
              go_loopg [4, 7] k2 (fun kq v4 v7 w' => ∃ (x4_3 : Int) (x7_3 : Int), v4 = .int .i64 x4_3 ∧ v7 = .int .i64 x7_3 ∧ Aside0 (wainloadref15_ToDate.l2 kq x4_3 (wrap64 (t130 - (wrap64 (t131 * 86400)))) x6_2 x7_3 = some (r1, r2, r3, r4, r5, r6)) ∧ Aside0 (kq ≤ k2) ∧ Aside0 (w'.heap[gb129]? = some (.cells #[.int .i64 0, .int .i64 0, .int .i64 0, .int .i64 0, .int .i64 0, .int .i64 0] 27 (0, 0))) ∧ Aside0 (Below w.heap.size w w'))
              case atStart => exact ⟨(x4_2), (1), (by first | rfl | (simp; done) | (simp [*]; done)), (by first | rfl | (simp; done) | (simp [*]; done)), H', ⟨Nat.le_refl _⟩, ⟨by (with_reducible repeat (first | refine blk_drewN ?_ _ | refine blk_drew ?_ | refine blk_alloc ?_ _)); exact BK129.out⟩, ⟨by repeat (first | (with_reducible first | exact HB.out | apply below_alloc | apply pw_below_drewN | apply below_drew1 | refine below_set ?_ GE129.out) | exact HB.out)⟩⟩
              case round =>
                clear H'
                try clear c1
                try clear p2
                try clear c3
                try clear c5
                try clear c5b0
                try clear p6
                try clear c8
                try clear c8b0
                try clear p2
                try clear p6
                obtain ⟨x4_3, x7_3, rfl, rfl, HA, HK3, BK129, HB⟩ := hrel
                cases gk with
                | zero => exact absurd HA.out (by simp [wainloadref15_ToDate.l2])
                | succ k3 =>
                  have H := HA.out
                  clear HA
                  simp only [wainloadref15_ToDate.l2] at H
                  replace H := Option.bind_eq_some_iff.mp H
                  obtain ⟨t135, A100, H⟩ := H
                  replace H : (if x4_3 ≥ t135 then ((wainloadref15_month.f x6_2 x7_3).bind fun t136 => (wainloadref15_ToDate.l2 k3 (wrap64 (x4_3 - t136)) (wrap64 (t130 - (wrap64 (t131 * 86400)))) x6_2 (wrap64 (x7_3 + 1)))) else (some (x6_2, x7_3, wrap64 (x4_3 + 1), wrap64 (Int.tdiv (wrap64 (t130 - (wrap64 (t131 * 86400)))) 3600), wrap64 (Int.tdiv (Int.tmod (wrap64 (t130 - (wrap64 (t131 * 86400)))) 3600) 60), Int.tmod (wrap64 (t130 - (wrap64 (t131 * 86400)))) 60))) = some (r1, r2, r3, r4, r5, r6) := H
                  have A10 := Aside0.mk A100
                  clear A100
                  by_cases c11 : x4_3 ≥ t135
                  · rw [if_pos c11] at H
                    have c11b0 : decide (t135 ≤ x4_3) = true := decide_eq_true c11
                    clear c11
                    replace H := Option.bind_eq_some_iff.mp H
                    obtain ⟨t136, A120, H⟩ := H
                    replace H : (wainloadref15_ToDate.l2 k3 (wrap64 (x4_3 - t136)) (wrap64 (t130 - (wrap64 (t131 * 86400)))) x6_2 (wrap64 (x7_3 + 1))) = some (r1, r2, r3, r4, r5, r6) := H
                    have A12 := Aside0.mk A120
                    clear A120
                    have H' := Aside0.mk H
                    clear H
                    go_wp2_with (first | ((with_reducible refine gate_callee (f := 33) rfl ?_); refine goesL_ (some 37) rfl rfl Try.func33 (by kernel_rfl) rfl #[.int .i64 x6_2, .int .i64 x7_3] rfl (by (try simp only [List.map_toArray, List.map_cons, List.map_nil]); first | done | rfl | (simp only [List.length_drop, List.length_take]; rfl)) ?_; (with_reducible refine (wainloadref15_month.calls x6_2 x7_3 t135 _ A10.out).mono ?_); rintro e w13 ⟨rfl, hb⟩; refine ⟨_, rfl, ?_⟩; have n0_ := Aside0.mk (blk_below (g := gb129) (o := .cells #[.int .i64 0, .int .i64 0, .int .i64 0, .int .i64 0, .int .i64 0, .int .i64 0] 27 (0, 0)) (by (with_reducible repeat (first | refine blk_drewN ?_ _ | refine blk_drew ?_ | refine blk_alloc ?_ _)); exact BK129.out) hb); have n1_ := Aside0.mk (below_step (by repeat (first | (with_reducible first | exact HB.out | apply below_alloc | apply pw_below_drewN | apply below_drew1 | refine below_set ?_ GE129.out) | exact HB.out)) hb); clear BK129; clear HB; have BK129 := n0_; have HB := n1_; clear n0_ n1_; (try clear hb); (try clear hb2); (try clear hk); (try clear hi)) | ((with_reducible refine gate_callee (f := 33) rfl ?_); refine goesL_ (some 42) rfl rfl Try.func33 (by kernel_rfl) rfl #[.int .i64 x6_2, .int .i64 x7_3] rfl (by (try simp only [List.map_toArray, List.map_cons, List.map_nil]); first | done | rfl | (simp only [List.length_drop, List.length_take]; rfl)) ?_; (with_reducible refine (wainloadref15_month.calls x6_2 x7_3 t136 _ A12.out).mono ?_); rintro e w14 ⟨rfl, hb⟩; refine ⟨_, rfl, ?_⟩; have n0_ := Aside0.mk (blk_below (g := gb129) (o := .cells #[.int .i64 0, .int .i64 0, .int .i64 0, .int .i64 0, .int .i64 0, .int .i64 0] 27 (0, 0)) (by (with_reducible repeat (first | refine blk_drewN ?_ _ | refine blk_drew ?_ | refine blk_alloc ?_ _)); exact BK129.out) hb); have n1_ := Aside0.mk (below_step (by repeat (first | (with_reducible first | exact HB.out | apply below_alloc | apply pw_below_drewN | apply below_drew1 | refine below_set ?_ GE129.out) | exact HB.out)) hb); clear BK129; clear HB; have BK129 := n0_; have HB := n1_; clear n0_ n1_; (try clear hb); (try clear hb2); (try clear hk); (try clear hi)))
                    go_roundg k3
                    case measure => have := HK1.out; have := HK2.out; have := HK3.out; omega
                    case rel => exact ⟨(wrap64 (x4_3 - t136)), (wrap64 (x7_3 + 1)), (by first | rfl | (simp; done) | (simp [*]; done)), (by first | rfl | (simp; done) | (simp [*]; done)), H', ⟨by have := HK1.out; have := HK2.out; have := HK3.out; omega⟩, ⟨by (with_reducible repeat (first | refine blk_drewN ?_ _ | refine blk_drew ?_ | refine blk_alloc ?_ _)); exact BK129.out⟩, ⟨by repeat (first | (with_reducible first | exact HB.out | apply below_alloc | apply pw_below_drewN | apply below_drew1 | refine below_set ?_ GE129.out) | exact HB.out)⟩⟩
                  · rw [if_neg c11] at H
                    have c11b0 : decide (t135 ≤ x4_3) = false := decide_eq_false c11
                    clear c11
                    simp only [Option.some.injEq, Prod.mk.injEq] at H
                    obtain ⟨rfl, rfl, rfl, rfl, rfl, rfl⟩ := H
                    go_wp2_with (first | ((with_reducible refine gate_callee (f := 33) rfl ?_); refine goesL_ (some 37) rfl rfl Try.func33 (by kernel_rfl) rfl #[.int .i64 x6_2, .int .i64 x7_3] rfl (by (try simp only [List.map_toArray, List.map_cons, List.map_nil]); first | done | rfl | (simp only [List.length_drop, List.length_take]; rfl)) ?_; (with_reducible refine (wainloadref15_month.calls x6_2 x7_3 t135 _ A10.out).mono ?_); rintro e w15 ⟨rfl, hb⟩; refine ⟨_, rfl, ?_⟩; have n0_ := Aside0.mk (blk_below (g := gb129) (o := .cells #[.int .i64 0, .int .i64 0, .int .i64 0, .int .i64 0, .int .i64 0, .int .i64 0] 27 (0, 0)) (by (with_reducible repeat (first | refine blk_drewN ?_ _ | refine blk_drew ?_ | refine blk_alloc ?_ _)); exact BK129.out) hb); have n1_ := Aside0.mk (below_step (by repeat (first | (with_reducible first | exact HB.out | apply below_alloc | apply pw_below_drewN | apply below_drew1 | refine below_set ?_ GE129.out) | exact HB.out)) hb); clear BK129; clear HB; have BK129 := n0_; have HB := n1_; clear n0_ n1_; (try clear hb); (try clear hb2); (try clear hk); (try clear hi); have hcz16_0 : w15.cell? ⟨gb129, 0, none⟩ = some (.int .i64 0) := (blk_cell BK129.out 0).trans rfl; have hcz16_1 : w15.cell? ⟨gb129, 1, none⟩ = some (.int .i64 0) := (blk_cell BK129.out 1).trans rfl; have hcz16_2 : w15.cell? ⟨gb129, 2, none⟩ = some (.int .i64 0) := (blk_cell BK129.out 2).trans rfl; have hcz16_3 : w15.cell? ⟨gb129, 3, none⟩ = some (.int .i64 0) := (blk_cell BK129.out 3).trans rfl; have hcz16_4 : w15.cell? ⟨gb129, 4, none⟩ = some (.int .i64 0) := (blk_cell BK129.out 4).trans rfl; have hcz16_5 : w15.cell? ⟨gb129, 5, none⟩ = some (.int .i64 0) := (blk_cell BK129.out 5).trans rfl; have hfz16_0 := blk_frozen BK129.out 0; have hfz16_1 := blk_frozen BK129.out 1; have hfz16_2 := blk_frozen BK129.out 2; have hfz16_3 := blk_frozen BK129.out 3; have hfz16_4 := blk_frozen BK129.out 4; have hfz16_5 := blk_frozen BK129.out 5))
                    refine bodyPost_ret (results_cell_row rfl _ _ gb129 27 #[.int .i64 x6_2, .int .i64 x7_3, .int .i64 (wrap64 (x4_3 + 1)), .int .i64 (wrap64 (Int.tdiv (wrap64 (t130 - (wrap64 (t131 * 86400)))) 3600)), .int .i64 (wrap64 (Int.tdiv (Int.tmod (wrap64 (t130 - (wrap64 (t131 * 86400)))) 3600) 60)), .int .i64 (Int.tmod (wrap64 (t130 - (wrap64 (t131 * 86400)))) 60)] (0, 0) _ rfl (by (with_reducible repeat (first | refine blk_drewN ?_ _ | refine blk_drew ?_ | refine blk_alloc ?_ _)); refine blk_put (cs := #[.int .i64 x6_2, .int .i64 x7_3, .int .i64 (wrap64 (x4_3 + 1)), .int .i64 (wrap64 (Int.tdiv (wrap64 (t130 - (wrap64 (t131 * 86400)))) 3600)), .int .i64 (wrap64 (Int.tdiv (Int.tmod (wrap64 (t130 - (wrap64 (t131 * 86400)))) 3600) 60)), .int .i64 0]) ?_ 5 _ rfl; (with_reducible repeat (first | refine blk_drewN ?_ _ | refine blk_drew ?_ | refine blk_alloc ?_ _)); refine blk_put (cs := #[.int .i64 x6_2, .int .i64 x7_3, .int .i64 (wrap64 (x4_3 + 1)), .int .i64 (wrap64 (Int.tdiv (wrap64 (t130 - (wrap64 (t131 * 86400)))) 3600)), .int .i64 0, .int .i64 0]) ?_ 4 _ rfl; (with_reducible repeat (first | refine blk_drewN ?_ _ | refine blk_drew ?_ | refine blk_alloc ?_ _)); refine blk_put (cs := #[.int .i64 x6_2, .int .i64 x7_3, .int .i64 (wrap64 (x4_3 + 1)), .int .i64 0, .int .i64 0, .int .i64 0]) ?_ 3 _ rfl; (with_reducible repeat (first | refine blk_drewN ?_ _ | refine blk_drew ?_ | refine blk_alloc ?_ _)); refine blk_put (cs := #[.int .i64 x6_2, .int .i64 x7_3, .int .i64 0, .int .i64 0, .int .i64 0, .int .i64 0]) ?_ 2 _ rfl; (with_reducible repeat (first | refine blk_drewN ?_ _ | refine blk_drew ?_ | refine blk_alloc ?_ _)); refine blk_put (cs := #[.int .i64 x6_2, .int .i64 0, .int .i64 0, .int .i64 0, .int .i64 0, .int .i64 0]) ?_ 1 _ rfl; (with_reducible repeat (first | refine blk_drewN ?_ _ | refine blk_drew ?_ | refine blk_alloc ?_ _)); refine blk_put (cs := #[.int .i64 0, .int .i64 0, .int .i64 0, .int .i64 0, .int .i64 0, .int .i64 0]) ?_ 0 _ rfl; (with_reducible repeat (first | refine blk_drewN ?_ _ | refine blk_drew ?_ | refine blk_alloc ?_ _)); exact BK129.out) Try.underlying27 rfl (by kernel_rfl)) rfl ?_
                    exact ⟨by first | rfl | (simp [errW_none, errW_some] <;> rfl) | (simp [*, errW_none, errW_some] <;> rfl), by repeat (first | (with_reducible first | exact HB.out | apply below_alloc | apply pw_below_drewN | apply below_drew1 | refine below_set ?_ GE129.out) | exact HB.out)⟩

-- NOT PRINTED: function 4 (wainloadlaw15_TimesDays)

-- NOT PRINTED: function 5 (wainloadlaw15_TimesDaily)

/-! ### wainloadref15_FromNt: function 17 -/
def wainloadref15_FromNt.f (a0 : Int) : Option (Int × Bool) := if a0 < 24211015631452242 then (some (0, false)) else (if a0 > 208678456368547758 then (some (0, false)) else (some (wrap64 ((wrap64 ((wrap64 (a0)) - 116444736000000000)) * 100), true)))
set_option maxHeartbeats 8000000 in
set_option maxRecDepth 100000 in
theorem wainloadref15_FromNt.calls (a0 : Int) (r1 : Int) (r2 : Bool) (w : World) (h : wainloadref15_FromNt.f a0 = some (r1, r2)) :
    Calls Try.prog 17 #[.int .u64 a0] w fun e w' => e = .returned (.tuple #[.int .i64 r1, .bool r2]) ∧ Drawn0 w w' := by
  have H : (if a0 < 24211015631452242 then (some (0, false)) else (if a0 > 208678456368547758 then (some (0, false)) else (some (wrap64 ((wrap64 ((wrap64 (a0)) - 116444736000000000)) * 100), true)))) = some (r1, r2) := h
  clear h
  by_cases c2 : a0 < 24211015631452242
  · rw [if_pos c2] at H
    have c2b0 : decide (a0 < 24211015631452242) = true := decide_eq_true c2
    clear c2
    simp only [Option.some.injEq, Prod.mk.injEq] at H
    obtain ⟨rfl, rfl⟩ := H
    go_enter Try.func17, Try.ntmps17
    go_wp2
    go_ret2
    exact ⟨by first | rfl | (simp; done) | (simp [*]; done), by repeat (first | exact Drawn0.refl _ | apply Drawn0.step)⟩
  · rw [if_neg c2] at H
    have c2b0 : decide (a0 < 24211015631452242) = false := decide_eq_false c2
    clear c2
    by_cases c3 : a0 > 208678456368547758
    · rw [if_pos c3] at H
      have c3b0 : decide (208678456368547758 < a0) = true := decide_eq_true c3
      clear c3
      simp only [Option.some.injEq, Prod.mk.injEq] at H
      obtain ⟨rfl, rfl⟩ := H
      go_enter Try.func17, Try.ntmps17
      go_wp2
      go_ret2
      exact ⟨by first | rfl | (simp; done) | (simp [*]; done), by repeat (first | exact Drawn0.refl _ | apply Drawn0.step)⟩
    · rw [if_neg c3] at H
      have c3b0 : decide (208678456368547758 < a0) = false := decide_eq_false c3
      clear c3
      simp only [Option.some.injEq, Prod.mk.injEq] at H
      obtain ⟨rfl, rfl⟩ := H
      go_enter Try.func17, Try.ntmps17
      go_wp2
      go_ret2
      exact ⟨by first | rfl | (simp; done) | (simp [*]; done), by repeat (first | exact Drawn0.refl _ | apply Drawn0.step)⟩

/-! ### times_ToNt: function 18 -/
def times_ToNt.f (a0 : Int) : Option (Int) := (times_floored.f a0 100).bind fun t137 => (some (IntKind.u64.wrap (wrap64 (t137 + 116444736000000000))))
set_option maxHeartbeats 8000000 in
set_option maxRecDepth 100000 in
theorem times_ToNt.calls (a0 : Int) (r : Int) (w : World) (h : times_ToNt.f a0 = some r) :
    Calls Try.prog 18 #[.int .i64 a0] w fun e w' => e = .returned (.int .u64 r) ∧ Drawn0 w w' := by
  have H : ((times_floored.f a0 100).bind fun t137 => (some (IntKind.u64.wrap (wrap64 (t137 + 116444736000000000))))) = some r := h
  clear h
  replace H := Option.bind_eq_some_iff.mp H
  obtain ⟨t137, A20, H⟩ := H
  replace H : (some (IntKind.u64.wrap (wrap64 (t137 + 116444736000000000)))) = some r := H
  have A2 := Aside0.mk A20
  clear A20
  obtain rfl := Option.some.inj H
  go_enter Try.func18, Try.ntmps18
  go_wp2_with (first | ((with_reducible refine gate_callee (f := 35) rfl ?_); refine goesL_ (some 4) rfl rfl Try.func35 (by kernel_rfl) rfl #[.int .i64 a0, .int .i64 100] rfl (by (try simp only [List.map_toArray, List.map_cons, List.map_nil]); first | done | rfl | (simp only [List.length_drop, List.length_take]; rfl)) ?_; (with_reducible refine (times_floored.calls a0 100 t137 _ A2.out).mono ?_); rintro e w' ⟨rfl, ⟨nd, rfl⟩⟩; refine ⟨_, rfl, ?_⟩))
  go_ret
  exact ⟨by first | rfl | (simp; done) | (simp [*]; done), by repeat (first | exact Drawn0.refl _ | apply Drawn0.step)⟩

/-! ### wainloadref15_ToNt: function 19 -/
def wainloadref15_ToNt.f (a0 : Int) : Option (Int) := (wainloadref15_down.f a0 100).bind fun t138 => (some (IntKind.u64.wrap (wrap64 (t138 + 116444736000000000))))
set_option maxHeartbeats 8000000 in
set_option maxRecDepth 100000 in
theorem wainloadref15_ToNt.calls (a0 : Int) (r : Int) (w : World) (h : wainloadref15_ToNt.f a0 = some r) :
    Calls Try.prog 19 #[.int .i64 a0] w fun e w' => e = .returned (.int .u64 r) ∧ Drawn0 w w' := by
  have H : ((wainloadref15_down.f a0 100).bind fun t138 => (some (IntKind.u64.wrap (wrap64 (t138 + 116444736000000000))))) = some r := h
  clear h
  replace H := Option.bind_eq_some_iff.mp H
  obtain ⟨t138, A20, H⟩ := H
  replace H : (some (IntKind.u64.wrap (wrap64 (t138 + 116444736000000000)))) = some r := H
  have A2 := Aside0.mk A20
  clear A20
  obtain rfl := Option.some.inj H
  go_enter Try.func19, Try.ntmps19
  go_wp2_with (first | ((with_reducible refine gate_callee (f := 36) rfl ?_); refine goesL_ (some 4) rfl rfl Try.func36 (by kernel_rfl) rfl #[.int .i64 a0, .int .i64 100] rfl (by (try simp only [List.map_toArray, List.map_cons, List.map_nil]); first | done | rfl | (simp only [List.length_drop, List.length_take]; rfl)) ?_; (with_reducible refine (wainloadref15_down.calls a0 100 t138 _ A2.out).mono ?_); rintro e w' ⟨rfl, ⟨nd, rfl⟩⟩; refine ⟨_, rfl, ?_⟩))
  go_ret
  exact ⟨by first | rfl | (simp; done) | (simp [*]; done), by repeat (first | exact Drawn0.refl _ | apply Drawn0.step)⟩

/-! ### wainloadref15_Floor: function 20 -/
def wainloadref15_Floor.f (a0 : Int) (a1 : Int) : Option (Int) := if a1 < 1 then (some a0) else (if a1 = 0 then (none) else (if (Int.tmod a0 a1) < 0 then (if a0 < (wrap64 ((-9223372036854775808) + (wrap64 ((Int.tmod a0 a1) + a1)))) then (some a0) else (some (wrap64 (a0 - (wrap64 ((Int.tmod a0 a1) + a1)))))) else (if a0 < (wrap64 ((-9223372036854775808) + (Int.tmod a0 a1))) then (some a0) else (some (wrap64 (a0 - (Int.tmod a0 a1)))))))
set_option maxHeartbeats 8000000 in
set_option maxRecDepth 100000 in
theorem wainloadref15_Floor.calls (a0 : Int) (a1 : Int) (r : Int) (w : World) (h : wainloadref15_Floor.f a0 a1 = some r) :
    Calls Try.prog 20 #[.int .i64 a0, .int .i64 a1] w fun e w' => e = .returned (.int .i64 r) ∧ Drawn0 w w' := by
  have H : (if a1 < 1 then (some a0) else (if a1 = 0 then (none) else (if (Int.tmod a0 a1) < 0 then (if a0 < (wrap64 ((-9223372036854775808) + (wrap64 ((Int.tmod a0 a1) + a1)))) then (some a0) else (some (wrap64 (a0 - (wrap64 ((Int.tmod a0 a1) + a1)))))) else (if a0 < (wrap64 ((-9223372036854775808) + (Int.tmod a0 a1))) then (some a0) else (some (wrap64 (a0 - (Int.tmod a0 a1)))))))) = some r := h
  clear h
  by_cases c3 : a1 < 1
  · rw [if_pos c3] at H
    have c3b0 : decide (a1 < 1) = true := decide_eq_true c3
    clear c3
    obtain rfl := Option.some.inj H
    go_enter Try.func20, Try.ntmps20
    go_wp2
    go_ret
    exact ⟨by first | rfl | (simp; done) | (simp [*]; done), by repeat (first | exact Drawn0.refl _ | apply Drawn0.step)⟩
  · rw [if_neg c3] at H
    have c3b0 : decide (a1 < 1) = false := decide_eq_false c3
    clear c3
    by_cases c4 : a1 = 0
    · rw [if_pos c4] at H
      exact absurd H (by simp)
    · rw [if_neg c4] at H
      have c4b0 : (a1 == 0) = false := beq_eq_false_iff_ne.mpr c4
      have c4b1 : (a1 != 0) = true := bne_iff_ne.mpr c4
      by_cases c5 : (Int.tmod a0 a1) < 0
      · rw [if_pos c5] at H
        have c5b0 : decide ((Int.tmod a0 a1) < 0) = true := decide_eq_true c5
        clear c5
        by_cases c6 : a0 < (wrap64 ((-9223372036854775808) + (wrap64 ((Int.tmod a0 a1) + a1))))
        · rw [if_pos c6] at H
          have c6b0 : decide (a0 < (wrap64 ((-9223372036854775808) + (wrap64 ((Int.tmod a0 a1) + a1))))) = true := decide_eq_true c6
          clear c6
          obtain rfl := Option.some.inj H
          go_enter Try.func20, Try.ntmps20
          go_wp2
          go_ret
          exact ⟨by first | rfl | (simp; done) | (simp [*]; done), by repeat (first | exact Drawn0.refl _ | apply Drawn0.step)⟩
        · rw [if_neg c6] at H
          have c6b0 : decide (a0 < (wrap64 ((-9223372036854775808) + (wrap64 ((Int.tmod a0 a1) + a1))))) = false := decide_eq_false c6
          clear c6
          obtain rfl := Option.some.inj H
          go_enter Try.func20, Try.ntmps20
          go_wp2
          go_ret
          exact ⟨by first | rfl | (simp; done) | (simp [*]; done), by repeat (first | exact Drawn0.refl _ | apply Drawn0.step)⟩
      · rw [if_neg c5] at H
        have c5b0 : decide ((Int.tmod a0 a1) < 0) = false := decide_eq_false c5
        clear c5
        by_cases c7 : a0 < (wrap64 ((-9223372036854775808) + (Int.tmod a0 a1)))
        · rw [if_pos c7] at H
          have c7b0 : decide (a0 < (wrap64 ((-9223372036854775808) + (Int.tmod a0 a1)))) = true := decide_eq_true c7
          clear c7
          obtain rfl := Option.some.inj H
          go_enter Try.func20, Try.ntmps20
          go_wp2
          go_ret
          exact ⟨by first | rfl | (simp; done) | (simp [*]; done), by repeat (first | exact Drawn0.refl _ | apply Drawn0.step)⟩
        · rw [if_neg c7] at H
          have c7b0 : decide (a0 < (wrap64 ((-9223372036854775808) + (Int.tmod a0 a1)))) = false := decide_eq_false c7
          clear c7
          obtain rfl := Option.some.inj H
          go_enter Try.func20, Try.ntmps20
          go_wp2
          go_ret
          exact ⟨by first | rfl | (simp; done) | (simp [*]; done), by repeat (first | exact Drawn0.refl _ | apply Drawn0.step)⟩

-- NOT PRINTED: function 6 (wainloadlaw15_TimesNt)

/-! ### times_ToUnix: function 21 -/
def times_ToUnix.f (a0 : Int) : Option (Int) := (times_floored.f a0 1000000000).bind fun t146 => (some t146)
set_option maxHeartbeats 8000000 in
set_option maxRecDepth 100000 in
theorem times_ToUnix.calls (a0 : Int) (r : Int) (w : World) (h : times_ToUnix.f a0 = some r) :
    Calls Try.prog 21 #[.int .i64 a0] w fun e w' => e = .returned (.int .i64 r) ∧ Drawn0 w w' := by
  have H : ((times_floored.f a0 1000000000).bind fun t146 => (some t146)) = some r := h
  clear h
  replace H := Option.bind_eq_some_iff.mp H
  obtain ⟨t146, A20, H⟩ := H
  replace H : (some t146) = some r := H
  have A2 := Aside0.mk A20
  clear A20
  obtain rfl := Option.some.inj H
  go_enter Try.func21, Try.ntmps21
  go_wp2_with (first | ((with_reducible refine gate_callee (f := 35) rfl ?_); refine goesL_ (some 4) rfl rfl Try.func35 (by kernel_rfl) rfl #[.int .i64 a0, .int .i64 1000000000] rfl (by (try simp only [List.map_toArray, List.map_cons, List.map_nil]); first | done | rfl | (simp only [List.length_drop, List.length_take]; rfl)) ?_; (with_reducible refine (times_floored.calls a0 1000000000 t146 _ A2.out).mono ?_); rintro e w' ⟨rfl, ⟨nd, rfl⟩⟩; refine ⟨_, rfl, ?_⟩))
  go_ret
  exact ⟨by first | rfl | (simp; done) | (simp [*]; done), by repeat (first | exact Drawn0.refl _ | apply Drawn0.step)⟩

-- NOT PRINTED: function 7 (wainloadlaw15_TimesOrder)

-- NOT PRINTED: function 22 (times_FromDos)

/-! ### wainloadref15_FromDos: function 23 -/
def wainloadref15_FromDos.f (k : Nat) (a0 : Int) (a1 : Int) : Option (Int × Bool) := (wainloadref15_FromDate.f k (wrap64 (1980 + (wrap64 (Int.tdiv (wrap64 (a0)) 512)))) (Int.tmod (wrap64 (Int.tdiv (wrap64 (a0)) 32)) 16) (Int.tmod (wrap64 (a0)) 32) (wrap64 (Int.tdiv (wrap64 (a1)) 2048)) (Int.tmod (wrap64 (Int.tdiv (wrap64 (a1)) 32)) 64) (wrap64 ((Int.tmod (wrap64 (a1)) 32) * 2))).bind fun bt147 => (some (bt147.1, bt147.2))
theorem wainloadref15_FromDos.mono : ∀ a0 a1 k, LeO (wainloadref15_FromDos.f k a0 a1) (wainloadref15_FromDos.f (k + 1) a0 a1) := by
  intro a0 a1 k
  unfold wainloadref15_FromDos.f
  repeat' first
      | (with_reducible exact wainloadref15_FromDate.mono _ _ _ _ _ _ _)
      | (with_reducible exact LeO.refl _)
      | (with_reducible exact LeO.none _)
      | (with_reducible refine LeO.ite ?_ ?_)
      | (with_reducible refine LeO.bind ?_ (fun _ => ?_))
      | exact wainloadref15_FromDate.mono _ _ _ _ _ _ _
      | exact LeO.none _
      | refine LeO.ite ?_ ?_
      | refine LeO.bind ?_ (fun _ => ?_)
set_option maxHeartbeats 8000000 in
set_option maxRecDepth 100000 in
theorem wainloadref15_FromDos.calls (k : Nat) (a0 : Int) (a1 : Int) (r1 : Int) (r2 : Bool) (w : World) (h : wainloadref15_FromDos.f k a0 a1 = some (r1, r2)) :
    Calls Try.prog 23 #[.int .u16 a0, .int .u16 a1] w fun e w' => e = .returned (.tuple #[.int .i64 r1, .bool r2]) ∧ Below w.heap.size w w' := by
  have hu27 := Try.underlying27
  have HB := Aside0.mk (Below.refl w.heap.size w)
  have H : ((wainloadref15_FromDate.f k (wrap64 (1980 + (wrap64 (Int.tdiv (wrap64 (a0)) 512)))) (Int.tmod (wrap64 (Int.tdiv (wrap64 (a0)) 32)) 16) (Int.tmod (wrap64 (a0)) 32) (wrap64 (Int.tdiv (wrap64 (a1)) 2048)) (Int.tmod (wrap64 (Int.tdiv (wrap64 (a1)) 32)) 64) (wrap64 ((Int.tmod (wrap64 (a1)) 32) * 2))).bind fun bt147 => (some (bt147.1, bt147.2))) = some (r1, r2) := h
  clear h
  replace H := Option.bind_eq_some_iff.mp H
  obtain ⟨⟨t147, t148⟩, A30, H⟩ := H
  replace H : (some (t147, t148)) = some (r1, r2) := H
  have A3 := Aside0.mk A30
  clear A30
  simp only [Option.some.injEq, Prod.mk.injEq] at H
  obtain ⟨rfl, rfl⟩ := H
  go_enter Try.func23, Try.ntmps23
  go_wp2_with (first | ((with_reducible refine gate_callee (f := 12) rfl ?_); refine goesL_ (some 29) rfl rfl Try.func12 (by kernel_rfl) rfl #[.agg #[.int .i64 (wrap64 (1980 + (wrap64 (Int.tdiv (wrap64 (a0)) 512)))), .int .i64 (Int.tmod (wrap64 (Int.tdiv (wrap64 (a0)) 32)) 16), .int .i64 (Int.tmod (wrap64 (a0)) 32), .int .i64 (wrap64 (Int.tdiv (wrap64 (a1)) 2048)), .int .i64 (Int.tmod (wrap64 (Int.tdiv (wrap64 (a1)) 32)) 64), .int .i64 (wrap64 ((Int.tmod (wrap64 (a1)) 32) * 2))]] rfl (by (try simp only [List.map_toArray, List.map_cons, List.map_nil]); first | done | rfl | (simp only [List.length_drop, List.length_take]; rfl)) ?_; (with_reducible refine (wainloadref15_FromDate.calls k (wrap64 (1980 + (wrap64 (Int.tdiv (wrap64 (a0)) 512)))) (Int.tmod (wrap64 (Int.tdiv (wrap64 (a0)) 32)) 16) (Int.tmod (wrap64 (a0)) 32) (wrap64 (Int.tdiv (wrap64 (a1)) 2048)) (Int.tmod (wrap64 (Int.tdiv (wrap64 (a1)) 32)) 64) (wrap64 ((Int.tmod (wrap64 (a1)) 32) * 2)) t147 t148 _ A3.out).mono ?_); rintro e w4 ⟨rfl, hb⟩; refine ⟨_, rfl, ?_⟩; have n0_ := Aside0.mk (below_step (by repeat (first | (with_reducible first | exact HB.out | apply below_alloc | apply pw_below_drewN | apply below_drew1) | exact HB.out)) hb); clear HB; have HB := n0_; clear n0_; (try clear hb); (try clear hb2); (try clear hk); (try clear hi)))
  go_ret2
  exact ⟨by first | rfl | (simp [errW_none, errW_some] <;> rfl) | (simp [*, errW_none, errW_some] <;> rfl), by repeat (first | (with_reducible first | exact HB.out | apply below_alloc | apply pw_below_drewN | apply below_drew1) | exact HB.out)⟩

/-! ### wainloadref15_ToDos: function 25 -/
def wainloadref15_ToDos.f (k : Nat) (a0 : Int) : Option (Int × Int × Bool) := (wainloadref15_ToDate.f k a0).bind fun bt149 => (if bt149.1 < 1980 then (some (0, 0, false)) else (if bt149.1 > 2107 then (some (0, 0, false)) else (some (IntKind.u16.wrap (wrap64 ((wrap64 ((wrap64 ((wrap64 (bt149.1 - 1980)) * 512)) + (wrap64 (bt149.2.1 * 32)))) + bt149.2.2.1)), IntKind.u16.wrap (wrap64 ((wrap64 ((wrap64 (bt149.2.2.2.1 * 2048)) + (wrap64 (bt149.2.2.2.2.1 * 32)))) + (wrap64 (Int.tdiv bt149.2.2.2.2.2 2)))), true))))
theorem wainloadref15_ToDos.mono : ∀ a0 k, LeO (wainloadref15_ToDos.f k a0) (wainloadref15_ToDos.f (k + 1) a0) := by
  intro a0 k
  unfold wainloadref15_ToDos.f
  repeat' first
      | (with_reducible exact wainloadref15_ToDate.mono _ _)
      | (with_reducible exact LeO.refl _)
      | (with_reducible exact LeO.none _)
      | (with_reducible refine LeO.ite ?_ ?_)
      | (with_reducible refine LeO.bind ?_ (fun _ => ?_))
      | exact wainloadref15_ToDate.mono _ _
      | exact LeO.none _
      | refine LeO.ite ?_ ?_
      | refine LeO.bind ?_ (fun _ => ?_)
set_option maxHeartbeats 8000000 in
set_option maxRecDepth 100000 in
theorem wainloadref15_ToDos.calls (k : Nat) (a0 : Int) (r1 : Int) (r2 : Int) (r3 : Bool) (w : World) (h : wainloadref15_ToDos.f k a0 = some (r1, r2, r3)) :
    Calls Try.prog 25 #[.int .i64 a0] w fun e w' => e = .returned (.tuple #[.int .u16 r1, .int .u16 r2, .bool r3]) ∧ Below w.heap.size w w' := by
  have hu27 := Try.underlying27
  have HB := Aside0.mk (Below.refl w.heap.size w)
  have H : ((wainloadref15_ToDate.f k a0).bind fun bt149 => (if bt149.1 < 1980 then (some (0, 0, false)) else (if bt149.1 > 2107 then (some (0, 0, false)) else (some (IntKind.u16.wrap (wrap64 ((wrap64 ((wrap64 ((wrap64 (bt149.1 - 1980)) * 512)) + (wrap64 (bt149.2.1 * 32)))) + bt149.2.2.1)), IntKind.u16.wrap (wrap64 ((wrap64 ((wrap64 (bt149.2.2.2.1 * 2048)) + (wrap64 (bt149.2.2.2.2.1 * 32)))) + (wrap64 (Int.tdiv bt149.2.2.2.2.2 2)))), true))))) = some (r1, r2, r3) := h
  clear h
  replace H := Option.bind_eq_some_iff.mp H
  obtain ⟨⟨t149, t150, t151, t152, t153, t154⟩, A20, H⟩ := H
  replace H : (if t149 < 1980 then (some (0, 0, false)) else (if t149 > 2107 then (some (0, 0, false)) else (some (IntKind.u16.wrap (wrap64 ((wrap64 ((wrap64 ((wrap64 (t149 - 1980)) * 512)) + (wrap64 (t150 * 32)))) + t151)), IntKind.u16.wrap (wrap64 ((wrap64 ((wrap64 (t152 * 2048)) + (wrap64 (t153 * 32)))) + (wrap64 (Int.tdiv t154 2)))), true)))) = some (r1, r2, r3) := H
  have A2 := Aside0.mk A20
  clear A20
  by_cases c3 : t149 < 1980
  · rw [if_pos c3] at H
    have c3b0 : decide (t149 < 1980) = true := decide_eq_true c3
    clear c3
    simp only [Option.some.injEq, Prod.mk.injEq] at H
    obtain ⟨rfl, rfl, rfl⟩ := H
    go_enter Try.func25, Try.ntmps25
    go_wp2_with (first | ((with_reducible refine gate_callee (f := 15) rfl ?_); refine goesL_ (some 9) rfl rfl Try.func15 (by kernel_rfl) rfl #[.int .i64 a0] rfl (by (try simp only [List.map_toArray, List.map_cons, List.map_nil]); first | done | rfl | (simp only [List.length_drop, List.length_take]; rfl)) ?_; (with_reducible refine (wainloadref15_ToDate.calls k a0 t149 t150 t151 t152 t153 t154 _ A2.out).mono ?_); rintro e w4 ⟨rfl, hb⟩; refine ⟨_, rfl, ?_⟩; have n0_ := Aside0.mk (below_step (by repeat (first | (with_reducible first | exact HB.out | apply below_alloc | apply pw_below_drewN | apply below_drew1) | exact HB.out)) hb); clear HB; have HB := n0_; clear n0_; (try clear hb); (try clear hb2); (try clear hk); (try clear hi)) | ((with_reducible refine gate_dst (N := 5) rfl ?_); refine box_event ?hg (N := 5) ?hd (cs := #[.int .i64 0, .int .i64 0, .int .i64 0, .int .i64 0, .int .i64 0, .int .i64 0]) (t := 27) ?hr ?_; (case hd => rfl); (case hg => rfl); (case hr => first | (go_simp; done) | (go_simp; rfl)); intro gb155 hg w5 hbox hb; have n0_ := Aside0.mk (below_step (by repeat (first | (with_reducible first | exact HB.out | apply below_alloc | apply pw_below_drewN | apply below_drew1) | exact HB.out)) hb); have n1_ := Aside0.mk (hbox); have n2_ := Aside0.mk ((by rw [hg]; exact (below_size (by repeat (first | (with_reducible first | exact HB.out | apply below_alloc | apply pw_below_drewN | apply below_drew1) | exact HB.out))) : w.heap.size ≤ gb155)); have n3_ := Aside0.mk ((by rw [hg]; exact (below_size (by repeat (first | (with_reducible first | exact HB.out | apply below_alloc | apply pw_below_drewN | apply below_drew1) | exact HB.out))) : w.heap.size ≤ gb155)); clear HB; have HB := n0_; have BK155 := n1_; have GW155 := n2_; have GE155 := n3_; clear n0_ n1_ n2_ n3_; clear hb hbox hg; have hcz6_0 : w5.cell? ⟨gb155, 0, none⟩ = some (.int .i64 0) := (blk_cell BK155.out 0).trans rfl; have hcz6_1 : w5.cell? ⟨gb155, 1, none⟩ = some (.int .i64 0) := (blk_cell BK155.out 1).trans rfl; have hcz6_2 : w5.cell? ⟨gb155, 2, none⟩ = some (.int .i64 0) := (blk_cell BK155.out 2).trans rfl; have hcz6_3 : w5.cell? ⟨gb155, 3, none⟩ = some (.int .i64 0) := (blk_cell BK155.out 3).trans rfl; have hcz6_4 : w5.cell? ⟨gb155, 4, none⟩ = some (.int .i64 0) := (blk_cell BK155.out 4).trans rfl; have hcz6_5 : w5.cell? ⟨gb155, 5, none⟩ = some (.int .i64 0) := (blk_cell BK155.out 5).trans rfl; have hfz6_0 := blk_frozen BK155.out 0; have hfz6_1 := blk_frozen BK155.out 1; have hfz6_2 := blk_frozen BK155.out 2; have hfz6_3 := blk_frozen BK155.out 3; have hfz6_4 := blk_frozen BK155.out 4; have hfz6_5 := blk_frozen BK155.out 5))
    go_ret3
    exact ⟨by first | rfl | (simp [errW_none, errW_some] <;> rfl) | (simp [*, errW_none, errW_some] <;> rfl), by repeat (first | (with_reducible first | exact HB.out | apply below_alloc | apply pw_below_drewN | apply below_drew1 | refine below_set ?_ GE155.out) | exact HB.out)⟩
  · rw [if_neg c3] at H
    have c3b0 : decide (t149 < 1980) = false := decide_eq_false c3
    clear c3
    by_cases c7 : t149 > 2107
    · rw [if_pos c7] at H
      have c7b0 : decide (2107 < t149) = true := decide_eq_true c7
      clear c7
      simp only [Option.some.injEq, Prod.mk.injEq] at H
      obtain ⟨rfl, rfl, rfl⟩ := H
      go_enter Try.func25, Try.ntmps25
      go_wp2_with (first | ((with_reducible refine gate_callee (f := 15) rfl ?_); refine goesL_ (some 9) rfl rfl Try.func15 (by kernel_rfl) rfl #[.int .i64 a0] rfl (by (try simp only [List.map_toArray, List.map_cons, List.map_nil]); first | done | rfl | (simp only [List.length_drop, List.length_take]; rfl)) ?_; (with_reducible refine (wainloadref15_ToDate.calls k a0 t149 t150 t151 t152 t153 t154 _ A2.out).mono ?_); rintro e w8 ⟨rfl, hb⟩; refine ⟨_, rfl, ?_⟩; have n0_ := Aside0.mk (below_step (by repeat (first | (with_reducible first | exact HB.out | apply below_alloc | apply pw_below_drewN | apply below_drew1) | exact HB.out)) hb); clear HB; have HB := n0_; clear n0_; (try clear hb); (try clear hb2); (try clear hk); (try clear hi)) | ((with_reducible refine gate_dst (N := 5) rfl ?_); refine box_event ?hg (N := 5) ?hd (cs := #[.int .i64 0, .int .i64 0, .int .i64 0, .int .i64 0, .int .i64 0, .int .i64 0]) (t := 27) ?hr ?_; (case hd => rfl); (case hg => rfl); (case hr => first | (go_simp; done) | (go_simp; rfl)); intro gb155 hg w9 hbox hb; have n0_ := Aside0.mk (below_step (by repeat (first | (with_reducible first | exact HB.out | apply below_alloc | apply pw_below_drewN | apply below_drew1) | exact HB.out)) hb); have n1_ := Aside0.mk (hbox); have n2_ := Aside0.mk ((by rw [hg]; exact (below_size (by repeat (first | (with_reducible first | exact HB.out | apply below_alloc | apply pw_below_drewN | apply below_drew1) | exact HB.out))) : w.heap.size ≤ gb155)); have n3_ := Aside0.mk ((by rw [hg]; exact (below_size (by repeat (first | (with_reducible first | exact HB.out | apply below_alloc | apply pw_below_drewN | apply below_drew1) | exact HB.out))) : w.heap.size ≤ gb155)); clear HB; have HB := n0_; have BK155 := n1_; have GW155 := n2_; have GE155 := n3_; clear n0_ n1_ n2_ n3_; clear hb hbox hg; have hcz10_0 : w9.cell? ⟨gb155, 0, none⟩ = some (.int .i64 0) := (blk_cell BK155.out 0).trans rfl; have hcz10_1 : w9.cell? ⟨gb155, 1, none⟩ = some (.int .i64 0) := (blk_cell BK155.out 1).trans rfl; have hcz10_2 : w9.cell? ⟨gb155, 2, none⟩ = some (.int .i64 0) := (blk_cell BK155.out 2).trans rfl; have hcz10_3 : w9.cell? ⟨gb155, 3, none⟩ = some (.int .i64 0) := (blk_cell BK155.out 3).trans rfl; have hcz10_4 : w9.cell? ⟨gb155, 4, none⟩ = some (.int .i64 0) := (blk_cell BK155.out 4).trans rfl; have hcz10_5 : w9.cell? ⟨gb155, 5, none⟩ = some (.int .i64 0) := (blk_cell BK155.out 5).trans rfl; have hfz10_0 := blk_frozen BK155.out 0; have hfz10_1 := blk_frozen BK155.out 1; have hfz10_2 := blk_frozen BK155.out 2; have hfz10_3 := blk_frozen BK155.out 3; have hfz10_4 := blk_frozen BK155.out 4; have hfz10_5 := blk_frozen BK155.out 5))
      go_ret3
      exact ⟨by first | rfl | (simp [errW_none, errW_some] <;> rfl) | (simp [*, errW_none, errW_some] <;> rfl), by repeat (first | (with_reducible first | exact HB.out | apply below_alloc | apply pw_below_drewN | apply below_drew1 | refine below_set ?_ GE155.out) | exact HB.out)⟩
    · rw [if_neg c7] at H
      have c7b0 : decide (2107 < t149) = false := decide_eq_false c7
      clear c7
      simp only [Option.some.injEq, Prod.mk.injEq] at H
      obtain ⟨rfl, rfl, rfl⟩ := H
      go_enter Try.func25, Try.ntmps25
      go_wp2_with (first | ((with_reducible refine gate_callee (f := 15) rfl ?_); refine goesL_ (some 9) rfl rfl Try.func15 (by kernel_rfl) rfl #[.int .i64 a0] rfl (by (try simp only [List.map_toArray, List.map_cons, List.map_nil]); first | done | rfl | (simp only [List.length_drop, List.length_take]; rfl)) ?_; (with_reducible refine (wainloadref15_ToDate.calls k a0 t149 t150 t151 t152 t153 t154 _ A2.out).mono ?_); rintro e w11 ⟨rfl, hb⟩; refine ⟨_, rfl, ?_⟩; have n0_ := Aside0.mk (below_step (by repeat (first | (with_reducible first | exact HB.out | apply below_alloc | apply pw_below_drewN | apply below_drew1) | exact HB.out)) hb); clear HB; have HB := n0_; clear n0_; (try clear hb); (try clear hb2); (try clear hk); (try clear hi)) | ((with_reducible refine gate_dst (N := 5) rfl ?_); refine box_event ?hg (N := 5) ?hd (cs := #[.int .i64 0, .int .i64 0, .int .i64 0, .int .i64 0, .int .i64 0, .int .i64 0]) (t := 27) ?hr ?_; (case hd => rfl); (case hg => rfl); (case hr => first | (go_simp; done) | (go_simp; rfl)); intro gb155 hg w12 hbox hb; have n0_ := Aside0.mk (below_step (by repeat (first | (with_reducible first | exact HB.out | apply below_alloc | apply pw_below_drewN | apply below_drew1) | exact HB.out)) hb); have n1_ := Aside0.mk (hbox); have n2_ := Aside0.mk ((by rw [hg]; exact (below_size (by repeat (first | (with_reducible first | exact HB.out | apply below_alloc | apply pw_below_drewN | apply below_drew1) | exact HB.out))) : w.heap.size ≤ gb155)); have n3_ := Aside0.mk ((by rw [hg]; exact (below_size (by repeat (first | (with_reducible first | exact HB.out | apply below_alloc | apply pw_below_drewN | apply below_drew1) | exact HB.out))) : w.heap.size ≤ gb155)); clear HB; have HB := n0_; have BK155 := n1_; have GW155 := n2_; have GE155 := n3_; clear n0_ n1_ n2_ n3_; clear hb hbox hg; have hcz13_0 : w12.cell? ⟨gb155, 0, none⟩ = some (.int .i64 0) := (blk_cell BK155.out 0).trans rfl; have hcz13_1 : w12.cell? ⟨gb155, 1, none⟩ = some (.int .i64 0) := (blk_cell BK155.out 1).trans rfl; have hcz13_2 : w12.cell? ⟨gb155, 2, none⟩ = some (.int .i64 0) := (blk_cell BK155.out 2).trans rfl; have hcz13_3 : w12.cell? ⟨gb155, 3, none⟩ = some (.int .i64 0) := (blk_cell BK155.out 3).trans rfl; have hcz13_4 : w12.cell? ⟨gb155, 4, none⟩ = some (.int .i64 0) := (blk_cell BK155.out 4).trans rfl; have hcz13_5 : w12.cell? ⟨gb155, 5, none⟩ = some (.int .i64 0) := (blk_cell BK155.out 5).trans rfl; have hfz13_0 := blk_frozen BK155.out 0; have hfz13_1 := blk_frozen BK155.out 1; have hfz13_2 := blk_frozen BK155.out 2; have hfz13_3 := blk_frozen BK155.out 3; have hfz13_4 := blk_frozen BK155.out 4; have hfz13_5 := blk_frozen BK155.out 5))
      go_ret3
      exact ⟨by first | rfl | (simp [errW_none, errW_some] <;> rfl) | (simp [*, errW_none, errW_some] <;> rfl), by repeat (first | (with_reducible first | exact HB.out | apply below_alloc | apply pw_below_drewN | apply below_drew1 | refine below_set ?_ GE155.out) | exact HB.out)⟩

-- NOT PRINTED: function 8 (wainloadlaw15_TimesDos)

/-! ### times_FromUnix: function 26 -/
def times_FromUnix.f (a0 : Int) : Option (Int × Bool) := if a0 > 9223372036 then (some (0, false)) else (if a0 < (-9223372036) then (some (0, false)) else (some (wrap64 (a0 * 1000000000), true)))
set_option maxHeartbeats 8000000 in
set_option maxRecDepth 100000 in
theorem times_FromUnix.calls (a0 : Int) (r1 : Int) (r2 : Bool) (w : World) (h : times_FromUnix.f a0 = some (r1, r2)) :
    Calls Try.prog 26 #[.int .i64 a0] w fun e w' => e = .returned (.tuple #[.int .i64 r1, .bool r2]) ∧ Drawn0 w w' := by
  have H : (if a0 > 9223372036 then (some (0, false)) else (if a0 < (-9223372036) then (some (0, false)) else (some (wrap64 (a0 * 1000000000), true)))) = some (r1, r2) := h
  clear h
  by_cases c2 : a0 > 9223372036
  · rw [if_pos c2] at H
    have c2b0 : decide (9223372036 < a0) = true := decide_eq_true c2
    clear c2
    simp only [Option.some.injEq, Prod.mk.injEq] at H
    obtain ⟨rfl, rfl⟩ := H
    go_enter Try.func26, Try.ntmps26
    go_wp2
    go_ret2
    exact ⟨by first | rfl | (simp; done) | (simp [*]; done), by repeat (first | exact Drawn0.refl _ | apply Drawn0.step)⟩
  · rw [if_neg c2] at H
    have c2b0 : decide (9223372036 < a0) = false := decide_eq_false c2
    clear c2
    by_cases c3 : a0 < (-9223372036)
    · rw [if_pos c3] at H
      have c3b0 : decide (a0 < (-9223372036)) = true := decide_eq_true c3
      clear c3
      simp only [Option.some.injEq, Prod.mk.injEq] at H
      obtain ⟨rfl, rfl⟩ := H
      go_enter Try.func26, Try.ntmps26
      go_wp2
      go_ret2
      exact ⟨by first | rfl | (simp; done) | (simp [*]; done), by repeat (first | exact Drawn0.refl _ | apply Drawn0.step)⟩
    · rw [if_neg c3] at H
      have c3b0 : decide (a0 < (-9223372036)) = false := decide_eq_false c3
      clear c3
      simp only [Option.some.injEq, Prod.mk.injEq] at H
      obtain ⟨rfl, rfl⟩ := H
      go_enter Try.func26, Try.ntmps26
      go_wp2
      go_ret2
      exact ⟨by first | rfl | (simp; done) | (simp [*]; done), by repeat (first | exact Drawn0.refl _ | apply Drawn0.step)⟩

/-! ### wainloadref15_FromUnix: function 27 -/
def wainloadref15_FromUnix.f (a0 : Int) : Option (Int × Bool) := if a0 < (-9223372036) then (some (0, false)) else (if a0 > 9223372036 then (some (0, false)) else (some (wrap64 (a0 * 1000000000), true)))
set_option maxHeartbeats 8000000 in
set_option maxRecDepth 100000 in
theorem wainloadref15_FromUnix.calls (a0 : Int) (r1 : Int) (r2 : Bool) (w : World) (h : wainloadref15_FromUnix.f a0 = some (r1, r2)) :
    Calls Try.prog 27 #[.int .i64 a0] w fun e w' => e = .returned (.tuple #[.int .i64 r1, .bool r2]) ∧ Drawn0 w w' := by
  have H : (if a0 < (-9223372036) then (some (0, false)) else (if a0 > 9223372036 then (some (0, false)) else (some (wrap64 (a0 * 1000000000), true)))) = some (r1, r2) := h
  clear h
  by_cases c2 : a0 < (-9223372036)
  · rw [if_pos c2] at H
    have c2b0 : decide (a0 < (-9223372036)) = true := decide_eq_true c2
    clear c2
    simp only [Option.some.injEq, Prod.mk.injEq] at H
    obtain ⟨rfl, rfl⟩ := H
    go_enter Try.func27, Try.ntmps27
    go_wp2
    go_ret2
    exact ⟨by first | rfl | (simp; done) | (simp [*]; done), by repeat (first | exact Drawn0.refl _ | apply Drawn0.step)⟩
  · rw [if_neg c2] at H
    have c2b0 : decide (a0 < (-9223372036)) = false := decide_eq_false c2
    clear c2
    by_cases c3 : a0 > 9223372036
    · rw [if_pos c3] at H
      have c3b0 : decide (9223372036 < a0) = true := decide_eq_true c3
      clear c3
      simp only [Option.some.injEq, Prod.mk.injEq] at H
      obtain ⟨rfl, rfl⟩ := H
      go_enter Try.func27, Try.ntmps27
      go_wp2
      go_ret2
      exact ⟨by first | rfl | (simp; done) | (simp [*]; done), by repeat (first | exact Drawn0.refl _ | apply Drawn0.step)⟩
    · rw [if_neg c3] at H
      have c3b0 : decide (9223372036 < a0) = false := decide_eq_false c3
      clear c3
      simp only [Option.some.injEq, Prod.mk.injEq] at H
      obtain ⟨rfl, rfl⟩ := H
      go_enter Try.func27, Try.ntmps27
      go_wp2
      go_ret2
      exact ⟨by first | rfl | (simp; done) | (simp [*]; done), by repeat (first | exact Drawn0.refl _ | apply Drawn0.step)⟩

/-! ### wainloadref15_ToUnix: function 28 -/
def wainloadref15_ToUnix.f (a0 : Int) : Option (Int) := (wainloadref15_down.f a0 1000000000).bind fun t156 => (some t156)
set_option maxHeartbeats 8000000 in
set_option maxRecDepth 100000 in
theorem wainloadref15_ToUnix.calls (a0 : Int) (r : Int) (w : World) (h : wainloadref15_ToUnix.f a0 = some r) :
    Calls Try.prog 28 #[.int .i64 a0] w fun e w' => e = .returned (.int .i64 r) ∧ Drawn0 w w' := by
  have H : ((wainloadref15_down.f a0 1000000000).bind fun t156 => (some t156)) = some r := h
  clear h
  replace H := Option.bind_eq_some_iff.mp H
  obtain ⟨t156, A20, H⟩ := H
  replace H : (some t156) = some r := H
  have A2 := Aside0.mk A20
  clear A20
  obtain rfl := Option.some.inj H
  go_enter Try.func28, Try.ntmps28
  go_wp2_with (first | ((with_reducible refine gate_callee (f := 36) rfl ?_); refine goesL_ (some 4) rfl rfl Try.func36 (by kernel_rfl) rfl #[.int .i64 a0, .int .i64 1000000000] rfl (by (try simp only [List.map_toArray, List.map_cons, List.map_nil]); first | done | rfl | (simp only [List.length_drop, List.length_take]; rfl)) ?_; (with_reducible refine (wainloadref15_down.calls a0 1000000000 t156 _ A2.out).mono ?_); rintro e w' ⟨rfl, ⟨nd, rfl⟩⟩; refine ⟨_, rfl, ?_⟩))
  go_ret
  exact ⟨by first | rfl | (simp; done) | (simp [*]; done), by repeat (first | exact Drawn0.refl _ | apply Drawn0.step)⟩

-- NOT PRINTED: function 9 (wainloadlaw15_TimesUnix)

-- NOT PRINTED: function 29 (times_Floor)

-- NOT PRINTED: function 10 (wainloadlaw15_TimesFloors)

end Go.Proofs.Ytnnhplakmagbbaa.HA
