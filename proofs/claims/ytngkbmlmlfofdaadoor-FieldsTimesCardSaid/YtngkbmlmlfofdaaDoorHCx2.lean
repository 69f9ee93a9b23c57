/- What calls of these Go functions come to, as plain Lean functions, each with its proof; printed for this claim by a program of this session. -/
import Derived.Test.YtngkbmlmlfofdaaDoorHCx0
namespace Go.Proofs.YtngkbmlmlfofdaaDoor.HC
open Go.Proofs.YtngkbmlmlfofdaaDoor.HA
open Go.Proofs.YtngkbmlmlfofdaaDoor.HB
open Go.RowKit Go.Proofs.YtngkbmlmlfofdaaDoorW.PrintWords Go.Proofs.YtngkbmlmlfofdaaDoorW.PrintLast Go.Proofs.YtngkbmlmlfofdaaDoorW.PrintMore
attribute [local go_sem] max2_int min2_int max_two min_two max_three min_three max_four min_four   -- for this text's walks alone
set_option linter.unusedVariables false
set_option linter.unusedSimpArgs false

/-! ### wainloadref03_PutSeconds: function 18 -/
mutual
def wainloadref03_PutSeconds.j0 : Nat → Int → ByteArray → Option (ByteArray)
  | 0, _, _ => none
  | k + 1, x0, x3 => (Go.Proofs.YtngkbmlmlfofdaaDoor.HA.wainloadref03_below.f k (wrap64 (Int.tdiv x0 1000000000))).bind fun t104 => (if x3.size + t104.size ≤ 9223372036854775807 then (if (Int.tmod x0 1000000000) = 0 then (some (x3 ++ t104)) else (if (x3 ++ t104).size + 1 ≤ 9223372036854775807 then (wainloadref03_PutSeconds.l0 k ((x3 ++ t104) ++ (⟨#[46]⟩ : ByteArray)) (Int.tmod x0 1000000000)) else (none))) else (none))
def wainloadref03_PutSeconds.l0 : Nat → ByteArray → Int → Option (ByteArray)
  | 0, _, _ => none
  | k + 1, x3, x4 => if x4 = 0 then (some x3) else ((Go.Proofs.YtngkbmlmlfofdaaDoor.HA.wainloadref03_below.f k (wrap64 (Int.tdiv (wrap64 (x4 * 10)) 1000000000))).bind fun t105 => (if x3.size + t105.size ≤ 9223372036854775807 then (wainloadref03_PutSeconds.l0 k (x3 ++ t105) (Int.tmod (wrap64 (x4 * 10)) 1000000000)) else (none)))
end
def wainloadref03_PutSeconds.f (k : Nat) (a0 : Int) : Option (ByteArray) := if a0 < 0 then (wainloadref03_PutSeconds.j0 k a0 (⟨#[45]⟩ : ByteArray)) else (wainloadref03_PutSeconds.j0 k (wrap64 (-a0)) (⟨#[]⟩ : ByteArray))
theorem wainloadref03_PutSeconds.mono_l : ∀ k, (∀ y0 y1, LeO (wainloadref03_PutSeconds.j0 k y0 y1) (wainloadref03_PutSeconds.j0 (k + 1) y0 y1)) ∧ (∀ y0 y1, LeO (wainloadref03_PutSeconds.l0 k y0 y1) (wainloadref03_PutSeconds.l0 (k + 1) y0 y1))
  | 0 => ⟨fun _ _ r h => by simp [wainloadref03_PutSeconds.j0] at h, fun _ _ r h => by simp [wainloadref03_PutSeconds.l0] at h⟩
  | k + 1 => by
    obtain ⟨ih0, ih1⟩ := wainloadref03_PutSeconds.mono_l k
    refine ⟨?_, ?_⟩
    · intro y0 y1
      unfold wainloadref03_PutSeconds.j0
      repeat' first
      | (with_reducible exact ih0 _ _)
      | (with_reducible exact ih1 _ _)
      | (with_reducible exact Go.Proofs.YtngkbmlmlfofdaaDoor.HA.wainloadref03_below.mono _ _)
      | (with_reducible exact LeO.refl _)
      | (with_reducible exact LeO.none _)
      | (with_reducible refine LeO.ite ?_ ?_)
      | (with_reducible refine LeO.bind ?_ (fun _ => ?_))
      | exact ih0 _ _
      | exact ih1 _ _
      | exact Go.Proofs.YtngkbmlmlfofdaaDoor.HA.wainloadref03_below.mono _ _
      | exact LeO.none _
      | refine LeO.ite ?_ ?_
      | refine LeO.bind ?_ (fun _ => ?_)
    · intro y0 y1
      unfold wainloadref03_PutSeconds.l0
      repeat' first
      | (with_reducible exact ih0 _ _)
      | (with_reducible exact ih1 _ _)
      | (with_reducible exact Go.Proofs.YtngkbmlmlfofdaaDoor.HA.wainloadref03_below.mono _ _)
      | (with_reducible exact LeO.refl _)
      | (with_reducible exact LeO.none _)
      | (with_reducible refine LeO.ite ?_ ?_)
      | (with_reducible refine LeO.bind ?_ (fun _ => ?_))
      | exact ih0 _ _
      | exact ih1 _ _
      | exact Go.Proofs.YtngkbmlmlfofdaaDoor.HA.wainloadref03_below.mono _ _
      | exact LeO.none _
      | refine LeO.ite ?_ ?_
      | refine LeO.bind ?_ (fun _ => ?_)
theorem wainloadref03_PutSeconds.mono : ∀ a0 k, LeO (wainloadref03_PutSeconds.f k a0) (wainloadref03_PutSeconds.f (k + 1) a0) := by
  intro a0 k
  obtain ⟨ih0, ih1⟩ := wainloadref03_PutSeconds.mono_l k
  unfold wainloadref03_PutSeconds.f
  repeat' first
      | (with_reducible exact ih0 _ _)
      | (with_reducible exact ih1 _ _)
      | (with_reducible exact Go.Proofs.YtngkbmlmlfofdaaDoor.HA.wainloadref03_below.mono _ _)
      | (with_reducible exact LeO.refl _)
      | (with_reducible exact LeO.none _)
      | (with_reducible refine LeO.ite ?_ ?_)
      | (with_reducible refine LeO.bind ?_ (fun _ => ?_))
      | exact ih0 _ _
      | exact ih1 _ _
      | exact Go.Proofs.YtngkbmlmlfofdaaDoor.HA.wainloadref03_below.mono _ _
      | exact LeO.none _
      | refine LeO.ite ?_ ?_
      | refine LeO.bind ?_ (fun _ => ?_)
set_option maxHeartbeats 8000000 in
set_option maxRecDepth 100000 in
theorem wainloadref03_PutSeconds.calls (k : Nat) (a0 : Int) (r : ByteArray) (w : World) (h : wainloadref03_PutSeconds.f k a0 = some r) :
    Calls Tryd.prog 18 #[.int .i64 a0] w fun e w' => e = .returned (.string r) ∧ Below w.heap.size w w' := by
  have HB := Aside0.mk (Below.refl w.heap.size w)
  have H : (if a0 < 0 then (wainloadref03_PutSeconds.j0 k a0 (⟨#[45]⟩ : ByteArray)) else (wainloadref03_PutSeconds.j0 k (wrap64 (-a0)) (⟨#[]⟩ : ByteArray))) = some r := h
  clear h
  have HC2 := Aside0.mk H
  clear H
  go_enter Tryd.func18, Tryd.ntmps18
  go_upto_if 6 with (fail)
  go_cut [0, 3] (fun v0 v3 wc => ∃ (kq : Nat) (x0_1 : Int) (x3_1 : ByteArray), v0 = .int .i64 x0_1 ∧ v3 = .string x3_1 ∧ Aside0 (wainloadref03_PutSeconds.j0 kq x0_1 x3_1 = some r) ∧ Aside0 (kq ≤ k) ∧ Aside0 (Below w.heap.size w wc))
  case first =>
    have H := HC2.out
    clear HC2
    by_cases c3 : a0 < 0
    · rw [if_pos c3] at H
      have c3b0 : decide (a0 < 0) = true := decide_eq_true c3
      clear c3
      (first | rw [c3b0] | (simp only [i64_w, i32_w]; rw [c3b0]) | skip)
      have H' := Aside0.mk H
      clear H
      go_wp2
      go_meet
      case rel => exact ⟨_, (a0), ((⟨#[45]⟩ : ByteArray)), (by first | rfl | (simp; done) | (simp [*]; done)), (by first | rfl | (simp; done) | (simp [*]; done)), H', ⟨by first | omega | exact Nat.le_refl _⟩, ⟨by repeat (first | (with_reducible first | exact HB.out | apply below_alloc | apply pw_below_drewN | apply below_drew1) | exact HB.out)⟩⟩
    · rw [if_neg c3] at H
      have c3b0 : decide (a0 < 0) = false := decide_eq_false c3
      clear c3
      (first | rw [c3b0] | (simp only [i64_w, i32_w]; rw [c3b0]) | skip)
      have H' := Aside0.mk H
      clear H
      go_wp2
      go_meet
      case rel => exact ⟨_, (wrap64 (-a0)), ((⟨#[]⟩ : ByteArray)), (by first | rfl | (simp; done) | (simp [*]; done)), (by first | rfl | (simp; done) | (simp [*]; done)), H', ⟨by first | omega | exact Nat.le_refl _⟩, ⟨by repeat (first | (with_reducible first | exact HB.out | apply below_alloc | apply pw_below_drewN | apply below_drew1) | exact HB.out)⟩⟩
  case rest =>
    clear HC2
    try clear c1
    try clear p2
    try clear c3
    try clear c3b0
    obtain ⟨kq, x0_1, x3_1, rfl, rfl, HA, HJ1, HB⟩ := hcut
    cases kq with
    | zero => exact absurd HA.out (by simp [wainloadref03_PutSeconds.j0])
    | succ kj1 =>
      have H := HA.out
      clear HA
      simp only [wainloadref03_PutSeconds.j0] at H
      replace H := Option.bind_eq_some_iff.mp H
      obtain ⟨t104, A40, H⟩ := H
      replace H : (if x3_1.size + t104.size ≤ 9223372036854775807 then (if (Int.tmod x0_1 1000000000) = 0 then (some (x3_1 ++ t104)) else (if (x3_1 ++ t104).size + 1 ≤ 9223372036854775807 then (wainloadref03_PutSeconds.l0 kj1 ((x3_1 ++ t104) ++ (⟨#[46]⟩ : ByteArray)) (Int.tmod x0_1 1000000000)) else (none))) else (none)) = some r := H
      have A4 := Aside0.mk A40
      clear A40
      by_cases c5 : x3_1.size + t104.size ≤ 9223372036854775807
      · rw [if_pos c5] at H
        have c5b0 := eq_true c5
        have c5b1 : decide (x3_1.size + t104.size ≤ 9223372036854775807) = true := decide_eq_true c5
        try have c5b2 : (9223372036854775807 < x3_1.size + t104.size) = False := eq_false (Nat.not_lt.2 c5)
        by_cases c6 : (Int.tmod x0_1 1000000000) = 0
        · rw [if_pos c6] at H
          have c6b0 : ((Int.tmod x0_1 1000000000) == 0) = true := beq_iff_eq.mpr c6
          have c6b1 : ((Int.tmod x0_1 1000000000) != 0) = false := bne_eq_false_iff_eq.mpr c6
          clear c6
          obtain rfl := Option.some.inj H
          go_wp2_with (first | ((with_reducible refine gate_callee (f := 39) rfl ?_); refine goesL_ (some 12) rfl rfl Tryd.func39 (by kernel_rfl) rfl #[.int .i64 (wrap64 (Int.tdiv x0_1 1000000000))] rfl (by (try simp only [List.map_toArray, List.map_cons, List.map_nil]); first | done | rfl | (simp only [List.length_drop, List.length_take]; rfl)) ?_; (with_reducible refine (Go.Proofs.YtngkbmlmlfofdaaDoor.HA.wainloadref03_below.calls kj1 (wrap64 (Int.tdiv x0_1 1000000000)) t104 _ A4.out).mono ?_); rintro e w7 ⟨rfl, hb⟩; refine ⟨_, rfl, ?_⟩; have n0_ := Aside0.mk (below_step (by repeat (first | (with_reducible first | exact HB.out | apply below_alloc | apply pw_below_drewN | apply below_drew1) | exact HB.out)) hb); clear HB; have HB := n0_; clear n0_; (try clear hb); (try clear hb2); (try clear hk); (try clear hi)))
          go_ret
          exact ⟨by first | rfl | (simp [errW_none, errW_some] <;> rfl) | (simp [*, errW_none, errW_some] <;> rfl), by repeat (first | (with_reducible first | exact HB.out | apply below_alloc | apply pw_below_drewN | apply below_drew1) | exact HB.out)⟩
        · rw [if_neg c6] at H
          have c6b0 : ((Int.tmod x0_1 1000000000) == 0) = false := beq_eq_false_iff_ne.mpr c6
          have c6b1 : ((Int.tmod x0_1 1000000000) != 0) = true := bne_iff_ne.mpr c6
          by_cases c8 : (x3_1 ++ t104).size + 1 ≤ 9223372036854775807
          · rw [if_pos c8] at H
            have c8b0 := eq_true c8
            have c8b1 : decide ((x3_1 ++ t104).size + 1 ≤ 9223372036854775807) = true := decide_eq_true c8
            try have c8b1x := c8b1
            try simp only [ByteArray.size_extract, Nat.min_self, ByteArray.size_append] at c8b1x
            try have c8b2 : (9223372036854775807 < (x3_1 ++ t104).size + 1) = False := eq_false (Nat.not_lt.2 c8)
            try have c8b2x := c8b2
            try simp only [ByteArray.size_extract, Nat.min_self, ByteArray.size_append] at c8b2x
            have H' := Aside0.mk H
            clear H
            go_wp2_with (first | ((with_reducible refine gate_callee (f := 39) rfl ?_); refine goesL_ (some 12) rfl rfl Tryd.func39 (by kernel_rfl) rfl #[.int .i64 (wrap64 (Int.tdiv x0_1 1000000000))] rfl (by (try simp only [List.map_toArray, List.map_cons, List.map_nil]); first | done | rfl | (simp only [List.length_drop, List.length_take]; rfl)) ?_; (with_reducible refine (Go.Proofs.YtngkbmlmlfofdaaDoor.HA.wainloadref03_below.calls kj1 (wrap64 (Int.tdiv x0_1 1000000000)) t104 _ A4.out).mono ?_); rintro e w9 ⟨rfl, hb⟩; refine ⟨_, rfl, ?_⟩; have n0_ := Aside0.mk (below_step (by repeat (first | (with_reducible first | exact HB.out | apply below_alloc | apply pw_below_drewN | apply below_drew1) | exact HB.out)) hb); clear HB; have HB := n0_; clear n0_; (try clear hb); (try clear hb2); (try clear hk); (try clear hi)))
            go_loopg [3, 4] kj1 (fun kq v3 v4 w' => ∃ (x3_2 : ByteArray) (x4_2 : Int), v3 = .string x3_2 ∧ v4 = .int .i64 x4_2 ∧ Aside0 (wainloadref03_PutSeconds.l0 kq x3_2 x4_2 = some r) ∧ Aside0 (kq ≤ kj1) ∧ Aside0 (Below w.heap.size w w'))
            case atStart => exact ⟨((x3_1 ++ t104) ++ (⟨#[46]⟩ : ByteArray)), (Int.tmod x0_1 1000000000), (by first | rfl | (simp; done) | (simp [*]; done)), (by first | rfl | (simp; done) | (simp [*]; done)), H', ⟨Nat.le_refl _⟩, ⟨by repeat (first | (with_reducible first | exact HB.out | apply below_alloc | apply pw_below_drewN | apply below_drew1) | exact HB.out)⟩⟩
            case round =>
              clear H'
              try clear c1
              try clear p2
              try clear c3
              try clear c3b0
              try clear c5
              try clear c5b0
              try clear c5b1
              try clear c5b2
              try clear c6
              try clear c6b0
              try clear c6b1
              try clear p6
              try clear c8
              try clear c8b0
              try clear c8b1
              try clear c8b2
              try clear p2
              obtain ⟨x3_2, x4_2, rfl, rfl, HA, HK2, HB⟩ := hrel
              cases gk with
              | zero => exact absurd HA.out (by simp [wainloadref03_PutSeconds.l0])
              | succ k2 =>
                have H := HA.out
                clear HA
                simp only [wainloadref03_PutSeconds.l0] at H
                by_cases c10 : x4_2 = 0
                · rw [if_pos c10] at H
                  have c10b0 : (x4_2 == 0) = true := beq_iff_eq.mpr c10
                  have c10b1 : (x4_2 != 0) = false := bne_eq_false_iff_eq.mpr c10
                  clear c10
                  obtain rfl := Option.some.inj H
                  go_wp2
                  go_ret
                  exact ⟨by first | rfl | (simp [errW_none, errW_some] <;> rfl) | (simp [*, errW_none, errW_some] <;> rfl), by repeat (first | (with_reducible first | exact HB.out | apply below_alloc | apply pw_below_drewN | apply below_drew1) | exact HB.out)⟩
                · rw [if_neg c10] at H
                  have c10b0 : (x4_2 == 0) = false := beq_eq_false_iff_ne.mpr c10
                  have c10b1 : (x4_2 != 0) = true := bne_iff_ne.mpr c10
                  replace H := Option.bind_eq_some_iff.mp H
                  obtain ⟨t105, A110, H⟩ := H
                  replace H : (if x3_2.size + t105.size ≤ 9223372036854775807 then (wainloadref03_PutSeconds.l0 k2 (x3_2 ++ t105) (Int.tmod (wrap64 (x4_2 * 10)) 1000000000)) else (none)) = some r := H
                  have A11 := Aside0.mk A110
                  clear A110
                  by_cases c12 : x3_2.size + t105.size ≤ 9223372036854775807
                  · rw [if_pos c12] at H
                    have c12b0 := eq_true c12
                    have c12b1 : decide (x3_2.size + t105.size ≤ 9223372036854775807) = true := decide_eq_true c12
                    try have c12b2 : (9223372036854775807 < x3_2.size + t105.size) = False := eq_false (Nat.not_lt.2 c12)
                    have H' := Aside0.mk H
                    clear H
                    go_wp2_with (first | ((with_reducible refine gate_callee (f := 39) rfl ?_); refine goesL_ (some 28) rfl rfl Tryd.func39 (by kernel_rfl) rfl #[.int .i64 (wrap64 (Int.tdiv (wrap64 (x4_2 * 10)) 1000000000))] rfl (by (try simp only [List.map_toArray, List.map_cons, List.map_nil]); first | done | rfl | (simp only [List.length_drop, List.length_take]; rfl)) ?_; (with_reducible refine (Go.Proofs.YtngkbmlmlfofdaaDoor.HA.wainloadref03_below.calls k2 (wrap64 (Int.tdiv (wrap64 (x4_2 * 10)) 1000000000)) t105 _ A11.out).mono ?_); rintro e w13 ⟨rfl, hb⟩; refine ⟨_, rfl, ?_⟩; have n0_ := Aside0.mk (below_step (by repeat (first | (with_reducible first | exact HB.out | apply below_alloc | apply pw_below_drewN | apply below_drew1) | exact HB.out)) hb); clear HB; have HB := n0_; clear n0_; (try clear hb); (try clear hb2); (try clear hk); (try clear hi)))
                    go_roundg k2
                    case measure => have := HJ1.out; have := HK2.out; omega
                    case rel => exact ⟨(x3_2 ++ t105), (Int.tmod (wrap64 (x4_2 * 10)) 1000000000), (by first | rfl | (simp; done) | (simp [*]; done)), (by first | rfl | (simp; done) | (simp [*]; done)), H', ⟨by have := HJ1.out; have := HK2.out; omega⟩, ⟨by repeat (first | (with_reducible first | exact HB.out | apply below_alloc | apply pw_below_drewN | apply below_drew1) | exact HB.out)⟩⟩
                  · rw [if_neg c12] at H
                    exact absurd H (by simp)
          · rw [if_neg c8] at H
            exact absurd H (by simp)
      · rw [if_neg c5] at H
        exact absurd H (by simp)

/-! ### fields_Le: function 19 -/
def fields_Le.l0 : Nat → Int → List Int → Int → Int → Option (Int)
  | 0, _, _, _, _ => none
  | k + 1, x3, x10, x11, x12 => if x12 < x11 then (if 0 ≤ x12 then (if x12 < (x10.length : Int) then (if 0 ≤ (wrap64 (8 * x12)) then (fields_Le.l0 k (Go.bits .or .u64 x3 (shl .u64 (IntKind.u64.wrap (rd x10 x12)) (wrap64 (8 * x12)))) x10 x11 (wrap64 (x12 + 1))) else (none)) else (none)) else (none)) else (some x3)
def fields_Le.f (k : Nat) (l0 : List Int) : Option (Int) := if 0 ≤ (mn (l0.length : Int) 8) then (if (mn (l0.length : Int) 8) ≤ (l0.length : Int) then (fields_Le.l0 k 0 (l0.take ((mn (l0.length : Int) 8) : Int).toNat) ((l0.take ((mn (l0.length : Int) 8) : Int).toNat).length : Int) 0) else (none)) else (none)
theorem fields_Le.mono_l : ∀ k, (∀ y0 y1 y2 y3, LeO (fields_Le.l0 k y0 y1 y2 y3) (fields_Le.l0 (k + 1) y0 y1 y2 y3))
  | 0 => fun _ _ _ _ r h => by simp [fields_Le.l0] at h
  | k + 1 => by
    have ih0 := fields_Le.mono_l k
    · intro y0 y1 y2 y3
      unfold fields_Le.l0
      repeat' first
      | (with_reducible exact ih0 _ _ _ _)
      | (with_reducible exact LeO.refl _)
      | (with_reducible exact LeO.none _)
      | (with_reducible refine LeO.ite ?_ ?_)
      | (with_reducible refine LeO.bind ?_ (fun _ => ?_))
      | exact ih0 _ _ _ _
      | exact LeO.none _
      | refine LeO.ite ?_ ?_
      | refine LeO.bind ?_ (fun _ => ?_)
theorem fields_Le.mono : ∀ a0 k, LeO (fields_Le.f k a0) (fields_Le.f (k + 1) a0) := by
  intro a0 k
  have ih0 := fields_Le.mono_l k
  unfold fields_Le.f
  repeat' first
      | (with_reducible exact ih0 _ _ _ _)
      | (with_reducible exact LeO.refl _)
      | (with_reducible exact LeO.none _)
      | (with_reducible refine LeO.ite ?_ ?_)
      | (with_reducible refine LeO.bind ?_ (fun _ => ?_))
      | exact ih0 _ _ _ _
      | exact LeO.none _
      | refine LeO.ite ?_ ?_
      | refine LeO.bind ?_ (fun _ => ?_)
set_option maxHeartbeats 8000000 in
set_option maxRecDepth 100000 in
theorem fields_Le.calls (k : Nat) (A0 : Option Addr) (c0 : Nat) (l0 : List Int) (r : Int) (w : World) (hr0 : Kd.C (Kd.int .u8) w A0 l0.length l0) (hc0 : l0.length ≤ c0) (h : fields_Le.f k l0 = some r) :
    Calls Tryd.prog 19 #[.slice A0 l0.length c0] w fun e w' => e = .returned (.int .u64 r) ∧ Below w.heap.size w w' := by
  have HR0 := Aside0.mk hr0
  have HC0 := Aside0.mk hc0
  clear hr0 hc0
  have HB := Aside0.mk (Below.refl w.heap.size w)
  have H : (if 0 ≤ (mn (l0.length : Int) 8) then (if (mn (l0.length : Int) 8) ≤ (l0.length : Int) then (fields_Le.l0 k 0 (l0.take ((mn (l0.length : Int) 8) : Int).toNat) ((l0.take ((mn (l0.length : Int) 8) : Int).toNat).length : Int) 0) else (none)) else (none)) = some r := h
  clear h
  obtain ⟨ji2, hji2⟩ : ∃ j_ : Int, (mn (l0.length : Int) 8) = j_ := ⟨_, rfl⟩
  replace H : (if 0 ≤ (ji2) then (if (ji2) ≤ (l0.length : Int) then (fields_Le.l0 k 0 (l0.take ((ji2) : Int).toNat) ((l0.take ((ji2) : Int).toNat).length : Int) 0) else (none)) else (none)) = some r := by first | (rw [hji2] at H; exact H) | (simp only [hji2] at H ⊢; exact H)
  (try (have hji2h : ji2 ≤ 8 := by (rw [← hji2]; unfold mn; (repeat' split) <;> omega)))
  (try (have hji2g : ji2 ≤ 64 := by omega))
  (try (have hji2l : 0 ≤ ji2 := by (rw [← hji2]; unfold mn; (repeat' split) <;> omega)))
  (try (have hji2m : 0 ≤ ji2 := by omega))
  have hji2_ : (if 8 < (l0.length : Int) then 8 else (l0.length : Int)) = ji2 := hji2
  by_cases c3 : 0 ≤ (ji2)
  · rw [if_pos c3] at H
    have c3b0 := eq_true c3
    have c3b1 : decide (0 ≤ (ji2)) = true := decide_eq_true c3
    clear c3
    by_cases c4 : (ji2) ≤ (l0.length : Int)
    · rw [if_pos c4] at H
      have c4b0 := eq_true c4
      have c4b1 : decide ((ji2) ≤ (l0.length : Int)) = true := decide_eq_true c4
      clear c4
      have H' := Aside0.mk H
      clear H
      obtain ⟨i05, hi05, _, hsz5, _⟩ := info_parts info5
      obtain ⟨hcut5, hA5, hC5⟩ := print_take_of (P := Tryd.prog) (Value.int .u8) 0 22 5 .i64 Tryd.underlying22 hi05 hsz5 A0 c0 l0 (ji2) (of_decide_eq_true (by first | (with_reducible assumption) | assumption)) (of_decide_eq_true (by first | (with_reducible assumption) | assumption)) HC0.out
      have HR106 := Aside0.mk (Kd.C_of_reads (h1 := fun _ => rfl) (hA5 _ (Kd.reads_of_C HR0.out)))
      have HC106 := Aside0.mk hC5
      clear hA5 hC5 hi05 hsz5
      go_enter Tryd.func19, Tryd.ntmps19
      go_wp2
      go_loopg [3, 12] k (fun kq v3 v12 w' => ∃ (x3_1 : Int) (x12_1 : Int), v3 = .int .u64 x3_1 ∧ v12 = .int .i64 x12_1 ∧ Aside0 (fields_Le.l0 kq x3_1 (l0.take ((ji2) : Int).toNat) ((l0.take ((ji2) : Int).toNat).length : Int) x12_1 = some r) ∧ Aside0 (kq ≤ k) ∧ Aside0 (Below w.heap.size w w'))
      case atStart => exact ⟨(0), (0), (by first | rfl | (simp; done) | (simp [*]; done)), (by first | rfl | (simp; done) | (simp [*]; done)), H', ⟨Nat.le_refl _⟩, ⟨by repeat (first | (with_reducible first | exact HB.out | apply below_alloc | apply pw_below_drewN | apply below_drew1) | exact HB.out)⟩⟩
      case round =>
        clear H'
        try clear c1
        try clear p2
        try clear c3
        try clear c3b0
        try clear c3b1
        try clear c4
        try clear c4b0
        try clear c4b1
        obtain ⟨x3_1, x12_1, rfl, rfl, HA, HK1, HB⟩ := hrel
        cases gk with
        | zero => exact absurd HA.out (by simp [fields_Le.l0])
        | succ k1 =>
          have H := HA.out
          clear HA
          simp only [fields_Le.l0] at H
          by_cases c6 : x12_1 < ((l0.take ((ji2) : Int).toNat).length : Int)
          · rw [if_pos c6] at H
            have c6b0 : decide (x12_1 < ((l0.take ((ji2) : Int).toNat).length : Int)) = true := decide_eq_true c6
            have c6b0x := c6b0
            rw [show ((l0.take ((ji2) : Int).toNat).length : Int) = max (ji2) 0 by (rw [List.length_take]; have hq_ : (ji2) ≤ (l0.length : Int) := by (rw [← hji2]; unfold mn; split <;> omega)); omega] at c6b0x
            clear c6
            by_cases c7 : 0 ≤ x12_1
            · rw [if_pos c7] at H
              have c7b0 : decide (0 ≤ x12_1) = true := decide_eq_true c7
              clear c7
              by_cases c8 : x12_1 < ((l0.take ((ji2) : Int).toNat).length : Int)
              · rw [if_pos c8] at H
                have c8b0 : decide (x12_1 < ((l0.take ((ji2) : Int).toNat).length : Int)) = true := decide_eq_true c8
                have c8b0x := c8b0
                rw [show ((l0.take ((ji2) : Int).toNat).length : Int) = max (ji2) 0 by (rw [List.length_take]; have hq_ : (ji2) ≤ (l0.length : Int) := by (rw [← hji2]; unfold mn; split <;> omega)); omega] at c8b0x
                clear c8
                obtain ⟨ji9, hji9⟩ : ∃ j_ : Int, (wrap64 (8 * x12_1)) = j_ := ⟨_, rfl⟩
                replace H : (if 0 ≤ (ji9) then (fields_Le.l0 k1 (Go.bits .or .u64 x3_1 (shl .u64 (IntKind.u64.wrap (rd (l0.take ((ji2) : Int).toNat) x12_1)) (ji9))) (l0.take ((ji2) : Int).toNat) ((l0.take ((ji2) : Int).toNat).length : Int) (wrap64 (x12_1 + 1))) else (none)) = some r := by first | (rw [hji9] at H; exact H) | (simp only [hji9] at H ⊢; exact H)
                have hji9w : (IntKind.i64.wrap (8 * x12_1)) = ji9 := (i64_w _).trans hji9
                by_cases c10 : 0 ≤ (ji9)
                · rw [if_pos c10] at H
                  have c10b0 := eq_true c10
                  have c10b1 : decide (0 ≤ (ji9)) = true := decide_eq_true c10
                  clear c10
                  obtain ⟨ji11, hji11⟩ : ∃ j_ : Int, (shl .u64 (IntKind.u64.wrap (rd (l0.take ((ji2) : Int).toNat) x12_1)) (ji9)) = j_ := ⟨_, rfl⟩
                  replace H : (fields_Le.l0 k1 (Go.bits .or .u64 x3_1 (ji11)) (l0.take ((ji2) : Int).toNat) ((l0.take ((ji2) : Int).toNat).length : Int) (wrap64 (x12_1 + 1))) = some r := by first | (rw [hji11] at H; exact H) | (simp only [hji11] at H ⊢; exact H)
                  have hji11_ : (IntKind.u64.wrap ((IntKind.u64.wrap (rd (l0.take ((ji2) : Int).toNat) x12_1)) * 2 ^ min (ji9).toNat 64)) = ji11 := hji11
                  have hji11z : (ji9) ≤ 64 → (IntKind.u64.wrap ((IntKind.u64.wrap (rd (l0.take ((ji2) : Int).toNat) x12_1)) * 2 ^ (ji9).toNat)) = ji11 := shl_small hji11
                  have H' := Aside0.mk H
                  clear H
                  have p107 : 0 ≤ (x12_1 : Int) := of_decide_eq_true (by first | (with_reducible assumption) | assumption)
                  have q107 : x12_1 < ((l0.take ((ji2) : Int).toNat).length : Int) := of_decide_eq_true (by first | (with_reducible assumption) | assumption)
                  obtain ⟨ad107, e107, hx107_0⟩ := Kd.at_int HR106.out x12_1 p107 q107
                  cases e107
                  replace hx107_0 := (HB.out.cell (World.block_lt_of_cell? w _ hx107_0)).trans hx107_0
                  replace p107 := eq_true p107
                  replace q107 := eq_true q107
                  try have q107x : (x12_1 < max (ji2) 0) = True := eq_true (of_decide_eq_true c8b0x)
                  go_wp2
                  go_roundg k1
                  case measure => have := HK1.out; omega
                  case rel => exact ⟨(Go.bits .or .u64 x3_1 (ji11)), (wrap64 (x12_1 + 1)), (by first | rfl | (simp; done) | (simp only [← hji11] <;> (first | rfl | simp)) | (simp [*]; done)), (by first | rfl | (simp; done) | (simp [*]; done)), H', ⟨by have := HK1.out; omega⟩, ⟨by repeat (first | (with_reducible first | exact HB.out | apply below_alloc | apply pw_below_drewN | apply below_drew1) | exact HB.out)⟩⟩
                · rw [if_neg c10] at H
                  exact absurd H (by simp)
              · rw [if_neg c8] at H
                exact absurd H (by simp)
            · rw [if_neg c7] at H
              exact absurd H (by simp)
          · rw [if_neg c6] at H
            have c6b0 : decide (x12_1 < ((l0.take ((ji2) : Int).toNat).length : Int)) = false := decide_eq_false c6
            have c6b0x := c6b0
            rw [show ((l0.take ((ji2) : Int).toNat).length : Int) = max (ji2) 0 by (rw [List.length_take]; have hq_ : (ji2) ≤ (l0.length : Int) := by (rw [← hji2]; unfold mn; split <;> omega)); omega] at c6b0x
            clear c6
            obtain rfl := Option.some.inj H
            go_wp2
            go_ret
            exact ⟨by first | rfl | (simp [errW_none, errW_some] <;> rfl) | (simp only [← hji2]; first | rfl | (simp [errW_none, errW_some] <;> rfl)) | (simp [*, errW_none, errW_some] <;> rfl), by repeat (first | (with_reducible first | exact HB.out | apply below_alloc | apply pw_below_drewN | apply below_drew1) | exact HB.out)⟩
    · rw [if_neg c4] at H
      exact absurd H (by simp)
  · rw [if_neg c3] at H
    exact absurd H (by simp)

end Go.Proofs.YtngkbmlmlfofdaaDoor.HC
