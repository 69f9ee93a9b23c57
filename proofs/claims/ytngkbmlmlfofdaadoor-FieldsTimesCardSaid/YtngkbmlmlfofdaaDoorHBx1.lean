/- What calls of these Go functions come to, as plain Lean functions, each with its proof; printed for this claim by a program of this session. -/
import Derived.Test.YtngkbmlmlfofdaaDoorHBx0
namespace Go.Proofs.YtngkbmlmlfofdaaDoor.HB
open Go.Proofs.YtngkbmlmlfofdaaDoor.HA
open Go.RowKit Go.Proofs.YtngkbmlmlfofdaaDoorW.PrintWords Go.Proofs.YtngkbmlmlfofdaaDoorW.PrintLast Go.Proofs.YtngkbmlmlfofdaaDoorW.PrintMore
attribute [local go_sem] max2_int min2_int max_two min_two max_three min_three max_four min_four   -- for this text's walks alone
set_option linter.unusedVariables false
set_option linter.unusedSimpArgs false

/-! ### fields_Decimal: function 23 -/
def fields_Decimal.j0 : Nat → Bool → Int → Bool → Option (Int × Int)
  | 0, _, _, _ => none
  | k + 1, x5, x6, x18 => if x18 = true then (some (0, 30)) else (if x6 < 0 then (some (0, 31)) else (if x5 = true then (some (wrap64 (-x6), 0)) else (some (x6, 0))))
def fields_Decimal.f (k : Nat) (a0 : ByteArray) : Option (Int × Int) := (Go.Proofs.YtngkbmlmlfofdaaDoor.HA.strings_CutPrefix.f a0 (⟨#[45]⟩ : ByteArray)).bind fun bt101 => ((Go.Proofs.YtngkbmlmlfofdaaDoor.G.fields_digits.f bt101.1 10).bind fun bt103 => (if bt103.2 = 0 then (fields_Decimal.j0 k bt101.2 bt103.1 true) else (fields_Decimal.j0 k bt101.2 bt103.1 (decide (bt103.2 < (bt101.1.size : Int))))))
theorem fields_Decimal.mono_l : ∀ k, (∀ y0 y1 y2, LeO (fields_Decimal.j0 k y0 y1 y2) (fields_Decimal.j0 (k + 1) y0 y1 y2))
  | 0 => fun _ _ _ r h => by simp [fields_Decimal.j0] at h
  | k + 1 => by
    have ih0 := fields_Decimal.mono_l k
    · intro y0 y1 y2
      unfold fields_Decimal.j0
      repeat' first
      | (with_reducible exact ih0 _ _ _)
      | (with_reducible exact LeO.refl _)
      | (with_reducible exact LeO.none _)
      | (with_reducible refine LeO.ite ?_ ?_)
      | (with_reducible refine LeO.bind ?_ (fun _ => ?_))
      | exact ih0 _ _ _
      | exact LeO.none _
      | refine LeO.ite ?_ ?_
      | refine LeO.bind ?_ (fun _ => ?_)
theorem fields_Decimal.mono : ∀ a0 k, LeO (fields_Decimal.f k a0) (fields_Decimal.f (k + 1) a0) := by
  intro a0 k
  have ih0 := fields_Decimal.mono_l k
  unfold fields_Decimal.f
  repeat' first
      | (with_reducible exact ih0 _ _ _)
      | (with_reducible exact LeO.refl _)
      | (with_reducible exact LeO.none _)
      | (with_reducible refine LeO.ite ?_ ?_)
      | (with_reducible refine LeO.bind ?_ (fun _ => ?_))
      | exact ih0 _ _ _
      | exact LeO.none _
      | refine LeO.ite ?_ ?_
      | refine LeO.bind ?_ (fun _ => ?_)
set_option maxHeartbeats 8000000 in
set_option maxRecDepth 100000 in
theorem fields_Decimal.calls (k : Nat) (a0 : ByteArray) (r1 : Int) (r2 : Int) (w : World) (h : fields_Decimal.f k a0 = some (r1, r2)) :
    Calls Tryd.prog 23 #[.string a0] w fun e w' => e = .returned (.tuple #[.int .i64 r1, .int .i64 r2]) ∧ Below w.heap.size w w' := by
  have HB := Aside0.mk (Below.refl w.heap.size w)
  have H : ((Go.Proofs.YtngkbmlmlfofdaaDoor.HA.strings_CutPrefix.f a0 (⟨#[45]⟩ : ByteArray)).bind fun bt101 => ((Go.Proofs.YtngkbmlmlfofdaaDoor.G.fields_digits.f bt101.1 10).bind fun bt103 => (if bt103.2 = 0 then (fields_Decimal.j0 k bt101.2 bt103.1 true) else (fields_Decimal.j0 k bt101.2 bt103.1 (decide (bt103.2 < (bt101.1.size : Int))))))) = some (r1, r2) := h
  clear h
  replace H := Option.bind_eq_some_iff.mp H
  obtain ⟨⟨t101, t102⟩, A20, H⟩ := H
  replace H : ((Go.Proofs.YtngkbmlmlfofdaaDoor.G.fields_digits.f t101 10).bind fun bt103 => (if bt103.2 = 0 then (fields_Decimal.j0 k t102 bt103.1 true) else (fields_Decimal.j0 k t102 bt103.1 (decide (bt103.2 < (t101.size : Int)))))) = some (r1, r2) := H
  have A2 := Aside0.mk A20
  clear A20
  replace H := Option.bind_eq_some_iff.mp H
  obtain ⟨⟨t103, t104⟩, A30, H⟩ := H
  replace H : (if t104 = 0 then (fields_Decimal.j0 k t102 t103 true) else (fields_Decimal.j0 k t102 t103 (decide (t104 < (t101.size : Int))))) = some (r1, r2) := H
  have A3 := Aside0.mk A30
  clear A30
  have HC4 := Aside0.mk H
  clear H
  go_enter Tryd.func23, Tryd.ntmps23
  go_upto_region 3 with (first | ((with_reducible refine gate_callee (f := 33) rfl ?_); refine goesL_ (some 10) rfl rfl Tryd.func33 (by kernel_rfl) rfl #[.string a0, .string (⟨#[45]⟩ : ByteArray)] rfl (by (try simp only [List.map_toArray, List.map_cons, List.map_nil]); first | done | rfl | (simp only [List.length_drop, List.length_take]; rfl)) ?_; (with_reducible refine (Go.Proofs.YtngkbmlmlfofdaaDoor.HA.strings_CutPrefix.calls a0 (⟨#[45]⟩ : ByteArray) t101 t102 _ A2.out).mono ?_); rintro e w' ⟨rfl, ⟨nd, rfl⟩⟩; refine ⟨_, rfl, ?_⟩) | ((with_reducible refine gate_callee (f := 27) rfl ?_); refine goesL_ (some 15) rfl rfl Tryd.func27 (by kernel_rfl) rfl #[.string t101, .int .i64 10] rfl (by (try simp only [List.map_toArray, List.map_cons, List.map_nil]); first | done | rfl | (simp only [List.length_drop, List.length_take]; rfl)) ?_; (with_reducible refine (Go.Proofs.YtngkbmlmlfofdaaDoor.G.fields_digits.calls t101 10 t103 t104 _ A3.out).mono ?_); rintro e w5 ⟨rfl, hb⟩; refine ⟨_, rfl, ?_⟩; have n0_ := Aside0.mk (below_step (by repeat (first | (with_reducible first | exact HB.out | apply below_alloc | apply pw_below_drewN | apply below_drew1) | exact HB.out)) hb); clear HB; have HB := n0_; clear n0_; (try clear hb); (try clear hb2); (try clear hk); (try clear hi)))
  (try simp only [Act.put, List.setIfInBounds_toArray, List.set_cons_zero, List.set_cons_succ])
  go_cut [18] (fun v18 wc => ∃ (kq : Nat) (x18_3 : Bool), v18 = .bool x18_3 ∧ Aside0 (fields_Decimal.j0 kq t102 t103 x18_3 = some (r1, r2)) ∧ Aside0 (kq ≤ k) ∧ Aside0 (Below w.heap.size w wc))
  case first =>
    have H := HC4.out
    clear HC4
    by_cases c6 : t104 = 0
    · rw [if_pos c6] at H
      have c6b0 : (t104 == 0) = true := beq_iff_eq.mpr c6
      have c6b1 : (t104 != 0) = false := bne_eq_false_iff_eq.mpr c6
      clear c6
      (first | rw [c6b0] | (simp only [i64_w, i32_w]; rw [c6b0]) | skip)
      have H' := Aside0.mk H
      clear H
      go_wp2
      go_meet
      case rel => exact ⟨_, (true), (by first | rfl | (simp; done) | (simp [*]; done)), H', ⟨by first | omega | exact Nat.le_refl _⟩, ⟨by repeat (first | (with_reducible first | exact HB.out | apply below_alloc | apply pw_below_drewN | apply below_drew1) | exact HB.out)⟩⟩
    · rw [if_neg c6] at H
      have c6b0 : (t104 == 0) = false := beq_eq_false_iff_ne.mpr c6
      have c6b1 : (t104 != 0) = true := bne_iff_ne.mpr c6
      (first | rw [c6b0] | (simp only [i64_w, i32_w]; rw [c6b0]) | skip)
      have H' := Aside0.mk H
      clear H
      go_wp2
      go_meet
      case rel => exact ⟨_, (decide (t104 < (t101.size : Int))), (by first | rfl | (simp; done) | (simp [*]; done)), H', ⟨by first | omega | exact Nat.le_refl _⟩, ⟨by repeat (first | (with_reducible first | exact HB.out | apply below_alloc | apply pw_below_drewN | apply below_drew1) | exact HB.out)⟩⟩
  case rest =>
    clear HC4
    try clear c2
    try clear p2
    try clear c3
    try clear c6
    try clear c6b0
    try clear c6b1
    obtain ⟨kq, x18_3, rfl, HA, HJ3, HB⟩ := hcut
    cases kq with
    | zero => exact absurd HA.out (by simp [fields_Decimal.j0])
    | succ kj3 =>
      have H := HA.out
      clear HA
      simp only [fields_Decimal.j0] at H
      by_cases c7 : x18_3 = true
      · subst c7
        have H1 : (some (0, 30)) = some (r1, r2) := by rw [if_pos rfl] at H; exact H
        clear H
        have H := H1
        clear H1
        simp only [Option.some.injEq, Prod.mk.injEq] at H
        obtain ⟨rfl, rfl⟩ := H
        go_wp2
        go_ret2
        exact ⟨by first | rfl | (simp [errW_none, errW_some] <;> rfl) | (simp [*, errW_none, errW_some] <;> rfl), by repeat (first | (with_reducible first | exact HB.out | apply below_alloc | apply pw_below_drewN | apply below_drew1) | exact HB.out)⟩
      · replace c7 := Bool.eq_false_iff.mpr c7
        subst c7
        have H1 : (if t103 < 0 then (some (0, 31)) else (if t102 = true then (some (wrap64 (-t103), 0)) else (some (t103, 0)))) = some (r1, r2) := by rw [if_neg (show ¬ (false = true) by decide)] at H; exact H
        clear H
        have H := H1
        clear H1
        by_cases c8 : t103 < 0
        · rw [if_pos c8] at H
          have c8b0 : decide (t103 < 0) = true := decide_eq_true c8
          clear c8
          simp only [Option.some.injEq, Prod.mk.injEq] at H
          obtain ⟨rfl, rfl⟩ := H
          go_wp2
          go_ret2
          exact ⟨by first | rfl | (simp [errW_none, errW_some] <;> rfl) | (simp [*, errW_none, errW_some] <;> rfl), by repeat (first | (with_reducible first | exact HB.out | apply below_alloc | apply pw_below_drewN | apply below_drew1) | exact HB.out)⟩
        · rw [if_neg c8] at H
          have c8b0 : decide (t103 < 0) = false := decide_eq_false c8
          clear c8
          by_cases c9 : t102 = true
          · subst c9
            have H1 : (some (wrap64 (-t103), 0)) = some (r1, r2) := by rw [if_pos rfl] at H; exact H
            clear H
            have H := H1
            clear H1
            simp only [Option.some.injEq, Prod.mk.injEq] at H
            obtain ⟨rfl, rfl⟩ := H
            go_wp2
            go_ret2
            exact ⟨by first | rfl | (simp [errW_none, errW_some] <;> rfl) | (simp [*, errW_none, errW_some] <;> rfl), by repeat (first | (with_reducible first | exact HB.out | apply below_alloc | apply pw_below_drewN | apply below_drew1) | exact HB.out)⟩
          · replace c9 := Bool.eq_false_iff.mpr c9
            subst c9
            have H1 : (some (t103, 0)) = some (r1, r2) := by rw [if_neg (show ¬ (false = true) by decide)] at H; exact H
            clear H
            have H := H1
            clear H1
            simp only [Option.some.injEq, Prod.mk.injEq] at H
            obtain ⟨rfl, rfl⟩ := H
            go_wp2
            go_ret2
            exact ⟨by first | rfl | (simp [errW_none, errW_some] <;> rfl) | (simp [*, errW_none, errW_some] <;> rfl), by repeat (first | (with_reducible first | exact HB.out | apply below_alloc | apply pw_below_drewN | apply below_drew1) | exact HB.out)⟩

-- NOT PRINTED: function 89 (bytealg_IndexByteString)

-- NOT PRINTED: function 81 (stringslite_IndexByte)

-- NOT PRINTED: function 82 (bytealg_IndexString)

-- NOT PRINTED: function 83 (bytealg_Cutover)

-- NOT PRINTED: function 90 (bytealg_hashStr_string)

-- NOT PRINTED: function 84 (bytealg_IndexRabinKarp_string)

/-! ### stringslite_Cut: function 55 -/
def stringslite_Cut.f (a0 : ByteArray) (a1 : ByteArray) : Option (ByteArray × ByteArray × Bool) := (Go.Proofs.YtngkbmlmlfofdaaDoor.G.stringslite_Index.f a0 a1).bind fun t105 => (if t105 ≥ 0 then (if 0 ≤ t105 then (if t105 ≤ (a0.size : Int) then (if 0 ≤ (wrap64 (t105 + (a1.size : Int))) then (if (wrap64 (t105 + (a1.size : Int))) ≤ (a0.size : Int) then (some (a0.extract 0 (t105 : Int).toNat, a0.extract ((wrap64 (t105 + (a1.size : Int))) : Int).toNat a0.size, true)) else (none)) else (none)) else (none)) else (none)) else (some (a0, (⟨#[]⟩ : ByteArray), false)))
set_option maxHeartbeats 8000000 in
set_option maxRecDepth 100000 in
theorem stringslite_Cut.calls (a0 : ByteArray) (a1 : ByteArray) (r1 : ByteArray) (r2 : ByteArray) (r3 : Bool) (w : World) (h : stringslite_Cut.f a0 a1 = some (r1, r2, r3)) :
    Calls Tryd.prog 55 #[.string a0, .string a1] w fun e w' => e = .returned (.tuple #[.string r1, .string r2, .bool r3]) ∧ Drawn0 w w' := by
  have H : ((Go.Proofs.YtngkbmlmlfofdaaDoor.G.stringslite_Index.f a0 a1).bind fun t105 => (if t105 ≥ 0 then (if 0 ≤ t105 then (if t105 ≤ (a0.size : Int) then (if 0 ≤ (wrap64 (t105 + (a1.size : Int))) then (if (wrap64 (t105 + (a1.size : Int))) ≤ (a0.size : Int) then (some (a0.extract 0 (t105 : Int).toNat, a0.extract ((wrap64 (t105 + (a1.size : Int))) : Int).toNat a0.size, true)) else (none)) else (none)) else (none)) else (none)) else (some (a0, (⟨#[]⟩ : ByteArray), false)))) = some (r1, r2, r3) := h
  clear h
  replace H := Option.bind_eq_some_iff.mp H
  obtain ⟨t105, A30, H⟩ := H
  replace H : (if t105 ≥ 0 then (if 0 ≤ t105 then (if t105 ≤ (a0.size : Int) then (if 0 ≤ (wrap64 (t105 + (a1.size : Int))) then (if (wrap64 (t105 + (a1.size : Int))) ≤ (a0.size : Int) then (some (a0.extract 0 (t105 : Int).toNat, a0.extract ((wrap64 (t105 + (a1.size : Int))) : Int).toNat a0.size, true)) else (none)) else (none)) else (none)) else (none)) else (some (a0, (⟨#[]⟩ : ByteArray), false))) = some (r1, r2, r3) := H
  have A3 := Aside0.mk A30
  clear A30
  by_cases c4 : t105 ≥ 0
  · rw [if_pos c4] at H
    have c4b0 : decide (0 ≤ t105) = true := decide_eq_true c4
    clear c4
    by_cases c5 : 0 ≤ t105
    · rw [if_pos c5] at H
      have c5b0 := eq_true c5
      have c5b1 : decide (0 ≤ t105) = true := decide_eq_true c5
      clear c5
      by_cases c6 : t105 ≤ (a0.size : Int)
      · rw [if_pos c6] at H
        have c6b0 := eq_true c6
        have c6b1 : decide (t105 ≤ (a0.size : Int)) = true := decide_eq_true c6
        clear c6
        obtain ⟨ji7, hji7⟩ : ∃ j_ : Int, (wrap64 (t105 + (a1.size : Int))) = j_ := ⟨_, rfl⟩
        replace H : (if 0 ≤ (ji7) then (if (ji7) ≤ (a0.size : Int) then (some (a0.extract 0 (t105 : Int).toNat, a0.extract ((ji7) : Int).toNat a0.size, true)) else (none)) else (none)) = some (r1, r2, r3) := by first | (rw [hji7] at H; exact H) | (simp only [hji7] at H ⊢; exact H)
        (try rw [hji7] at A3)
        have hji7w : (IntKind.i64.wrap (t105 + (a1.size : Int))) = ji7 := (i64_w _).trans hji7
        by_cases c8 : 0 ≤ (ji7)
        · rw [if_pos c8] at H
          have c8b0 := eq_true c8
          have c8b1 : decide (0 ≤ (ji7)) = true := decide_eq_true c8
          clear c8
          by_cases c9 : (ji7) ≤ (a0.size : Int)
          · rw [if_pos c9] at H
            have c9b0 := eq_true c9
            have c9b1 : decide ((ji7) ≤ (a0.size : Int)) = true := decide_eq_true c9
            clear c9
            simp only [Option.some.injEq, Prod.mk.injEq] at H
            obtain ⟨rfl, rfl, rfl⟩ := H
            go_enter Tryd.func55, Tryd.ntmps55
            go_wp2_with (first | (go_at_call 70; (with_reducible refine (Go.Proofs.YtngkbmlmlfofdaaDoor.G.stringslite_Index.calls a0 a1 t105 _ A3.out).mono ?_); rintro e w' ⟨rfl, ⟨nd, rfl⟩⟩; (try first | exact ⟨rfl, _, World.drewN_drewN _ _ _⟩ | exact ⟨rfl, _, Eq.trans (World.drewN_drewN _ _ _) (congrArg (World.drewN _) (Nat.add_assoc _ _ _))⟩)))
            repeat (go_quiet (first | (go_at_call 70; (with_reducible refine (Go.Proofs.YtngkbmlmlfofdaaDoor.G.stringslite_Index.calls a0 a1 t105 _ A3.out).mono ?_); rintro e w' ⟨rfl, ⟨nd, rfl⟩⟩; (try first | exact ⟨rfl, _, World.drewN_drewN _ _ _⟩ | exact ⟨rfl, _, Eq.trans (World.drewN_drewN _ _ _) (congrArg (World.drewN _) (Nat.add_assoc _ _ _))⟩))); try go_wp2_with (first | (go_at_call 70; (with_reducible refine (Go.Proofs.YtngkbmlmlfofdaaDoor.G.stringslite_Index.calls a0 a1 t105 _ A3.out).mono ?_); rintro e w' ⟨rfl, ⟨nd, rfl⟩⟩; (try first | exact ⟨rfl, _, World.drewN_drewN _ _ _⟩ | exact ⟨rfl, _, Eq.trans (World.drewN_drewN _ _ _) (congrArg (World.drewN _) (Nat.add_assoc _ _ _))⟩))))
            go_ret3
            exact ⟨by first | rfl | (simp; done) | (simp only [← hji7] <;> (first | rfl | simp)) | (simp [*]; done), by repeat (first | exact Drawn0.refl _ | apply Drawn0.step)⟩
          · rw [if_neg c9] at H
            exact absurd H (by simp)
        · rw [if_neg c8] at H
          exact absurd H (by simp)
      · rw [if_neg c6] at H
        exact absurd H (by simp)
    · rw [if_neg c5] at H
      exact absurd H (by simp)
  · rw [if_neg c4] at H
    have c4b0 : decide (0 ≤ t105) = false := decide_eq_false c4
    clear c4
    simp only [Option.some.injEq, Prod.mk.injEq] at H
    obtain ⟨rfl, rfl, rfl⟩ := H
    go_enter Tryd.func55, Tryd.ntmps55
    go_wp2_with (first | (go_at_call 70; (with_reducible refine (Go.Proofs.YtngkbmlmlfofdaaDoor.G.stringslite_Index.calls a0 a1 t105 _ A3.out).mono ?_); rintro e w' ⟨rfl, ⟨nd, rfl⟩⟩; (try first | exact ⟨rfl, _, World.drewN_drewN _ _ _⟩ | exact ⟨rfl, _, Eq.trans (World.drewN_drewN _ _ _) (congrArg (World.drewN _) (Nat.add_assoc _ _ _))⟩)))
    repeat (go_quiet (first | (go_at_call 70; (with_reducible refine (Go.Proofs.YtngkbmlmlfofdaaDoor.G.stringslite_Index.calls a0 a1 t105 _ A3.out).mono ?_); rintro e w' ⟨rfl, ⟨nd, rfl⟩⟩; (try first | exact ⟨rfl, _, World.drewN_drewN _ _ _⟩ | exact ⟨rfl, _, Eq.trans (World.drewN_drewN _ _ _) (congrArg (World.drewN _) (Nat.add_assoc _ _ _))⟩))); try go_wp2_with (first | (go_at_call 70; (with_reducible refine (Go.Proofs.YtngkbmlmlfofdaaDoor.G.stringslite_Index.calls a0 a1 t105 _ A3.out).mono ?_); rintro e w' ⟨rfl, ⟨nd, rfl⟩⟩; (try first | exact ⟨rfl, _, World.drewN_drewN _ _ _⟩ | exact ⟨rfl, _, Eq.trans (World.drewN_drewN _ _ _) (congrArg (World.drewN _) (Nat.add_assoc _ _ _))⟩))))
    go_ret3
    exact ⟨by first | rfl | (simp; done) | (simp [*]; done), by repeat (first | exact Drawn0.refl _ | apply Drawn0.step)⟩

/-! ### strings_Cut: function 34 -/
def strings_Cut.f (a0 : ByteArray) (a1 : ByteArray) : Option (ByteArray × ByteArray × Bool) := (stringslite_Cut.f a0 a1).bind fun bt106 => (some (bt106.1, bt106.2.1, bt106.2.2))
set_option maxHeartbeats 8000000 in
set_option maxRecDepth 100000 in
theorem strings_Cut.calls (a0 : ByteArray) (a1 : ByteArray) (r1 : ByteArray) (r2 : ByteArray) (r3 : Bool) (w : World) (h : strings_Cut.f a0 a1 = some (r1, r2, r3)) :
    Calls Tryd.prog 34 #[.string a0, .string a1] w fun e w' => e = .returned (.tuple #[.string r1, .string r2, .bool r3]) ∧ Drawn0 w w' := by
  have H : ((stringslite_Cut.f a0 a1).bind fun bt106 => (some (bt106.1, bt106.2.1, bt106.2.2))) = some (r1, r2, r3) := h
  clear h
  replace H := Option.bind_eq_some_iff.mp H
  obtain ⟨⟨t106, t107, t108⟩, A30, H⟩ := H
  replace H : (some (t106, t107, t108)) = some (r1, r2, r3) := H
  have A3 := Aside0.mk A30
  clear A30
  simp only [Option.some.injEq, Prod.mk.injEq] at H
  obtain ⟨rfl, rfl, rfl⟩ := H
  go_enter Tryd.func34, Tryd.ntmps34
  go_wp2_with (first | ((with_reducible refine gate_callee (f := 55) rfl ?_); refine goesL_ (some 9) rfl rfl Tryd.func55 (by kernel_rfl) rfl #[.string a0, .string a1] rfl (by (try simp only [List.map_toArray, List.map_cons, List.map_nil]); first | done | rfl | (simp only [List.length_drop, List.length_take]; rfl)) ?_; (with_reducible refine (stringslite_Cut.calls a0 a1 t106 t107 t108 _ A3.out).mono ?_); rintro e w' ⟨rfl, ⟨nd, rfl⟩⟩; refine ⟨_, rfl, ?_⟩))
  go_ret3
  exact ⟨by first | rfl | (simp; done) | (simp [*]; done), by repeat (first | exact Drawn0.refl _ | apply Drawn0.step)⟩

/-! ### fields_Seconds: function 15 -/
mutual
def fields_Seconds.j0 : Nat → Bool → ByteArray → Int → Bool → Option (Int × Int)
  | 0, _, _, _, _ => none
  | k + 1, x5, x7, x9, x37 => if x37 = true then (some (0, 30)) else (if x9 < 0 then (fields_Seconds.j1 k x5 x7 x9 true) else (fields_Seconds.j1 k x5 x7 x9 (decide (x9 > 9000000000))))
def fields_Seconds.j1 : Nat → Bool → ByteArray → Int → Bool → Option (Int × Int)
  | 0, _, _, _, _ => none
  | k + 1, x5, x7, x9, x59 => if x59 = true then (some (0, 31)) else (if x7.size + 9 ≤ 9223372036854775807 then (if 0 ≤ 9 then (if 9 ≤ ((x7 ++ (⟨#[48, 48, 48, 48, 48, 48, 48, 48, 48]⟩ : ByteArray)).size : Int) then ((Go.Proofs.YtngkbmlmlfofdaaDoor.G.fields_digits.f ((x7 ++ (⟨#[48, 48, 48, 48, 48, 48, 48, 48, 48]⟩ : ByteArray)).extract 0 9) 10).bind fun bt118 => (if x5 = true then (some (wrap64 (-(wrap64 ((wrap64 (x9 * 1000000000)) + bt118.1))), 0)) else (some (wrap64 ((wrap64 (x9 * 1000000000)) + bt118.1), 0)))) else (none)) else (none)) else (none))
end
def fields_Seconds.f (k : Nat) (a0 : ByteArray) : Option (Int × Int) := (Go.Proofs.YtngkbmlmlfofdaaDoor.HA.strings_CutPrefix.f a0 (⟨#[45]⟩ : ByteArray)).bind fun bt109 => ((strings_Cut.f bt109.1 (⟨#[46]⟩ : ByteArray)).bind fun bt111 => ((Go.Proofs.YtngkbmlmlfofdaaDoor.G.fields_digits.f bt111.1 10).bind fun bt114 => ((Go.Proofs.YtngkbmlmlfofdaaDoor.G.fields_digits.f bt111.2.1 10).bind fun bt116 => (if bt114.2 = 0 then (fields_Seconds.j0 k bt109.2 bt111.2.1 bt114.1 true) else (if bt114.2 < (bt111.1.size : Int) then (fields_Seconds.j0 k bt109.2 bt111.2.1 bt114.1 true) else (if bt111.2.2 = true then (if bt116.2 = 0 then (fields_Seconds.j0 k bt109.2 bt111.2.1 bt114.1 true) else (fields_Seconds.j0 k bt109.2 bt111.2.1 bt114.1 (decide (bt116.2 < (bt111.2.1.size : Int))))) else (fields_Seconds.j0 k bt109.2 bt111.2.1 bt114.1 (decide (bt116.2 < (bt111.2.1.size : Int))))))))))
theorem fields_Seconds.mono_l : ∀ k, (∀ y0 y1 y2 y3, LeO (fields_Seconds.j0 k y0 y1 y2 y3) (fields_Seconds.j0 (k + 1) y0 y1 y2 y3)) ∧ (∀ y0 y1 y2 y3, LeO (fields_Seconds.j1 k y0 y1 y2 y3) (fields_Seconds.j1 (k + 1) y0 y1 y2 y3))
  | 0 => ⟨fun _ _ _ _ r h => by simp [fields_Seconds.j0] at h, fun _ _ _ _ r h => by simp [fields_Seconds.j1] at h⟩
  | k + 1 => by
    obtain ⟨ih0, ih1⟩ := fields_Seconds.mono_l k
    refine ⟨?_, ?_⟩
    · intro y0 y1 y2 y3
      unfold fields_Seconds.j0
      repeat' first
      | (with_reducible exact ih0 _ _ _ _)
      | (with_reducible exact ih1 _ _ _ _)
      | (with_reducible exact LeO.refl _)
      | (with_reducible exact LeO.none _)
      | (with_reducible refine LeO.ite ?_ ?_)
      | (with_reducible refine LeO.bind ?_ (fun _ => ?_))
      | exact ih0 _ _ _ _
      | exact ih1 _ _ _ _
      | exact LeO.none _
      | refine LeO.ite ?_ ?_
      | refine LeO.bind ?_ (fun _ => ?_)
    · intro y0 y1 y2 y3
      unfold fields_Seconds.j1
      repeat' first
      | (with_reducible exact ih0 _ _ _ _)
      | (with_reducible exact ih1 _ _ _ _)
      | (with_reducible exact LeO.refl _)
      | (with_reducible exact LeO.none _)
      | (with_reducible refine LeO.ite ?_ ?_)
      | (with_reducible refine LeO.bind ?_ (fun _ => ?_))
      | exact ih0 _ _ _ _
      | exact ih1 _ _ _ _
      | exact LeO.none _
      | refine LeO.ite ?_ ?_
      | refine LeO.bind ?_ (fun _ => ?_)
theorem fields_Seconds.mono : ∀ a0 k, LeO (fields_Seconds.f k a0) (fields_Seconds.f (k + 1) a0) := by
  intro a0 k
  obtain ⟨ih0, ih1⟩ := fields_Seconds.mono_l k
  unfold fields_Seconds.f
  repeat' first
      | (with_reducible exact ih0 _ _ _ _)
      | (with_reducible exact ih1 _ _ _ _)
      | (with_reducible exact LeO.refl _)
      | (with_reducible exact LeO.none _)
      | (with_reducible refine LeO.ite ?_ ?_)
      | (with_reducible refine LeO.bind ?_ (fun _ => ?_))
      | exact ih0 _ _ _ _
      | exact ih1 _ _ _ _
      | exact LeO.none _
      | refine LeO.ite ?_ ?_
      | refine LeO.bind ?_ (fun _ => ?_)
set_option maxHeartbeats 8000000 in
set_option maxRecDepth 100000 in
theorem fields_Seconds.calls (k : Nat) (a0 : ByteArray) (r1 : Int) (r2 : Int) (w : World) (h : fields_Seconds.f k a0 = some (r1, r2)) :
    Calls Tryd.prog 15 #[.string a0] w fun e w' => e = .returned (.tuple #[.int .i64 r1, .int .i64 r2]) ∧ Below w.heap.size w w' := by
  have HB := Aside0.mk (Below.refl w.heap.size w)
  have H : ((Go.Proofs.YtngkbmlmlfofdaaDoor.HA.strings_CutPrefix.f a0 (⟨#[45]⟩ : ByteArray)).bind fun bt109 => ((strings_Cut.f bt109.1 (⟨#[46]⟩ : ByteArray)).bind fun bt111 => ((Go.Proofs.YtngkbmlmlfofdaaDoor.G.fields_digits.f bt111.1 10).bind fun bt114 => ((Go.Proofs.YtngkbmlmlfofdaaDoor.G.fields_digits.f bt111.2.1 10).bind fun bt116 => (if bt114.2 = 0 then (fields_Seconds.j0 k bt109.2 bt111.2.1 bt114.1 true) else (if bt114.2 < (bt111.1.size : Int) then (fields_Seconds.j0 k bt109.2 bt111.2.1 bt114.1 true) else (if bt111.2.2 = true then (if bt116.2 = 0 then (fields_Seconds.j0 k bt109.2 bt111.2.1 bt114.1 true) else (fields_Seconds.j0 k bt109.2 bt111.2.1 bt114.1 (decide (bt116.2 < (bt111.2.1.size : Int))))) else (fields_Seconds.j0 k bt109.2 bt111.2.1 bt114.1 (decide (bt116.2 < (bt111.2.1.size : Int))))))))))) = some (r1, r2) := h
  clear h
  replace H := Option.bind_eq_some_iff.mp H
  obtain ⟨⟨t109, t110⟩, A20, H⟩ := H
  replace H : ((strings_Cut.f t109 (⟨#[46]⟩ : ByteArray)).bind fun bt111 => ((Go.Proofs.YtngkbmlmlfofdaaDoor.G.fields_digits.f bt111.1 10).bind fun bt114 => ((Go.Proofs.YtngkbmlmlfofdaaDoor.G.fields_digits.f bt111.2.1 10).bind fun bt116 => (if bt114.2 = 0 then (fields_Seconds.j0 k t110 bt111.2.1 bt114.1 true) else (if bt114.2 < (bt111.1.size : Int) then (fields_Seconds.j0 k t110 bt111.2.1 bt114.1 true) else (if bt111.2.2 = true then (if bt116.2 = 0 then (fields_Seconds.j0 k t110 bt111.2.1 bt114.1 true) else (fields_Seconds.j0 k t110 bt111.2.1 bt114.1 (decide (bt116.2 < (bt111.2.1.size : Int))))) else (fields_Seconds.j0 k t110 bt111.2.1 bt114.1 (decide (bt116.2 < (bt111.2.1.size : Int)))))))))) = some (r1, r2) := H
  have A2 := Aside0.mk A20
  clear A20
  replace H := Option.bind_eq_some_iff.mp H
  obtain ⟨⟨t111, t112, t113⟩, A30, H⟩ := H
  replace H : ((Go.Proofs.YtngkbmlmlfofdaaDoor.G.fields_digits.f t111 10).bind fun bt114 => ((Go.Proofs.YtngkbmlmlfofdaaDoor.G.fields_digits.f t112 10).bind fun bt116 => (if bt114.2 = 0 then (fields_Seconds.j0 k t110 t112 bt114.1 true) else (if bt114.2 < (t111.size : Int) then (fields_Seconds.j0 k t110 t112 bt114.1 true) else (if t113 = true then (if bt116.2 = 0 then (fields_Seconds.j0 k t110 t112 bt114.1 true) else (fields_Seconds.j0 k t110 t112 bt114.1 (decide (bt116.2 < (t112.size : Int))))) else (fields_Seconds.j0 k t110 t112 bt114.1 (decide (bt116.2 < (t112.size : Int))))))))) = some (r1, r2) := H
  have A3 := Aside0.mk A30
  clear A30
  replace H := Option.bind_eq_some_iff.mp H
  obtain ⟨⟨t114, t115⟩, A40, H⟩ := H
  replace H : ((Go.Proofs.YtngkbmlmlfofdaaDoor.G.fields_digits.f t112 10).bind fun bt116 => (if t115 = 0 then (fields_Seconds.j0 k t110 t112 t114 true) else (if t115 < (t111.size : Int) then (fields_Seconds.j0 k t110 t112 t114 true) else (if t113 = true then (if bt116.2 = 0 then (fields_Seconds.j0 k t110 t112 t114 true) else (fields_Seconds.j0 k t110 t112 t114 (decide (bt116.2 < (t112.size : Int))))) else (fields_Seconds.j0 k t110 t112 t114 (decide (bt116.2 < (t112.size : Int)))))))) = some (r1, r2) := H
  have A4 := Aside0.mk A40
  clear A40
  replace H := Option.bind_eq_some_iff.mp H
  obtain ⟨⟨t116, t117⟩, A50, H⟩ := H
  replace H : (if t115 = 0 then (fields_Seconds.j0 k t110 t112 t114 true) else (if t115 < (t111.size : Int) then (fields_Seconds.j0 k t110 t112 t114 true) else (if t113 = true then (if t117 = 0 then (fields_Seconds.j0 k t110 t112 t114 true) else (fields_Seconds.j0 k t110 t112 t114 (decide (t117 < (t112.size : Int))))) else (fields_Seconds.j0 k t110 t112 t114 (decide (t117 < (t112.size : Int))))))) = some (r1, r2) := H
  have A5 := Aside0.mk A50
  clear A50
  have HC6 := Aside0.mk H
  clear H
  go_enter Tryd.func15, Tryd.ntmps15
  go_upto_region 5 with (first | ((with_reducible refine gate_callee (f := 33) rfl ?_); refine goesL_ (some 18) rfl rfl Tryd.func33 (by kernel_rfl) rfl #[.string a0, .string (⟨#[45]⟩ : ByteArray)] rfl (by (try simp only [List.map_toArray, List.map_cons, List.map_nil]); first | done | rfl | (simp only [List.length_drop, List.length_take]; rfl)) ?_; (with_reducible refine (Go.Proofs.YtngkbmlmlfofdaaDoor.HA.strings_CutPrefix.calls a0 (⟨#[45]⟩ : ByteArray) t109 t110 _ A2.out).mono ?_); rintro e w' ⟨rfl, ⟨nd, rfl⟩⟩; refine ⟨_, rfl, ?_⟩) | ((with_reducible refine gate_callee (f := 34) rfl ?_); refine goesL_ (some 23) rfl rfl Tryd.func34 (by kernel_rfl) rfl #[.string t109, .string (⟨#[46]⟩ : ByteArray)] rfl (by (try simp only [List.map_toArray, List.map_cons, List.map_nil]); first | done | rfl | (simp only [List.length_drop, List.length_take]; rfl)) ?_; (with_reducible refine (strings_Cut.calls t109 (⟨#[46]⟩ : ByteArray) t111 t112 t113 _ A3.out).mono ?_); rintro e w' ⟨rfl, ⟨nd, rfl⟩⟩; refine ⟨_, rfl, ?_⟩) | ((with_reducible refine gate_callee (f := 27) rfl ?_); refine goesL_ (some 29) rfl rfl Tryd.func27 (by kernel_rfl) rfl #[.string t111, .int .i64 10] rfl (by (try simp only [List.map_toArray, List.map_cons, List.map_nil]); first | done | rfl | (simp only [List.length_drop, List.length_take]; rfl)) ?_; (with_reducible refine (Go.Proofs.YtngkbmlmlfofdaaDoor.G.fields_digits.calls t111 10 t114 t115 _ A4.out).mono ?_); rintro e w7 ⟨rfl, hb⟩; refine ⟨_, rfl, ?_⟩; have n0_ := Aside0.mk (below_step (by repeat (first | (with_reducible first | exact HB.out | apply below_alloc | apply pw_below_drewN | apply below_drew1) | exact HB.out)) hb); clear HB; have HB := n0_; clear n0_; (try clear hb); (try clear hb2); (try clear hk); (try clear hi)) | ((with_reducible refine gate_callee (f := 27) rfl ?_); refine goesL_ (some 34) rfl rfl Tryd.func27 (by kernel_rfl) rfl #[.string t112, .int .i64 10] rfl (by (try simp only [List.map_toArray, List.map_cons, List.map_nil]); first | done | rfl | (simp only [List.length_drop, List.length_take]; rfl)) ?_; (with_reducible refine (Go.Proofs.YtngkbmlmlfofdaaDoor.G.fields_digits.calls t112 10 t116 t117 _ A5.out).mono ?_); rintro e w8 ⟨rfl, hb⟩; refine ⟨_, rfl, ?_⟩; have n0_ := Aside0.mk (below_step (by repeat (first | (with_reducible first | exact HB.out | apply below_alloc | apply pw_below_drewN | apply below_drew1) | exact HB.out)) hb); clear HB; have HB := n0_; clear n0_; (try clear hb); (try clear hb2); (try clear hk); (try clear hi)))
  (try simp only [Act.put, List.setIfInBounds_toArray, List.set_cons_zero, List.set_cons_succ])
  go_cut [37] (fun v37 wc => ∃ (kq : Nat) (x37_5 : Bool), v37 = .bool x37_5 ∧ Aside0 (fields_Seconds.j0 kq t110 t112 t114 x37_5 = some (r1, r2)) ∧ Aside0 (kq ≤ k) ∧ Aside0 (Below w.heap.size w wc))
  case first =>
    have H := HC6.out
    clear HC6
    by_cases c9 : t115 = 0
    · rw [if_pos c9] at H
      have c9b0 : (t115 == 0) = true := beq_iff_eq.mpr c9
      have c9b1 : (t115 != 0) = false := bne_eq_false_iff_eq.mpr c9
      clear c9
      (first | rw [c9b0] | (simp only [i64_w, i32_w]; rw [c9b0]) | skip)
      have H' := Aside0.mk H
      clear H
      go_wp2
      go_meet
      case rel => exact ⟨_, (true), (by first | rfl | (simp; done) | (simp [*]; done)), H', ⟨by first | omega | exact Nat.le_refl _⟩, ⟨by repeat (first | (with_reducible first | exact HB.out | apply below_alloc | apply pw_below_drewN | apply below_drew1) | exact HB.out)⟩⟩
    · rw [if_neg c9] at H
      have c9b0 : (t115 == 0) = false := beq_eq_false_iff_ne.mpr c9
      have c9b1 : (t115 != 0) = true := bne_iff_ne.mpr c9
      (first | rw [c9b0] | (simp only [i64_w, i32_w]; rw [c9b0]) | skip)
      by_cases c10 : t115 < (t111.size : Int)
      · rw [if_pos c10] at H
        have c10b0 : decide (t115 < (t111.size : Int)) = true := decide_eq_true c10
        clear c10
        have H' := Aside0.mk H
        clear H
        go_wp2
        go_meet
        case rel => exact ⟨_, (true), (by first | rfl | (simp; done) | (simp [*]; done)), H', ⟨by first | omega | exact Nat.le_refl _⟩, ⟨by repeat (first | (with_reducible first | exact HB.out | apply below_alloc | apply pw_below_drewN | apply below_drew1) | exact HB.out)⟩⟩
      · rw [if_neg c10] at H
        have c10b0 : decide (t115 < (t111.size : Int)) = false := decide_eq_false c10
        clear c10
        by_cases c11 : t113 = true
        · subst c11
          have H1 : (if t117 = 0 then (fields_Seconds.j0 k t110 t112 t114 true) else (fields_Seconds.j0 k t110 t112 t114 (decide (t117 < (t112.size : Int))))) = some (r1, r2) := by rw [if_pos rfl] at H; exact H
          clear H
          have H := H1
          clear H1
          by_cases c12 : t117 = 0
          · rw [if_pos c12] at H
            have c12b0 : (t117 == 0) = true := beq_iff_eq.mpr c12
            have c12b1 : (t117 != 0) = false := bne_eq_false_iff_eq.mpr c12
            clear c12
            have H' := Aside0.mk H
            clear H
            go_wp2
            go_meet
            case rel => exact ⟨_, (true), (by first | rfl | (simp; done) | (simp [*]; done)), H', ⟨by first | omega | exact Nat.le_refl _⟩, ⟨by repeat (first | (with_reducible first | exact HB.out | apply below_alloc | apply pw_below_drewN | apply below_drew1) | exact HB.out)⟩⟩
          · rw [if_neg c12] at H
            have c12b0 : (t117 == 0) = false := beq_eq_false_iff_ne.mpr c12
            have c12b1 : (t117 != 0) = true := bne_iff_ne.mpr c12
            have H' := Aside0.mk H
            clear H
            go_wp2
            go_meet
            case rel => exact ⟨_, (decide (t117 < (t112.size : Int))), (by first | rfl | (simp; done) | (simp [*]; done)), H', ⟨by first | omega | exact Nat.le_refl _⟩, ⟨by repeat (first | (with_reducible first | exact HB.out | apply below_alloc | apply pw_below_drewN | apply below_drew1) | exact HB.out)⟩⟩
        · replace c11 := Bool.eq_false_iff.mpr c11
          subst c11
          have H1 : (fields_Seconds.j0 k t110 t112 t114 (decide (t117 < (t112.size : Int)))) = some (r1, r2) := by rw [if_neg (show ¬ (false = true) by decide)] at H; exact H
          clear H
          have H := H1
          clear H1
          have H' := Aside0.mk H
          clear H
          go_wp2
          go_meet
          case rel => exact ⟨_, (decide (t117 < (t112.size : Int))), (by first | rfl | (simp; done) | (simp [*]; done)), H', ⟨by first | omega | exact Nat.le_refl _⟩, ⟨by repeat (first | (with_reducible first | exact HB.out | apply below_alloc | apply pw_below_drewN | apply below_drew1) | exact HB.out)⟩⟩
  case rest =>
    clear HC6
    try clear c1
    try clear c2
    try clear p2
    try clear c3
    try clear c9
    try clear c9b0
    try clear c9b1
    try clear c10
    try clear c10b0
    try clear c11
    try clear c12
    try clear c12b0
    try clear c12b1
    obtain ⟨kq, x37_5, rfl, HA, HJ5, HB⟩ := hcut
    cases kq with
    | zero => exact absurd HA.out (by simp [fields_Seconds.j0])
    | succ kj5 =>
      have H := HA.out
      clear HA
      simp only [fields_Seconds.j0] at H
      by_cases c13 : x37_5 = true
      · subst c13
        have H1 : (some (0, 30)) = some (r1, r2) := by rw [if_pos rfl] at H; exact H
        clear H
        have H := H1
        clear H1
        simp only [Option.some.injEq, Prod.mk.injEq] at H
        obtain ⟨rfl, rfl⟩ := H
        go_wp2
        go_ret2
        exact ⟨by first | rfl | (simp [errW_none, errW_some] <;> rfl) | (simp [*, errW_none, errW_some] <;> rfl), by repeat (first | (with_reducible first | exact HB.out | apply below_alloc | apply pw_below_drewN | apply below_drew1) | exact HB.out)⟩
      · replace c13 := Bool.eq_false_iff.mpr c13
        subst c13
        have H1 : (if t114 < 0 then (fields_Seconds.j1 kj5 t110 t112 t114 true) else (fields_Seconds.j1 kj5 t110 t112 t114 (decide (t114 > 9000000000)))) = some (r1, r2) := by rw [if_neg (show ¬ (false = true) by decide)] at H; exact H
        clear H
        have H := H1
        clear H1
        have HC14 := Aside0.mk H
        clear H
        go_upto_region 7 with (fail)
        go_cut [59] (fun v59 wc => ∃ (kq : Nat) (x59_13 : Bool), v59 = .bool x59_13 ∧ Aside0 (fields_Seconds.j1 kq t110 t112 t114 x59_13 = some (r1, r2)) ∧ Aside0 (kq ≤ kj5) ∧ Aside0 (Below w.heap.size w wc))
        case first =>
          have H := HC14.out
          clear HC14
          by_cases c15 : t114 < 0
          · rw [if_pos c15] at H
            have c15b0 : decide (t114 < 0) = true := decide_eq_true c15
            clear c15
            (first | rw [c15b0] | (simp only [i64_w, i32_w]; rw [c15b0]) | skip)
            have H' := Aside0.mk H
            clear H
            go_wp2
            go_meet
            case rel => exact ⟨_, (true), (by first | rfl | (simp; done) | (simp [*]; done)), H', ⟨by have := HJ5.out; first | omega | exact Nat.le_refl _⟩, ⟨by repeat (first | (with_reducible first | exact HB.out | apply below_alloc | apply pw_below_drewN | apply below_drew1) | exact HB.out)⟩⟩
          · rw [if_neg c15] at H
            have c15b0 : decide (t114 < 0) = false := decide_eq_false c15
            clear c15
            (first | rw [c15b0] | (simp only [i64_w, i32_w]; rw [c15b0]) | skip)
            have H' := Aside0.mk H
            clear H
            go_wp2
            go_meet
            case rel => exact ⟨_, (decide (t114 > 9000000000)), (by first | rfl | (simp; done) | (simp [*]; done)), H', ⟨by have := HJ5.out; first | omega | exact Nat.le_refl _⟩, ⟨by repeat (first | (with_reducible first | exact HB.out | apply below_alloc | apply pw_below_drewN | apply below_drew1) | exact HB.out)⟩⟩
        case rest =>
          clear HC14
          try clear c1
          try clear c2
          try clear p2
          try clear c3
          try clear c9
          try clear c9b0
          try clear c9b1
          try clear c10
          try clear c10b0
          try clear c11
          try clear c12
          try clear c12b0
          try clear c12b1
          try clear c13
          try clear c15
          try clear c15b0
          try clear p2
          obtain ⟨kq, x59_13, rfl, HA, HJ13, HB⟩ := hcut
          cases kq with
          | zero => exact absurd HA.out (by simp [fields_Seconds.j1])
          | succ kj13 =>
            have H := HA.out
            clear HA
            simp only [fields_Seconds.j1] at H
            by_cases c16 : x59_13 = true
            · subst c16
              have H1 : (some (0, 31)) = some (r1, r2) := by rw [if_pos rfl] at H; exact H
              clear H
              have H := H1
              clear H1
              simp only [Option.some.injEq, Prod.mk.injEq] at H
              obtain ⟨rfl, rfl⟩ := H
              go_wp2
              go_ret2
              exact ⟨by first | rfl | (simp [errW_none, errW_some] <;> rfl) | (simp [*, errW_none, errW_some] <;> rfl), by repeat (first | (with_reducible first | exact HB.out | apply below_alloc | apply pw_below_drewN | apply below_drew1) | exact HB.out)⟩
            · replace c16 := Bool.eq_false_iff.mpr c16
              subst c16
              have H1 : (if t112.size + 9 ≤ 9223372036854775807 then (if 0 ≤ 9 then (if 9 ≤ ((t112 ++ (⟨#[48, 48, 48, 48, 48, 48, 48, 48, 48]⟩ : ByteArray)).size : Int) then ((Go.Proofs.YtngkbmlmlfofdaaDoor.G.fields_digits.f ((t112 ++ (⟨#[48, 48, 48, 48, 48, 48, 48, 48, 48]⟩ : ByteArray)).extract 0 9) 10).bind fun bt118 => (if t110 = true then (some (wrap64 (-(wrap64 ((wrap64 (t114 * 1000000000)) + bt118.1))), 0)) else (some (wrap64 ((wrap64 (t114 * 1000000000)) + bt118.1), 0)))) else (none)) else (none)) else (none)) = some (r1, r2) := by rw [if_neg (show ¬ (false = true) by decide)] at H; exact H
              clear H
              have H := H1
              clear H1
              by_cases c17 : t112.size + 9 ≤ 9223372036854775807
              · rw [if_pos c17] at H
                have c17b0 := eq_true c17
                have c17b1 : decide (t112.size + 9 ≤ 9223372036854775807) = true := decide_eq_true c17
                try have c17b2 : (9223372036854775807 < t112.size + 9) = False := eq_false (Nat.not_lt.2 c17)
                by_cases c18 : 0 ≤ 9
                · rw [if_pos c18] at H
                  have c18b0 := eq_true c18
                  have c18b1 : decide (0 ≤ 9) = true := decide_eq_true c18
                  clear c18
                  by_cases c19 : 9 ≤ ((t112 ++ (⟨#[48, 48, 48, 48, 48, 48, 48, 48, 48]⟩ : ByteArray)).size : Int)
                  · rw [if_pos c19] at H
                    have c19b0 := eq_true c19
                    have c19b1 : decide (9 ≤ ((t112 ++ (⟨#[48, 48, 48, 48, 48, 48, 48, 48, 48]⟩ : ByteArray)).size : Int)) = true := decide_eq_true c19
                    replace H := Option.bind_eq_some_iff.mp H
                    obtain ⟨⟨t118, t119⟩, A200, H⟩ := H
                    replace H : (if t110 = true then (some (wrap64 (-(wrap64 ((wrap64 (t114 * 1000000000)) + t118))), 0)) else (some (wrap64 ((wrap64 (t114 * 1000000000)) + t118), 0))) = some (r1, r2) := H
                    have A20 := Aside0.mk A200
                    clear A200
                    by_cases c21 : t110 = true
                    · subst c21
                      have H1 : (some (wrap64 (-(wrap64 ((wrap64 (t114 * 1000000000)) + t118))), 0)) = some (r1, r2) := by rw [if_pos rfl] at H; exact H
                      clear H
                      have H := H1
                      clear H1
                      simp only [Option.some.injEq, Prod.mk.injEq] at H
                      obtain ⟨rfl, rfl⟩ := H
                      go_wp2_with (first | ((with_reducible refine gate_callee (f := 27) rfl ?_); refine goesL_ (some 70) rfl rfl Tryd.func27 (by kernel_rfl) rfl #[.string ((t112 ++ (⟨#[48, 48, 48, 48, 48, 48, 48, 48, 48]⟩ : ByteArray)).extract 0 9), .int .i64 10] rfl (by (try simp only [List.map_toArray, List.map_cons, List.map_nil]); first | done | rfl | (simp only [List.length_drop, List.length_take]; rfl)) ?_; (with_reducible refine (Go.Proofs.YtngkbmlmlfofdaaDoor.G.fields_digits.calls ((t112 ++ (⟨#[48, 48, 48, 48, 48, 48, 48, 48, 48]⟩ : ByteArray)).extract 0 9) 10 t118 t119 _ A20.out).mono ?_); rintro e w22 ⟨rfl, hb⟩; refine ⟨_, rfl, ?_⟩; have n0_ := Aside0.mk (below_step (by repeat (first | (with_reducible first | exact HB.out | apply below_alloc | apply pw_below_drewN | apply below_drew1) | exact HB.out)) hb); clear HB; have HB := n0_; clear n0_; (try clear hb); (try clear hb2); (try clear hk); (try clear hi)))
                      go_ret2
                      exact ⟨by first | rfl | (simp [errW_none, errW_some] <;> rfl) | (simp [*, errW_none, errW_some] <;> rfl), by repeat (first | (with_reducible first | exact HB.out | apply below_alloc | apply pw_below_drewN | apply below_drew1) | exact HB.out)⟩
                    · replace c21 := Bool.eq_false_iff.mpr c21
                      subst c21
                      have H1 : (some (wrap64 ((wrap64 (t114 * 1000000000)) + t118), 0)) = some (r1, r2) := by rw [if_neg (show ¬ (false = true) by decide)] at H; exact H
                      clear H
                      have H := H1
                      clear H1
                      simp only [Option.some.injEq, Prod.mk.injEq] at H
                      obtain ⟨rfl, rfl⟩ := H
                      go_wp2_with (first | ((with_reducible refine gate_callee (f := 27) rfl ?_); refine goesL_ (some 70) rfl rfl Tryd.func27 (by kernel_rfl) rfl #[.string ((t112 ++ (⟨#[48, 48, 48, 48, 48, 48, 48, 48, 48]⟩ : ByteArray)).extract 0 9), .int .i64 10] rfl (by (try simp only [List.map_toArray, List.map_cons, List.map_nil]); first | done | rfl | (simp only [List.length_drop, List.length_take]; rfl)) ?_; (with_reducible refine (Go.Proofs.YtngkbmlmlfofdaaDoor.G.fields_digits.calls ((t112 ++ (⟨#[48, 48, 48, 48, 48, 48, 48, 48, 48]⟩ : ByteArray)).extract 0 9) 10 t118 t119 _ A20.out).mono ?_); rintro e w23 ⟨rfl, hb⟩; refine ⟨_, rfl, ?_⟩; have n0_ := Aside0.mk (below_step (by repeat (first | (with_reducible first | exact HB.out | apply below_alloc | apply pw_below_drewN | apply below_drew1) | exact HB.out)) hb); clear HB; have HB := n0_; clear n0_; (try clear hb); (try clear hb2); (try clear hk); (try clear hi)))
                      go_ret2
                      exact ⟨by first | rfl | (simp [errW_none, errW_some] <;> rfl) | (simp [*, errW_none, errW_some] <;> rfl), by repeat (first | (with_reducible first | exact HB.out | apply below_alloc | apply pw_below_drewN | apply below_drew1) | exact HB.out)⟩
                  · rw [if_neg c19] at H
                    exact absurd H (by simp)
                · rw [if_neg c18] at H
                  exact absurd H (by simp)
              · rw [if_neg c17] at H
                exact absurd H (by simp)

end Go.Proofs.YtngkbmlmlfofdaaDoor.HB
