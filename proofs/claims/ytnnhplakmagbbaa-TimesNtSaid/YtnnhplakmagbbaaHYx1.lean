/- What calls of these Go functions come to, as plain Lean functions, each with its proof; printed for this claim by a program of this session. -/
import Derived.Test.YtnnhplakmagbbaaHYx0
namespace Go.Proofs.Ytnnhplakmagbbaa.HY
open Go.Proofs.Ytnnhplakmagbbaa.HA
open Go.Proofs.Ytnnhplakmagbbaa.HB
open Go.Proofs.Ytnnhplakmagbbaa.HX
open Go.RowKit Go.Proofs.YtnnhplakmagbbaaW.PrintWords Go.Proofs.YtnnhplakmagbbaaW.PrintLast Go.Proofs.YtnnhplakmagbbaaW.PrintMore
attribute [local go_sem] max2_int min2_int max_two min_two max_three min_three max_four min_four   -- for this text's walks alone
set_option linter.unusedVariables false
set_option linter.unusedSimpArgs false

-- NOT PRINTED: function 31 (times_months)

-- NOT PRINTED: function 32 (times_days)

/-! ### wainloadlaw15_TimesNt: function 6 -/
def wainloadlaw15_TimesNt.f (a0 : Int) (a1 : Int) : Option (Bool) := (Go.Proofs.Ytnnhplakmagbbaa.HA.times_FromNt.f a0).bind fun bt101 => ((Go.Proofs.Ytnnhplakmagbbaa.HA.wainloadref15_FromNt.f a0).bind fun bt103 => ((Go.Proofs.Ytnnhplakmagbbaa.HA.times_ToNt.f a1).bind fun t105 => ((Go.Proofs.Ytnnhplakmagbbaa.HA.times_FromNt.f t105).bind fun bt106 => ((Go.Proofs.Ytnnhplakmagbbaa.HB.wainloadlaw15_alive.f).bind fun t108 => (if t108 = true then (if bt101.1 = bt103.1 then (if (bt101.2 == bt103.2) = true then ((Go.Proofs.Ytnnhplakmagbbaa.HA.wainloadref15_ToNt.f a1).bind fun t109 => (if t105 = t109 then (if bt106.2 = true then ((Go.Proofs.Ytnnhplakmagbbaa.HA.wainloadref15_Floor.f a1 100).bind fun t110 => (some (bt106.1 == t110))) else (some true)) else (some false))) else (some false)) else (some false)) else (some false))))))
set_option maxHeartbeats 8000000 in
set_option maxRecDepth 100000 in
theorem wainloadlaw15_TimesNt.calls (a0 : Int) (a1 : Int) (r : Bool) (w : World) (h : wainloadlaw15_TimesNt.f a0 a1 = some r) :
    Calls Try.prog 6 #[.int .u64 a0, .int .i64 a1] w fun e w' => e = .returned (.bool r) ∧ Below w.heap.size w w' := by
  have HB := Aside0.mk (Below.refl w.heap.size w)
  have H : ((Go.Proofs.Ytnnhplakmagbbaa.HA.times_FromNt.f a0).bind fun bt101 => ((Go.Proofs.Ytnnhplakmagbbaa.HA.wainloadref15_FromNt.f a0).bind fun bt103 => ((Go.Proofs.Ytnnhplakmagbbaa.HA.times_ToNt.f a1).bind fun t105 => ((Go.Proofs.Ytnnhplakmagbbaa.HA.times_FromNt.f t105).bind fun bt106 => ((Go.Proofs.Ytnnhplakmagbbaa.HB.wainloadlaw15_alive.f).bind fun t108 => (if t108 = true then (if bt101.1 = bt103.1 then (if (bt101.2 == bt103.2) = true then ((Go.Proofs.Ytnnhplakmagbbaa.HA.wainloadref15_ToNt.f a1).bind fun t109 => (if t105 = t109 then (if bt106.2 = true then ((Go.Proofs.Ytnnhplakmagbbaa.HA.wainloadref15_Floor.f a1 100).bind fun t110 => (some (bt106.1 == t110))) else (some true)) else (some false))) else (some false)) else (some false)) else (some false))))))) = some r := h
  clear h
  replace H := Option.bind_eq_some_iff.mp H
  obtain ⟨⟨t101, t102⟩, A30, H⟩ := H
  replace H : ((Go.Proofs.Ytnnhplakmagbbaa.HA.wainloadref15_FromNt.f a0).bind fun bt103 => ((Go.Proofs.Ytnnhplakmagbbaa.HA.times_ToNt.f a1).bind fun t105 => ((Go.Proofs.Ytnnhplakmagbbaa.HA.times_FromNt.f t105).bind fun bt106 => ((Go.Proofs.Ytnnhplakmagbbaa.HB.wainloadlaw15_alive.f).bind fun t108 => (if t108 = true then (if t101 = bt103.1 then (if (t102 == bt103.2) = true then ((Go.Proofs.Ytnnhplakmagbbaa.HA.wainloadref15_ToNt.f a1).bind fun t109 => (if t105 = t109 then (if bt106.2 = true then ((Go.Proofs.Ytnnhplakmagbbaa.HA.wainloadref15_Floor.f a1 100).bind fun t110 => (some (bt106.1 == t110))) else (some true)) else (some false))) else (some false)) else (some false)) else (some false)))))) = some r := H
  have A3 := Aside0.mk A30
  clear A30
  replace H := Option.bind_eq_some_iff.mp H
  obtain ⟨⟨t103, t104⟩, A40, H⟩ := H
  replace H : ((Go.Proofs.Ytnnhplakmagbbaa.HA.times_ToNt.f a1).bind fun t105 => ((Go.Proofs.Ytnnhplakmagbbaa.HA.times_FromNt.f t105).bind fun bt106 => ((Go.Proofs.Ytnnhplakmagbbaa.HB.wainloadlaw15_alive.f).bind fun t108 => (if t108 = true then (if t101 = t103 then (if (t102 == t104) = true then ((Go.Proofs.Ytnnhplakmagbbaa.HA.wainloadref15_ToNt.f a1).bind fun t109 => (if t105 = t109 then (if bt106.2 = true then ((Go.Proofs.Ytnnhplakmagbbaa.HA.wainloadref15_Floor.f a1 100).bind fun t110 => (some (bt106.1 == t110))) else (some true)) else (some false))) else (some false)) else (some false)) else (some false))))) = some r := H
  have A4 := Aside0.mk A40
  clear A40
  replace H := Option.bind_eq_some_iff.mp H
  obtain ⟨t105, A50, H⟩ := H
  replace H : ((Go.Proofs.Ytnnhplakmagbbaa.HA.times_FromNt.f t105).bind fun bt106 => ((Go.Proofs.Ytnnhplakmagbbaa.HB.wainloadlaw15_alive.f).bind fun t108 => (if t108 = true then (if t101 = t103 then (if (t102 == t104) = true then ((Go.Proofs.Ytnnhplakmagbbaa.HA.wainloadref15_ToNt.f a1).bind fun t109 => (if t105 = t109 then (if bt106.2 = true then ((Go.Proofs.Ytnnhplakmagbbaa.HA.wainloadref15_Floor.f a1 100).bind fun t110 => (some (bt106.1 == t110))) else (some true)) else (some false))) else (some false)) else (some false)) else (some false)))) = some r := H
  have A5 := Aside0.mk A50
  clear A50
  replace H := Option.bind_eq_some_iff.mp H
  obtain ⟨⟨t106, t107⟩, A60, H⟩ := H
  replace H : ((Go.Proofs.Ytnnhplakmagbbaa.HB.wainloadlaw15_alive.f).bind fun t108 => (if t108 = true then (if t101 = t103 then (if (t102 == t104) = true then ((Go.Proofs.Ytnnhplakmagbbaa.HA.wainloadref15_ToNt.f a1).bind fun t109 => (if t105 = t109 then (if t107 = true then ((Go.Proofs.Ytnnhplakmagbbaa.HA.wainloadref15_Floor.f a1 100).bind fun t110 => (some (t106 == t110))) else (some true)) else (some false))) else (some false)) else (some false)) else (some false))) = some r := H
  have A6 := Aside0.mk A60
  clear A60
  replace H := Option.bind_eq_some_iff.mp H
  obtain ⟨t108, A70, H⟩ := H
  replace H : (if t108 = true then (if t101 = t103 then (if (t102 == t104) = true then ((Go.Proofs.Ytnnhplakmagbbaa.HA.wainloadref15_ToNt.f a1).bind fun t109 => (if t105 = t109 then (if t107 = true then ((Go.Proofs.Ytnnhplakmagbbaa.HA.wainloadref15_Floor.f a1 100).bind fun t110 => (some (t106 == t110))) else (some true)) else (some false))) else (some false)) else (some false)) else (some false)) = some r := H
  have A7 := Aside0.mk A70
  clear A70
  by_cases c8 : t108 = true
  · subst c8
    have H1 : (if t101 = t103 then (if (t102 == t104) = true then ((Go.Proofs.Ytnnhplakmagbbaa.HA.wainloadref15_ToNt.f a1).bind fun t109 => (if t105 = t109 then (if t107 = true then ((Go.Proofs.Ytnnhplakmagbbaa.HA.wainloadref15_Floor.f a1 100).bind fun t110 => (some (t106 == t110))) else (some true)) else (some false))) else (some false)) else (some false)) = some r := by rw [if_pos rfl] at H; exact H
    clear H
    have H := H1
    clear H1
    by_cases c9 : t101 = t103
    · rw [if_pos c9] at H
      have c9b0 : (t101 == t103) = true := beq_iff_eq.mpr c9
      have c9b1 : (t101 != t103) = false := bne_eq_false_iff_eq.mpr c9
      clear c9
      by_cases c10 : (t102 == t104) = true
      · rw [if_pos c10] at H
        have c10b0 : (t102 == t104) = true := c10
        (try (have c10b1 : decide (t102 = t104) = true := by simpa using c10))
        (try (have c10b2 : (t102 == t104) = true := by simpa using c10))
        clear c10
        replace H := Option.bind_eq_some_iff.mp H
        obtain ⟨t109, A110, H⟩ := H
        replace H : (if t105 = t109 then (if t107 = true then ((Go.Proofs.Ytnnhplakmagbbaa.HA.wainloadref15_Floor.f a1 100).bind fun t110 => (some (t106 == t110))) else (some true)) else (some false)) = some r := H
        have A11 := Aside0.mk A110
        clear A110
        by_cases c12 : t105 = t109
        · rw [if_pos c12] at H
          have c12b0 : (t105 == t109) = true := beq_iff_eq.mpr c12
          have c12b1 : (t105 != t109) = false := bne_eq_false_iff_eq.mpr c12
          clear c12
          by_cases c13 : t107 = true
          · subst c13
            have H1 : ((Go.Proofs.Ytnnhplakmagbbaa.HA.wainloadref15_Floor.f a1 100).bind fun t110 => (some (t106 == t110))) = some r := by rw [if_pos rfl] at H; exact H
            clear H
            have H := H1
            clear H1
            replace H := Option.bind_eq_some_iff.mp H
            obtain ⟨t110, A140, H⟩ := H
            replace H : (some (t106 == t110)) = some r := H
            have A14 := Aside0.mk A140
            clear A140
            obtain rfl := Option.some.inj H
            go_enter Try.func6, Try.ntmps6
            go_wp2_with (first | ((with_reducible refine gate_callee (f := 16) rfl ?_); refine goesL_ (some 14) rfl rfl Try.func16 (by kernel_rfl) rfl #[.int .u64 a0] rfl (by (try simp only [List.map_toArray, List.map_cons, List.map_nil]); first | done | rfl | (simp only [List.length_drop, List.length_take]; rfl)) ?_; (with_reducible refine (Go.Proofs.Ytnnhplakmagbbaa.HA.times_FromNt.calls a0 t101 t102 _ A3.out).mono ?_); rintro e w' ⟨rfl, ⟨nd, rfl⟩⟩; refine ⟨_, rfl, ?_⟩) | ((with_reducible refine gate_callee (f := 17) rfl ?_); refine goesL_ (some 19) rfl rfl Try.func17 (by kernel_rfl) rfl #[.int .u64 a0] rfl (by (try simp only [List.map_toArray, List.map_cons, List.map_nil]); first | done | rfl | (simp only [List.length_drop, List.length_take]; rfl)) ?_; (with_reducible refine (Go.Proofs.Ytnnhplakmagbbaa.HA.wainloadref15_FromNt.calls a0 t103 t104 _ A4.out).mono ?_); rintro e w' ⟨rfl, ⟨nd, rfl⟩⟩; refine ⟨_, rfl, ?_⟩) | ((with_reducible refine gate_callee (f := 18) rfl ?_); refine goesL_ (some 23) rfl rfl Try.func18 (by kernel_rfl) rfl #[.int .i64 a1] rfl (by (try simp only [List.map_toArray, List.map_cons, List.map_nil]); first | done | rfl | (simp only [List.length_drop, List.length_take]; rfl)) ?_; (with_reducible refine (Go.Proofs.Ytnnhplakmagbbaa.HA.times_ToNt.calls a1 t105 _ A5.out).mono ?_); rintro e w' ⟨rfl, ⟨nd, rfl⟩⟩; refine ⟨_, rfl, ?_⟩) | ((with_reducible refine gate_callee (f := 16) rfl ?_); refine goesL_ (some 26) rfl rfl Try.func16 (by kernel_rfl) rfl #[.int .u64 t105] rfl (by (try simp only [List.map_toArray, List.map_cons, List.map_nil]); first | done | rfl | (simp only [List.length_drop, List.length_take]; rfl)) ?_; (with_reducible refine (Go.Proofs.Ytnnhplakmagbbaa.HA.times_FromNt.calls t105 t106 true _ A6.out).mono ?_); rintro e w' ⟨rfl, ⟨nd, rfl⟩⟩; refine ⟨_, rfl, ?_⟩) | ((with_reducible refine gate_callee (f := 13) rfl ?_); refine goesL_ (some 29) rfl rfl Try.func13 (by kernel_rfl) rfl #[] rfl (by (try simp only [List.map_toArray, List.map_cons, List.map_nil]); first | done | rfl | (simp only [List.length_drop, List.length_take]; rfl)) ?_; (with_reducible refine (Go.Proofs.Ytnnhplakmagbbaa.HB.wainloadlaw15_alive.calls  true _ A7.out).mono ?_); rintro e w15 ⟨rfl, hb⟩; refine ⟨_, rfl, ?_⟩; have n0_ := Aside0.mk (below_step (by repeat (first | (with_reducible first | exact HB.out | apply below_alloc | apply pw_below_drewN | apply below_drew1) | exact HB.out)) hb); clear HB; have HB := n0_; clear n0_; (try clear hb); (try clear hb2); (try clear hk); (try clear hi)) | (go_at_call 19; (with_reducible refine (Go.Proofs.Ytnnhplakmagbbaa.HA.wainloadref15_ToNt.calls a1 t109 _ A11.out).mono ?_); rintro e w' ⟨rfl, ⟨nd, rfl⟩⟩) | (go_at_call 20; (with_reducible refine (Go.Proofs.Ytnnhplakmagbbaa.HA.wainloadref15_Floor.calls a1 100 t110 _ A14.out).mono ?_); rintro e w' ⟨rfl, ⟨nd, rfl⟩⟩))
            go_ret
            exact ⟨by first | rfl | (simp [errW_none, errW_some] <;> rfl) | (simp [*, errW_none, errW_some] <;> rfl), by repeat (first | (with_reducible first | exact HB.out | apply below_alloc | apply pw_below_drewN | apply below_drew1) | exact HB.out)⟩
          · replace c13 := Bool.eq_false_iff.mpr c13
            subst c13
            have H1 : (some true) = some r := by rw [if_neg (show ¬ (false = true) by decide)] at H; exact H
            clear H
            have H := H1
            clear H1
            obtain rfl := Option.some.inj H
            go_enter Try.func6, Try.ntmps6
            go_wp2_with (first | ((with_reducible refine gate_callee (f := 16) rfl ?_); refine goesL_ (some 14) rfl rfl Try.func16 (by kernel_rfl) rfl #[.int .u64 a0] rfl (by (try simp only [List.map_toArray, List.map_cons, List.map_nil]); first | done | rfl | (simp only [List.length_drop, List.length_take]; rfl)) ?_; (with_reducible refine (Go.Proofs.Ytnnhplakmagbbaa.HA.times_FromNt.calls a0 t101 t102 _ A3.out).mono ?_); rintro e w' ⟨rfl, ⟨nd, rfl⟩⟩; refine ⟨_, rfl, ?_⟩) | ((with_reducible refine gate_callee (f := 17) rfl ?_); refine goesL_ (some 19) rfl rfl Try.func17 (by kernel_rfl) rfl #[.int .u64 a0] rfl (by (try simp only [List.map_toArray, List.map_cons, List.map_nil]); first | done | rfl | (simp only [List.length_drop, List.length_take]; rfl)) ?_; (with_reducible refine (Go.Proofs.Ytnnhplakmagbbaa.HA.wainloadref15_FromNt.calls a0 t103 t104 _ A4.out).mono ?_); rintro e w' ⟨rfl, ⟨nd, rfl⟩⟩; refine ⟨_, rfl, ?_⟩) | ((with_reducible refine gate_callee (f := 18) rfl ?_); refine goesL_ (some 23) rfl rfl Try.func18 (by kernel_rfl) rfl #[.int .i64 a1] rfl (by (try simp only [List.map_toArray, List.map_cons, List.map_nil]); first | done | rfl | (simp only [List.length_drop, List.length_take]; rfl)) ?_; (with_reducible refine (Go.Proofs.Ytnnhplakmagbbaa.HA.times_ToNt.calls a1 t105 _ A5.out).mono ?_); rintro e w' ⟨rfl, ⟨nd, rfl⟩⟩; refine ⟨_, rfl, ?_⟩) | ((with_reducible refine gate_callee (f := 16) rfl ?_); refine goesL_ (some 26) rfl rfl Try.func16 (by kernel_rfl) rfl #[.int .u64 t105] rfl (by (try simp only [List.map_toArray, List.map_cons, List.map_nil]); first | done | rfl | (simp only [List.length_drop, List.length_take]; rfl)) ?_; (with_reducible refine (Go.Proofs.Ytnnhplakmagbbaa.HA.times_FromNt.calls t105 t106 false _ A6.out).mono ?_); rintro e w' ⟨rfl, ⟨nd, rfl⟩⟩; refine ⟨_, rfl, ?_⟩) | ((with_reducible refine gate_callee (f := 13) rfl ?_); refine goesL_ (some 29) rfl rfl Try.func13 (by kernel_rfl) rfl #[] rfl (by (try simp only [List.map_toArray, List.map_cons, List.map_nil]); first | done | rfl | (simp only [List.length_drop, List.length_take]; rfl)) ?_; (with_reducible refine (Go.Proofs.Ytnnhplakmagbbaa.HB.wainloadlaw15_alive.calls  true _ A7.out).mono ?_); rintro e w16 ⟨rfl, hb⟩; refine ⟨_, rfl, ?_⟩; have n0_ := Aside0.mk (below_step (by repeat (first | (with_reducible first | exact HB.out | apply below_alloc | apply pw_below_drewN | apply below_drew1) | exact HB.out)) hb); clear HB; have HB := n0_; clear n0_; (try clear hb); (try clear hb2); (try clear hk); (try clear hi)) | (go_at_call 19; (with_reducible refine (Go.Proofs.Ytnnhplakmagbbaa.HA.wainloadref15_ToNt.calls a1 t109 _ A11.out).mono ?_); rintro e w' ⟨rfl, ⟨nd, rfl⟩⟩))
            go_ret
            exact ⟨by first | rfl | (simp [errW_none, errW_some] <;> rfl) | (simp [*, errW_none, errW_some] <;> rfl), by repeat (first | (with_reducible first | exact HB.out | apply below_alloc | apply pw_below_drewN | apply below_drew1) | exact HB.out)⟩
        · rw [if_neg c12] at H
          have c12b0 : (t105 == t109) = false := beq_eq_false_iff_ne.mpr c12
          have c12b1 : (t105 != t109) = true := bne_iff_ne.mpr c12
          obtain rfl := Option.some.inj H
          go_enter Try.func6, Try.ntmps6
          go_wp2_with (first | ((with_reducible refine gate_callee (f := 16) rfl ?_); refine goesL_ (some 14) rfl rfl Try.func16 (by kernel_rfl) rfl #[.int .u64 a0] rfl (by (try simp only [List.map_toArray, List.map_cons, List.map_nil]); first | done | rfl | (simp only [List.length_drop, List.length_take]; rfl)) ?_; (with_reducible refine (Go.Proofs.Ytnnhplakmagbbaa.HA.times_FromNt.calls a0 t101 t102 _ A3.out).mono ?_); rintro e w' ⟨rfl, ⟨nd, rfl⟩⟩; refine ⟨_, rfl, ?_⟩) | ((with_reducible refine gate_callee (f := 17) rfl ?_); refine goesL_ (some 19) rfl rfl Try.func17 (by kernel_rfl) rfl #[.int .u64 a0] rfl (by (try simp only [List.map_toArray, List.map_cons, List.map_nil]); first | done | rfl | (simp only [List.length_drop, List.length_take]; rfl)) ?_; (with_reducible refine (Go.Proofs.Ytnnhplakmagbbaa.HA.wainloadref15_FromNt.calls a0 t103 t104 _ A4.out).mono ?_); rintro e w' ⟨rfl, ⟨nd, rfl⟩⟩; refine ⟨_, rfl, ?_⟩) | ((with_reducible refine gate_callee (f := 18) rfl ?_); refine goesL_ (some 23) rfl rfl Try.func18 (by kernel_rfl) rfl #[.int .i64 a1] rfl (by (try simp only [List.map_toArray, List.map_cons, List.map_nil]); first | done | rfl | (simp only [List.length_drop, List.length_take]; rfl)) ?_; (with_reducible refine (Go.Proofs.Ytnnhplakmagbbaa.HA.times_ToNt.calls a1 t105 _ A5.out).mono ?_); rintro e w' ⟨rfl, ⟨nd, rfl⟩⟩; refine ⟨_, rfl, ?_⟩) | ((with_reducible refine gate_callee (f := 16) rfl ?_); refine goesL_ (some 26) rfl rfl Try.func16 (by kernel_rfl) rfl #[.int .u64 t105] rfl (by (try simp only [List.map_toArray, List.map_cons, List.map_nil]); first | done | rfl | (simp only [List.length_drop, List.length_take]; rfl)) ?_; (with_reducible refine (Go.Proofs.Ytnnhplakmagbbaa.HA.times_FromNt.calls t105 t106 t107 _ A6.out).mono ?_); rintro e w' ⟨rfl, ⟨nd, rfl⟩⟩; refine ⟨_, rfl, ?_⟩) | ((with_reducible refine gate_callee (f := 13) rfl ?_); refine goesL_ (some 29) rfl rfl Try.func13 (by kernel_rfl) rfl #[] rfl (by (try simp only [List.map_toArray, List.map_cons, List.map_nil]); first | done | rfl | (simp only [List.length_drop, List.length_take]; rfl)) ?_; (with_reducible refine (Go.Proofs.Ytnnhplakmagbbaa.HB.wainloadlaw15_alive.calls  true _ A7.out).mono ?_); rintro e w17 ⟨rfl, hb⟩; refine ⟨_, rfl, ?_⟩; have n0_ := Aside0.mk (below_step (by repeat (first | (with_reducible first | exact HB.out | apply below_alloc | apply pw_below_drewN | apply below_drew1) | exact HB.out)) hb); clear HB; have HB := n0_; clear n0_; (try clear hb); (try clear hb2); (try clear hk); (try clear hi)) | (go_at_call 19; (with_reducible refine (Go.Proofs.Ytnnhplakmagbbaa.HA.wainloadref15_ToNt.calls a1 t109 _ A11.out).mono ?_); rintro e w' ⟨rfl, ⟨nd, rfl⟩⟩))
          go_ret
          exact ⟨by first | rfl | (simp [errW_none, errW_some] <;> rfl) | (simp [*, errW_none, errW_some] <;> rfl), by repeat (first | (with_reducible first | exact HB.out | apply below_alloc | apply pw_below_drewN | apply below_drew1) | exact HB.out)⟩
      · rw [if_neg c10] at H
        have c10b0 : (t102 == t104) = false := by simpa using c10
        (try (have c10b1 : decide (t102 = t104) = false := by simpa using c10))
        (try (have c10b2 : (t102 == t104) = false := by simpa using c10))
        (try (have c10b3 : ¬ (t102 = t104) := by simpa using c10))
        clear c10
        obtain rfl := Option.some.inj H
        go_enter Try.func6, Try.ntmps6
        go_wp2_with (first | ((with_reducible refine gate_callee (f := 16) rfl ?_); refine goesL_ (some 14) rfl rfl Try.func16 (by kernel_rfl) rfl #[.int .u64 a0] rfl (by (try simp only [List.map_toArray, List.map_cons, List.map_nil]); first | done | rfl | (simp only [List.length_drop, List.length_take]; rfl)) ?_; (with_reducible refine (Go.Proofs.Ytnnhplakmagbbaa.HA.times_FromNt.calls a0 t101 t102 _ A3.out).mono ?_); rintro e w' ⟨rfl, ⟨nd, rfl⟩⟩; refine ⟨_, rfl, ?_⟩) | ((with_reducible refine gate_callee (f := 17) rfl ?_); refine goesL_ (some 19) rfl rfl Try.func17 (by kernel_rfl) rfl #[.int .u64 a0] rfl (by (try simp only [List.map_toArray, List.map_cons, List.map_nil]); first | done | rfl | (simp only [List.length_drop, List.length_take]; rfl)) ?_; (with_reducible refine (Go.Proofs.Ytnnhplakmagbbaa.HA.wainloadref15_FromNt.calls a0 t103 t104 _ A4.out).mono ?_); rintro e w' ⟨rfl, ⟨nd, rfl⟩⟩; refine ⟨_, rfl, ?_⟩) | ((with_reducible refine gate_callee (f := 18) rfl ?_); refine goesL_ (some 23) rfl rfl Try.func18 (by kernel_rfl) rfl #[.int .i64 a1] rfl (by (try simp only [List.map_toArray, List.map_cons, List.map_nil]); first | done | rfl | (simp only [List.length_drop, List.length_take]; rfl)) ?_; (with_reducible refine (Go.Proofs.Ytnnhplakmagbbaa.HA.times_ToNt.calls a1 t105 _ A5.out).mono ?_); rintro e w' ⟨rfl, ⟨nd, rfl⟩⟩; refine ⟨_, rfl, ?_⟩) | ((with_reducible refine gate_callee (f := 16) rfl ?_); refine goesL_ (some 26) rfl rfl Try.func16 (by kernel_rfl) rfl #[.int .u64 t105] rfl (by (try simp only [List.map_toArray, List.map_cons, List.map_nil]); first | done | rfl | (simp only [List.length_drop, List.length_take]; rfl)) ?_; (with_reducible refine (Go.Proofs.Ytnnhplakmagbbaa.HA.times_FromNt.calls t105 t106 t107 _ A6.out).mono ?_); rintro e w' ⟨rfl, ⟨nd, rfl⟩⟩; refine ⟨_, rfl, ?_⟩) | ((with_reducible refine gate_callee (f := 13) rfl ?_); refine goesL_ (some 29) rfl rfl Try.func13 (by kernel_rfl) rfl #[] rfl (by (try simp only [List.map_toArray, List.map_cons, List.map_nil]); first | done | rfl | (simp only [List.length_drop, List.length_take]; rfl)) ?_; (with_reducible refine (Go.Proofs.Ytnnhplakmagbbaa.HB.wainloadlaw15_alive.calls  true _ A7.out).mono ?_); rintro e w18 ⟨rfl, hb⟩; refine ⟨_, rfl, ?_⟩; have n0_ := Aside0.mk (below_step (by repeat (first | (with_reducible first | exact HB.out | apply below_alloc | apply pw_below_drewN | apply below_drew1) | exact HB.out)) hb); clear HB; have HB := n0_; clear n0_; (try clear hb); (try clear hb2); (try clear hk); (try clear hi)))
        go_ret
        exact ⟨by first | rfl | (simp [errW_none, errW_some] <;> rfl) | (simp [*, errW_none, errW_some] <;> rfl), by repeat (first | (with_reducible first | exact HB.out | apply below_alloc | apply pw_below_drewN | apply below_drew1) | exact HB.out)⟩
    · rw [if_neg c9] at H
      have c9b0 : (t101 == t103) = false := beq_eq_false_iff_ne.mpr c9
      have c9b1 : (t101 != t103) = true := bne_iff_ne.mpr c9
      obtain rfl := Option.some.inj H
      go_enter Try.func6, Try.ntmps6
      go_wp2_with (first | ((with_reducible refine gate_callee (f := 16) rfl ?_); refine goesL_ (some 14) rfl rfl Try.func16 (by kernel_rfl) rfl #[.int .u64 a0] rfl (by (try simp only [List.map_toArray, List.map_cons, List.map_nil]); first | done | rfl | (simp only [List.length_drop, List.length_take]; rfl)) ?_; (with_reducible refine (Go.Proofs.Ytnnhplakmagbbaa.HA.times_FromNt.calls a0 t101 t102 _ A3.out).mono ?_); rintro e w' ⟨rfl, ⟨nd, rfl⟩⟩; refine ⟨_, rfl, ?_⟩) | ((with_reducible refine gate_callee (f := 17) rfl ?_); refine goesL_ (some 19) rfl rfl Try.func17 (by kernel_rfl) rfl #[.int .u64 a0] rfl (by (try simp only [List.map_toArray, List.map_cons, List.map_nil]); first | done | rfl | (simp only [List.length_drop, List.length_take]; rfl)) ?_; (with_reducible refine (Go.Proofs.Ytnnhplakmagbbaa.HA.wainloadref15_FromNt.calls a0 t103 t104 _ A4.out).mono ?_); rintro e w' ⟨rfl, ⟨nd, rfl⟩⟩; refine ⟨_, rfl, ?_⟩) | ((with_reducible refine gate_callee (f := 18) rfl ?_); refine goesL_ (some 23) rfl rfl Try.func18 (by kernel_rfl) rfl #[.int .i64 a1] rfl (by (try simp only [List.map_toArray, List.map_cons, List.map_nil]); first | done | rfl | (simp only [List.length_drop, List.length_take]; rfl)) ?_; (with_reducible refine (Go.Proofs.Ytnnhplakmagbbaa.HA.times_ToNt.calls a1 t105 _ A5.out).mono ?_); rintro e w' ⟨rfl, ⟨nd, rfl⟩⟩; refine ⟨_, rfl, ?_⟩) | ((with_reducible refine gate_callee (f := 16) rfl ?_); refine goesL_ (some 26) rfl rfl Try.func16 (by kernel_rfl) rfl #[.int .u64 t105] rfl (by (try simp only [List.map_toArray, List.map_cons, List.map_nil]); first | done | rfl | (simp only [List.length_drop, List.length_take]; rfl)) ?_; (with_reducible refine (Go.Proofs.Ytnnhplakmagbbaa.HA.times_FromNt.calls t105 t106 t107 _ A6.out).mono ?_); rintro e w' ⟨rfl, ⟨nd, rfl⟩⟩; refine ⟨_, rfl, ?_⟩) | ((with_reducible refine gate_callee (f := 13) rfl ?_); refine goesL_ (some 29) rfl rfl Try.func13 (by kernel_rfl) rfl #[] rfl (by (try simp only [List.map_toArray, List.map_cons, List.map_nil]); first | done | rfl | (simp only [List.length_drop, List.length_take]; rfl)) ?_; (with_reducible refine (Go.Proofs.Ytnnhplakmagbbaa.HB.wainloadlaw15_alive.calls  true _ A7.out).mono ?_); rintro e w19 ⟨rfl, hb⟩; refine ⟨_, rfl, ?_⟩; have n0_ := Aside0.mk (below_step (by repeat (first | (with_reducible first | exact HB.out | apply below_alloc | apply pw_below_drewN | apply below_drew1) | exact HB.out)) hb); clear HB; have HB := n0_; clear n0_; (try clear hb); (try clear hb2); (try clear hk); (try clear hi)))
      go_ret
      exact ⟨by first | rfl | (simp [errW_none, errW_some] <;> rfl) | (simp [*, errW_none, errW_some] <;> rfl), by repeat (first | (with_reducible first | exact HB.out | apply below_alloc | apply pw_below_drewN | apply below_drew1) | exact HB.out)⟩
  · replace c8 := Bool.eq_false_iff.mpr c8
    subst c8
    have H1 : (some false) = some r := by rw [if_neg (show ¬ (false = true) by decide)] at H; exact H
    clear H
    have H := H1
    clear H1
    obtain rfl := Option.some.inj H
    go_enter Try.func6, Try.ntmps6
    go_wp2_with (first | ((with_reducible refine gate_callee (f := 16) rfl ?_); refine goesL_ (some 14) rfl rfl Try.func16 (by kernel_rfl) rfl #[.int .u64 a0] rfl (by (try simp only [List.map_toArray, List.map_cons, List.map_nil]); first | done | rfl | (simp only [List.length_drop, List.length_take]; rfl)) ?_; (with_reducible refine (Go.Proofs.Ytnnhplakmagbbaa.HA.times_FromNt.calls a0 t101 t102 _ A3.out).mono ?_); rintro e w' ⟨rfl, ⟨nd, rfl⟩⟩; refine ⟨_, rfl, ?_⟩) | ((with_reducible refine gate_callee (f := 17) rfl ?_); refine goesL_ (some 19) rfl rfl Try.func17 (by kernel_rfl) rfl #[.int .u64 a0] rfl (by (try simp only [List.map_toArray, List.map_cons, List.map_nil]); first | done | rfl | (simp only [List.length_drop, List.length_take]; rfl)) ?_; (with_reducible refine (Go.Proofs.Ytnnhplakmagbbaa.HA.wainloadref15_FromNt.calls a0 t103 t104 _ A4.out).mono ?_); rintro e w' ⟨rfl, ⟨nd, rfl⟩⟩; refine ⟨_, rfl, ?_⟩) | ((with_reducible refine gate_callee (f := 18) rfl ?_); refine goesL_ (some 23) rfl rfl Try.func18 (by kernel_rfl) rfl #[.int .i64 a1] rfl (by (try simp only [List.map_toArray, List.map_cons, List.map_nil]); first | done | rfl | (simp only [List.length_drop, List.length_take]; rfl)) ?_; (with_reducible refine (Go.Proofs.Ytnnhplakmagbbaa.HA.times_ToNt.calls a1 t105 _ A5.out).mono ?_); rintro e w' ⟨rfl, ⟨nd, rfl⟩⟩; refine ⟨_, rfl, ?_⟩) | ((with_reducible refine gate_callee (f := 16) rfl ?_); refine goesL_ (some 26) rfl rfl Try.func16 (by kernel_rfl) rfl #[.int .u64 t105] rfl (by (try simp only [List.map_toArray, List.map_cons, List.map_nil]); first | done | rfl | (simp only [List.length_drop, List.length_take]; rfl)) ?_; (with_reducible refine (Go.Proofs.Ytnnhplakmagbbaa.HA.times_FromNt.calls t105 t106 t107 _ A6.out).mono ?_); rintro e w' ⟨rfl, ⟨nd, rfl⟩⟩; refine ⟨_, rfl, ?_⟩) | ((with_reducible refine gate_callee (f := 13) rfl ?_); refine goesL_ (some 29) rfl rfl Try.func13 (by kernel_rfl) rfl #[] rfl (by (try simp only [List.map_toArray, List.map_cons, List.map_nil]); first | done | rfl | (simp only [List.length_drop, List.length_take]; rfl)) ?_; (with_reducible refine (Go.Proofs.Ytnnhplakmagbbaa.HB.wainloadlaw15_alive.calls  false _ A7.out).mono ?_); rintro e w20 ⟨rfl, hb⟩; refine ⟨_, rfl, ?_⟩; have n0_ := Aside0.mk (below_step (by repeat (first | (with_reducible first | exact HB.out | apply below_alloc | apply pw_below_drewN | apply below_drew1) | exact HB.out)) hb); clear HB; have HB := n0_; clear n0_; (try clear hb); (try clear hb2); (try clear hk); (try clear hi)))
    go_ret
    exact ⟨by first | rfl | (simp [errW_none, errW_some] <;> rfl) | (simp [*, errW_none, errW_some] <;> rfl), by repeat (first | (with_reducible first | exact HB.out | apply below_alloc | apply pw_below_drewN | apply below_drew1) | exact HB.out)⟩

/-- THE ONE PURE STATEMENT of wainloadlaw15_TimesNt: yours. -/
def wainloadlaw15_TimesNt.Pure : Prop := ∀ (a0 : Int) (a1 : Int), (Lit.int .u64 a0).wf = true → (Lit.int .i64 a1).wf = true → wainloadlaw15_TimesNt.f a0 a1 = some true
theorem wainloadlaw15_TimesNt.walk (P : wainloadlaw15_TimesNt.Pure) (a0 : Int) (a1 : Int) (w : World) (w0 : (Lit.int .u64 a0).wf = true) (w1 : (Lit.int .i64 a1).wf = true) :
    Calls Try.prog 6 #[.int .u64 a0, .int .i64 a1] w fun e w' => e = .returned (.bool true) ∧ Below w.heap.size w w' := by
  have h := P a0 a1 w0 w1
  refine (wainloadlaw15_TimesNt.calls a0 a1 true w h).mono ?_
  rintro e w' ⟨rfl, hd⟩
  exact ⟨rfl, hd⟩

/-! ### wainloadlaw15_TimesDos: function 8 -/
def wainloadlaw15_TimesDos.j0 : Nat → Int → Int → Int → Bool → Bool → Option (Bool)
  | 0, _, _, _, _, _ => none
  | k + 1, x2, x11, x12, x13, x65 => if x65 = true then (some false) else ((Go.Proofs.Ytnnhplakmagbbaa.HX.times_FromDos.f x11 x12).bind fun bt121 => ((Go.Proofs.Ytnnhplakmagbbaa.HB.wainloadlaw15_alive.f).bind fun t123 => (if t123 = true then (if x13 = true then (if bt121.2 = true then ((Go.Proofs.Ytnnhplakmagbbaa.HA.wainloadref15_Floor.f x2 2000000000).bind fun t124 => (some (bt121.1 == t124))) else (some false)) else (some true)) else (some false))))
def wainloadlaw15_TimesDos.f (k : Nat) (a0 : Int) (a1 : Int) (a2 : Int) : Option (Bool) := (Go.Proofs.Ytnnhplakmagbbaa.HX.times_FromDos.f a0 a1).bind fun bt111 => ((Go.Proofs.Ytnnhplakmagbbaa.HA.wainloadref15_FromDos.f k a0 a1).bind fun bt113 => ((Go.Proofs.Ytnnhplakmagbbaa.HX.times_ToDos.f a2).bind fun bt115 => ((Go.Proofs.Ytnnhplakmagbbaa.HA.wainloadref15_ToDos.f k a2).bind fun bt118 => (if bt111.1 = bt113.1 then (if (bt111.2 != bt113.2) = true then (wainloadlaw15_TimesDos.j0 k a2 bt115.1 bt115.2.1 bt115.2.2 true) else (if bt115.1 = bt118.1 then (if bt115.2.1 = bt118.2.1 then (wainloadlaw15_TimesDos.j0 k a2 bt115.1 bt115.2.1 bt115.2.2 (bt115.2.2 != bt118.2.2)) else (wainloadlaw15_TimesDos.j0 k a2 bt115.1 bt115.2.1 bt115.2.2 true)) else (wainloadlaw15_TimesDos.j0 k a2 bt115.1 bt115.2.1 bt115.2.2 true))) else (wainloadlaw15_TimesDos.j0 k a2 bt115.1 bt115.2.1 bt115.2.2 true)))))
theorem wainloadlaw15_TimesDos.mono_l : ∀ k, (∀ y0 y1 y2 y3 y4, LeO (wainloadlaw15_TimesDos.j0 k y0 y1 y2 y3 y4) (wainloadlaw15_TimesDos.j0 (k + 1) y0 y1 y2 y3 y4))
  | 0 => fun _ _ _ _ _ r h => by simp [wainloadlaw15_TimesDos.j0] at h
  | k + 1 => by
    have ih0 := wainloadlaw15_TimesDos.mono_l k
    · intro y0 y1 y2 y3 y4
      unfold wainloadlaw15_TimesDos.j0
      repeat' first
      | (with_reducible exact ih0 _ _ _ _ _)
      | (with_reducible exact Go.Proofs.Ytnnhplakmagbbaa.HA.wainloadref15_FromDos.mono _ _ _)
      | (with_reducible exact Go.Proofs.Ytnnhplakmagbbaa.HA.wainloadref15_ToDos.mono _ _)
      | (with_reducible exact LeO.refl _)
      | (with_reducible exact LeO.none _)
      | (with_reducible refine LeO.ite ?_ ?_)
      | (with_reducible refine LeO.bind ?_ (fun _ => ?_))
      | exact ih0 _ _ _ _ _
      | exact Go.Proofs.Ytnnhplakmagbbaa.HA.wainloadref15_FromDos.mono _ _ _
      | exact Go.Proofs.Ytnnhplakmagbbaa.HA.wainloadref15_ToDos.mono _ _
      | exact LeO.none _
      | refine LeO.ite ?_ ?_
      | refine LeO.bind ?_ (fun _ => ?_)
theorem wainloadlaw15_TimesDos.mono : ∀ a0 a1 a2 k, LeO (wainloadlaw15_TimesDos.f k a0 a1 a2) (wainloadlaw15_TimesDos.f (k + 1) a0 a1 a2) := by
  intro a0 a1 a2 k
  have ih0 := wainloadlaw15_TimesDos.mono_l k
  unfold wainloadlaw15_TimesDos.f
  repeat' first
      | (with_reducible exact ih0 _ _ _ _ _)
      | (with_reducible exact Go.Proofs.Ytnnhplakmagbbaa.HA.wainloadref15_FromDos.mono _ _ _)
      | (with_reducible exact Go.Proofs.Ytnnhplakmagbbaa.HA.wainloadref15_ToDos.mono _ _)
      | (with_reducible exact LeO.refl _)
      | (with_reducible exact LeO.none _)
      | (with_reducible refine LeO.ite ?_ ?_)
      | (with_reducible refine LeO.bind ?_ (fun _ => ?_))
      | exact ih0 _ _ _ _ _
      | exact Go.Proofs.Ytnnhplakmagbbaa.HA.wainloadref15_FromDos.mono _ _ _
      | exact Go.Proofs.Ytnnhplakmagbbaa.HA.wainloadref15_ToDos.mono _ _
      | exact LeO.none _
      | refine LeO.ite ?_ ?_
      | refine LeO.bind ?_ (fun _ => ?_)
set_option maxHeartbeats 8000000 in
set_option maxRecDepth 100000 in
theorem wainloadlaw15_TimesDos.calls (k : Nat) (a0 : Int) (a1 : Int) (a2 : Int) (r : Bool) (w : World) (h : wainloadlaw15_TimesDos.f k a0 a1 a2 = some r) :
    Calls Try.prog 8 #[.int .u16 a0, .int .u16 a1, .int .i64 a2] w fun e w' => e = .returned (.bool r) ∧ Below w.heap.size w w' := by
  have HB := Aside0.mk (Below.refl w.heap.size w)
  have H : ((Go.Proofs.Ytnnhplakmagbbaa.HX.times_FromDos.f a0 a1).bind fun bt111 => ((Go.Proofs.Ytnnhplakmagbbaa.HA.wainloadref15_FromDos.f k a0 a1).bind fun bt113 => ((Go.Proofs.Ytnnhplakmagbbaa.HX.times_ToDos.f a2).bind fun bt115 => ((Go.Proofs.Ytnnhplakmagbbaa.HA.wainloadref15_ToDos.f k a2).bind fun bt118 => (if bt111.1 = bt113.1 then (if (bt111.2 != bt113.2) = true then (wainloadlaw15_TimesDos.j0 k a2 bt115.1 bt115.2.1 bt115.2.2 true) else (if bt115.1 = bt118.1 then (if bt115.2.1 = bt118.2.1 then (wainloadlaw15_TimesDos.j0 k a2 bt115.1 bt115.2.1 bt115.2.2 (bt115.2.2 != bt118.2.2)) else (wainloadlaw15_TimesDos.j0 k a2 bt115.1 bt115.2.1 bt115.2.2 true)) else (wainloadlaw15_TimesDos.j0 k a2 bt115.1 bt115.2.1 bt115.2.2 true))) else (wainloadlaw15_TimesDos.j0 k a2 bt115.1 bt115.2.1 bt115.2.2 true)))))) = some r := h
  clear h
  replace H := Option.bind_eq_some_iff.mp H
  obtain ⟨⟨t111, t112⟩, A40, H⟩ := H
  replace H : ((Go.Proofs.Ytnnhplakmagbbaa.HA.wainloadref15_FromDos.f k a0 a1).bind fun bt113 => ((Go.Proofs.Ytnnhplakmagbbaa.HX.times_ToDos.f a2).bind fun bt115 => ((Go.Proofs.Ytnnhplakmagbbaa.HA.wainloadref15_ToDos.f k a2).bind fun bt118 => (if t111 = bt113.1 then (if (t112 != bt113.2) = true then (wainloadlaw15_TimesDos.j0 k a2 bt115.1 bt115.2.1 bt115.2.2 true) else (if bt115.1 = bt118.1 then (if bt115.2.1 = bt118.2.1 then (wainloadlaw15_TimesDos.j0 k a2 bt115.1 bt115.2.1 bt115.2.2 (bt115.2.2 != bt118.2.2)) else (wainloadlaw15_TimesDos.j0 k a2 bt115.1 bt115.2.1 bt115.2.2 true)) else (wainloadlaw15_TimesDos.j0 k a2 bt115.1 bt115.2.1 bt115.2.2 true))) else (wainloadlaw15_TimesDos.j0 k a2 bt115.1 bt115.2.1 bt115.2.2 true))))) = some r := H
  have A4 := Aside0.mk A40
  clear A40
  replace H := Option.bind_eq_some_iff.mp H
  obtain ⟨⟨t113, t114⟩, A50, H⟩ := H
  replace H : ((Go.Proofs.Ytnnhplakmagbbaa.HX.times_ToDos.f a2).bind fun bt115 => ((Go.Proofs.Ytnnhplakmagbbaa.HA.wainloadref15_ToDos.f k a2).bind fun bt118 => (if t111 = t113 then (if (t112 != t114) = true then (wainloadlaw15_TimesDos.j0 k a2 bt115.1 bt115.2.1 bt115.2.2 true) else (if bt115.1 = bt118.1 then (if bt115.2.1 = bt118.2.1 then (wainloadlaw15_TimesDos.j0 k a2 bt115.1 bt115.2.1 bt115.2.2 (bt115.2.2 != bt118.2.2)) else (wainloadlaw15_TimesDos.j0 k a2 bt115.1 bt115.2.1 bt115.2.2 true)) else (wainloadlaw15_TimesDos.j0 k a2 bt115.1 bt115.2.1 bt115.2.2 true))) else (wainloadlaw15_TimesDos.j0 k a2 bt115.1 bt115.2.1 bt115.2.2 true)))) = some r := H
  have A5 := Aside0.mk A50
  clear A50
  replace H := Option.bind_eq_some_iff.mp H
  obtain ⟨⟨t115, t116, t117⟩, A60, H⟩ := H
  replace H : ((Go.Proofs.Ytnnhplakmagbbaa.HA.wainloadref15_ToDos.f k a2).bind fun bt118 => (if t111 = t113 then (if (t112 != t114) = true then (wainloadlaw15_TimesDos.j0 k a2 t115 t116 t117 true) else (if t115 = bt118.1 then (if t116 = bt118.2.1 then (wainloadlaw15_TimesDos.j0 k a2 t115 t116 t117 (t117 != bt118.2.2)) else (wainloadlaw15_TimesDos.j0 k a2 t115 t116 t117 true)) else (wainloadlaw15_TimesDos.j0 k a2 t115 t116 t117 true))) else (wainloadlaw15_TimesDos.j0 k a2 t115 t116 t117 true))) = some r := H
  have A6 := Aside0.mk A60
  clear A60
  replace H := Option.bind_eq_some_iff.mp H
  obtain ⟨⟨t118, t119, t120⟩, A70, H⟩ := H
  replace H : (if t111 = t113 then (if (t112 != t114) = true then (wainloadlaw15_TimesDos.j0 k a2 t115 t116 t117 true) else (if t115 = t118 then (if t116 = t119 then (wainloadlaw15_TimesDos.j0 k a2 t115 t116 t117 (t117 != t120)) else (wainloadlaw15_TimesDos.j0 k a2 t115 t116 t117 true)) else (wainloadlaw15_TimesDos.j0 k a2 t115 t116 t117 true))) else (wainloadlaw15_TimesDos.j0 k a2 t115 t116 t117 true)) = some r := H
  have A7 := Aside0.mk A70
  clear A70
  have HC8 := Aside0.mk H
  clear H
  go_enter Try.func8, Try.ntmps8
  go_upto_region 5 with (first | ((with_reducible refine gate_callee (f := 22) rfl ?_); refine goesL_ (some 22) rfl rfl Try.func22 (by kernel_rfl) rfl #[.int .u16 a0, .int .u16 a1] rfl (by (try simp only [List.map_toArray, List.map_cons, List.map_nil]); first | done | rfl | (simp only [List.length_drop, List.length_take]; rfl)) ?_; (with_reducible refine (Go.Proofs.Ytnnhplakmagbbaa.HX.times_FromDos.calls a0 a1 t111 t112 _ A4.out).mono ?_); rintro e w9 ⟨rfl, hb⟩; refine ⟨_, rfl, ?_⟩; have n0_ := Aside0.mk (below_step (by repeat (first | (with_reducible first | exact HB.out | apply below_alloc | apply pw_below_drewN | apply below_drew1) | exact HB.out)) hb); clear HB; have HB := n0_; clear n0_; (try clear hb); (try clear hb2); (try clear hk); (try clear hi)) | ((with_reducible refine gate_callee (f := 23) rfl ?_); refine goesL_ (some 28) rfl rfl Try.func23 (by kernel_rfl) rfl #[.int .u16 a0, .int .u16 a1] rfl (by (try simp only [List.map_toArray, List.map_cons, List.map_nil]); first | done | rfl | (simp only [List.length_drop, List.length_take]; rfl)) ?_; (with_reducible refine (Go.Proofs.Ytnnhplakmagbbaa.HA.wainloadref15_FromDos.calls k a0 a1 t113 t114 _ A5.out).mono ?_); rintro e w10 ⟨rfl, hb⟩; refine ⟨_, rfl, ?_⟩; have n0_ := Aside0.mk (below_step (by repeat (first | (with_reducible first | exact HB.out | apply below_alloc | apply pw_below_drewN | apply below_drew1) | exact HB.out)) hb); clear HB; have HB := n0_; clear n0_; (try clear hb); (try clear hb2); (try clear hk); (try clear hi)) | ((with_reducible refine gate_callee (f := 24) rfl ?_); refine goesL_ (some 33) rfl rfl Try.func24 (by kernel_rfl) rfl #[.int .i64 a2] rfl (by (try simp only [List.map_toArray, List.map_cons, List.map_nil]); first | done | rfl | (simp only [List.length_drop, List.length_take]; rfl)) ?_; (with_reducible refine (Go.Proofs.Ytnnhplakmagbbaa.HX.times_ToDos.calls a2 t115 t116 t117 _ A6.out).mono ?_); rintro e w11 ⟨rfl, hb⟩; refine ⟨_, rfl, ?_⟩; have n0_ := Aside0.mk (below_step (by repeat (first | (with_reducible first | exact HB.out | apply below_alloc | apply pw_below_drewN | apply below_drew1) | exact HB.out)) hb); clear HB; have HB := n0_; clear n0_; (try clear hb); (try clear hb2); (try clear hk); (try clear hi)) | ((with_reducible refine gate_callee (f := 25) rfl ?_); refine goesL_ (some 39) rfl rfl Try.func25 (by kernel_rfl) rfl #[.int .i64 a2] rfl (by (try simp only [List.map_toArray, List.map_cons, List.map_nil]); first | done | rfl | (simp only [List.length_drop, List.length_take]; rfl)) ?_; (with_reducible refine (Go.Proofs.Ytnnhplakmagbbaa.HA.wainloadref15_ToDos.calls k a2 t118 t119 t120 _ A7.out).mono ?_); rintro e w12 ⟨rfl, hb⟩; refine ⟨_, rfl, ?_⟩; have n0_ := Aside0.mk (below_step (by repeat (first | (with_reducible first | exact HB.out | apply below_alloc | apply pw_below_drewN | apply below_drew1) | exact HB.out)) hb); clear HB; have HB := n0_; clear n0_; (try clear hb); (try clear hb2); (try clear hk); (try clear hi)))
  (try simp only [Act.put, List.setIfInBounds_toArray, List.set_cons_zero, List.set_cons_succ])
  go_cut [65] (fun v65 wc => ∃ (kq : Nat) (x65_7 : Bool), v65 = .bool x65_7 ∧ Aside0 (wainloadlaw15_TimesDos.j0 kq a2 t115 t116 t117 x65_7 = some r) ∧ Aside0 (kq ≤ k) ∧ Aside0 (Below w.heap.size w wc))
  case first =>
    have H := HC8.out
    clear HC8
    by_cases c13 : t111 = t113
    · rw [if_pos c13] at H
      have c13b0 : (t111 == t113) = true := beq_iff_eq.mpr c13
      have c13b1 : (t111 != t113) = false := bne_eq_false_iff_eq.mpr c13
      clear c13
      (first | rw [c13b0] | (simp only [i64_w, i32_w]; rw [c13b0]) | skip)
      by_cases c14 : (t112 != t114) = true
      · rw [if_pos c14] at H
        have c14b0 : (t112 != t114) = true := c14
        (try (have c14b1 : decide (t112 = t114) = false := by simpa using c14))
        (try (have c14b2 : (t112 == t114) = false := by simpa using c14))
        (try (have c14b3 : ¬ (t112 = t114) := by simpa using c14))
        clear c14
        have H' := Aside0.mk H
        clear H
        go_wp2
        go_meet
        case rel => exact ⟨_, (true), (by first | rfl | (simp; done) | (simp [*]; done)), H', ⟨by first | omega | exact Nat.le_refl _⟩, ⟨by repeat (first | (with_reducible first | exact HB.out | apply below_alloc | apply pw_below_drewN | apply below_drew1) | exact HB.out)⟩⟩
      · rw [if_neg c14] at H
        have c14b0 : (t112 != t114) = false := by simpa using c14
        (try (have c14b1 : decide (t112 = t114) = true := by simpa using c14))
        (try (have c14b2 : (t112 == t114) = true := by simpa using c14))
        clear c14
        by_cases c15 : t115 = t118
        · rw [if_pos c15] at H
          have c15b0 : (t115 == t118) = true := beq_iff_eq.mpr c15
          have c15b1 : (t115 != t118) = false := bne_eq_false_iff_eq.mpr c15
          clear c15
          by_cases c16 : t116 = t119
          · rw [if_pos c16] at H
            have c16b0 : (t116 == t119) = true := beq_iff_eq.mpr c16
            have c16b1 : (t116 != t119) = false := bne_eq_false_iff_eq.mpr c16
            clear c16
            have H' := Aside0.mk H
            clear H
            go_wp2
            go_meet
            case rel => exact ⟨_, ((t117 != t120)), (by first | rfl | (simp; done) | (simp [*]; done)), H', ⟨by first | omega | exact Nat.le_refl _⟩, ⟨by repeat (first | (with_reducible first | exact HB.out | apply below_alloc | apply pw_below_drewN | apply below_drew1) | exact HB.out)⟩⟩
          · rw [if_neg c16] at H
            have c16b0 : (t116 == t119) = false := beq_eq_false_iff_ne.mpr c16
            have c16b1 : (t116 != t119) = true := bne_iff_ne.mpr c16
            have H' := Aside0.mk H
            clear H
            go_wp2
            go_meet
            case rel => exact ⟨_, (true), (by first | rfl | (simp; done) | (simp [*]; done)), H', ⟨by first | omega | exact Nat.le_refl _⟩, ⟨by repeat (first | (with_reducible first | exact HB.out | apply below_alloc | apply pw_below_drewN | apply below_drew1) | exact HB.out)⟩⟩
        · rw [if_neg c15] at H
          have c15b0 : (t115 == t118) = false := beq_eq_false_iff_ne.mpr c15
          have c15b1 : (t115 != t118) = true := bne_iff_ne.mpr c15
          have H' := Aside0.mk H
          clear H
          go_wp2
          go_meet
          case rel => exact ⟨_, (true), (by first | rfl | (simp; done) | (simp [*]; done)), H', ⟨by first | omega | exact Nat.le_refl _⟩, ⟨by repeat (first | (with_reducible first | exact HB.out | apply below_alloc | apply pw_below_drewN | apply below_drew1) | exact HB.out)⟩⟩
    · rw [if_neg c13] at H
      have c13b0 : (t111 == t113) = false := beq_eq_false_iff_ne.mpr c13
      have c13b1 : (t111 != t113) = true := bne_iff_ne.mpr c13
      (first | rw [c13b0] | (simp only [i64_w, i32_w]; rw [c13b0]) | skip)
      have H' := Aside0.mk H
      clear H
      go_wp2
      go_meet
      case rel => exact ⟨_, (true), (by first | rfl | (simp; done) | (simp [*]; done)), H', ⟨by first | omega | exact Nat.le_refl _⟩, ⟨by repeat (first | (with_reducible first | exact HB.out | apply below_alloc | apply pw_below_drewN | apply below_drew1) | exact HB.out)⟩⟩
  case rest =>
    clear HC8
    try clear c1
    try clear c2
    try clear p2
    try clear c8
    try clear c13
    try clear c13b0
    try clear c13b1
    try clear c14
    try clear c14b0
    try clear c14b1
    try clear c14b2
    try clear c15
    try clear c15b0
    try clear c15b1
    try clear c16
    try clear c16b0
    try clear c16b1
    obtain ⟨kq, x65_7, rfl, HA, HJ7, HB⟩ := hcut
    cases kq with
    | zero => exact absurd HA.out (by simp [wainloadlaw15_TimesDos.j0])
    | succ kj7 =>
      have H := HA.out
      clear HA
      simp only [wainloadlaw15_TimesDos.j0] at H
      by_cases c17 : x65_7 = true
      · subst c17
        have H1 : (some false) = some r := by rw [if_pos rfl] at H; exact H
        clear H
        have H := H1
        clear H1
        obtain rfl := Option.some.inj H
        go_wp2
        go_ret
        exact ⟨by first | rfl | (simp [errW_none, errW_some] <;> rfl) | (simp [*, errW_none, errW_some] <;> rfl), by repeat (first | (with_reducible first | exact HB.out | apply below_alloc | apply pw_below_drewN | apply below_drew1) | exact HB.out)⟩
      · replace c17 := Bool.eq_false_iff.mpr c17
        subst c17
        have H1 : ((Go.Proofs.Ytnnhplakmagbbaa.HX.times_FromDos.f t115 t116).bind fun bt121 => ((Go.Proofs.Ytnnhplakmagbbaa.HB.wainloadlaw15_alive.f).bind fun t123 => (if t123 = true then (if t117 = true then (if bt121.2 = true then ((Go.Proofs.Ytnnhplakmagbbaa.HA.wainloadref15_Floor.f a2 2000000000).bind fun t124 => (some (bt121.1 == t124))) else (some false)) else (some true)) else (some false)))) = some r := by rw [if_neg (show ¬ (false = true) by decide)] at H; exact H
        clear H
        have H := H1
        clear H1
        replace H := Option.bind_eq_some_iff.mp H
        obtain ⟨⟨t121, t122⟩, A180, H⟩ := H
        replace H : ((Go.Proofs.Ytnnhplakmagbbaa.HB.wainloadlaw15_alive.f).bind fun t123 => (if t123 = true then (if t117 = true then (if t122 = true then ((Go.Proofs.Ytnnhplakmagbbaa.HA.wainloadref15_Floor.f a2 2000000000).bind fun t124 => (some (t121 == t124))) else (some false)) else (some true)) else (some false))) = some r := H
        have A18 := Aside0.mk A180
        clear A180
        replace H := Option.bind_eq_some_iff.mp H
        obtain ⟨t123, A190, H⟩ := H
        replace H : (if t123 = true then (if t117 = true then (if t122 = true then ((Go.Proofs.Ytnnhplakmagbbaa.HA.wainloadref15_Floor.f a2 2000000000).bind fun t124 => (some (t121 == t124))) else (some false)) else (some true)) else (some false)) = some r := H
        have A19 := Aside0.mk A190
        clear A190
        by_cases c20 : t123 = true
        · subst c20
          have H1 : (if t117 = true then (if t122 = true then ((Go.Proofs.Ytnnhplakmagbbaa.HA.wainloadref15_Floor.f a2 2000000000).bind fun t124 => (some (t121 == t124))) else (some false)) else (some true)) = some r := by rw [if_pos rfl] at H; exact H
          clear H
          have H := H1
          clear H1
          by_cases c21 : t117 = true
          · subst c21
            have H1 : (if t122 = true then ((Go.Proofs.Ytnnhplakmagbbaa.HA.wainloadref15_Floor.f a2 2000000000).bind fun t124 => (some (t121 == t124))) else (some false)) = some r := by rw [if_pos rfl] at H; exact H
            clear H
            have H := H1
            clear H1
            by_cases c22 : t122 = true
            · subst c22
              have H1 : ((Go.Proofs.Ytnnhplakmagbbaa.HA.wainloadref15_Floor.f a2 2000000000).bind fun t124 => (some (t121 == t124))) = some r := by rw [if_pos rfl] at H; exact H
              clear H
              have H := H1
              clear H1
              replace H := Option.bind_eq_some_iff.mp H
              obtain ⟨t124, A230, H⟩ := H
              replace H : (some (t121 == t124)) = some r := H
              have A23 := Aside0.mk A230
              clear A230
              obtain rfl := Option.some.inj H
              go_wp2_with (first | ((with_reducible refine gate_callee (f := 22) rfl ?_); refine goesL_ (some 69) rfl rfl Try.func22 (by kernel_rfl) rfl #[.int .u16 t115, .int .u16 t116] rfl (by (try simp only [List.map_toArray, List.map_cons, List.map_nil]); first | done | rfl | (simp only [List.length_drop, List.length_take]; rfl)) ?_; (with_reducible refine (Go.Proofs.Ytnnhplakmagbbaa.HX.times_FromDos.calls t115 t116 t121 true _ A18.out).mono ?_); rintro e w24 ⟨rfl, hb⟩; refine ⟨_, rfl, ?_⟩; have n0_ := Aside0.mk (below_step (by repeat (first | (with_reducible first | exact HB.out | apply below_alloc | apply pw_below_drewN | apply below_drew1) | exact HB.out)) hb); clear HB; have HB := n0_; clear n0_; (try clear hb); (try clear hb2); (try clear hk); (try clear hi)) | ((with_reducible refine gate_callee (f := 13) rfl ?_); refine goesL_ (some 72) rfl rfl Try.func13 (by kernel_rfl) rfl #[] rfl (by (try simp only [List.map_toArray, List.map_cons, List.map_nil]); first | done | rfl | (simp only [List.length_drop, List.length_take]; rfl)) ?_; (with_reducible refine (Go.Proofs.Ytnnhplakmagbbaa.HB.wainloadlaw15_alive.calls  true _ A19.out).mono ?_); rintro e w25 ⟨rfl, hb⟩; refine ⟨_, rfl, ?_⟩; have n0_ := Aside0.mk (below_step (by repeat (first | (with_reducible first | exact HB.out | apply below_alloc | apply pw_below_drewN | apply below_drew1) | exact HB.out)) hb); clear HB; have HB := n0_; clear n0_; (try clear hb); (try clear hb2); (try clear hk); (try clear hi)) | (go_at_call 20; (with_reducible refine (Go.Proofs.Ytnnhplakmagbbaa.HA.wainloadref15_Floor.calls a2 2000000000 t124 _ A23.out).mono ?_); rintro e w' ⟨rfl, ⟨nd, rfl⟩⟩))
              go_ret
              exact ⟨by first | rfl | (simp [errW_none, errW_some] <;> rfl) | (simp [*, errW_none, errW_some] <;> rfl), by repeat (first | (with_reducible first | exact HB.out | apply below_alloc | apply pw_below_drewN | apply below_drew1) | exact HB.out)⟩
            · replace c22 := Bool.eq_false_iff.mpr c22
              subst c22
              have H1 : (some false) = some r := by rw [if_neg (show ¬ (false = true) by decide)] at H; exact H
              clear H
              have H := H1
              clear H1
              obtain rfl := Option.some.inj H
              go_wp2_with (first | ((with_reducible refine gate_callee (f := 22) rfl ?_); refine goesL_ (some 69) rfl rfl Try.func22 (by kernel_rfl) rfl #[.int .u16 t115, .int .u16 t116] rfl (by (try simp only [List.map_toArray, List.map_cons, List.map_nil]); first | done | rfl | (simp only [List.length_drop, List.length_take]; rfl)) ?_; (with_reducible refine (Go.Proofs.Ytnnhplakmagbbaa.HX.times_FromDos.calls t115 t116 t121 false _ A18.out).mono ?_); rintro e w26 ⟨rfl, hb⟩; refine ⟨_, rfl, ?_⟩; have n0_ := Aside0.mk (below_step (by repeat (first | (with_reducible first | exact HB.out | apply below_alloc | apply pw_below_drewN | apply below_drew1) | exact HB.out)) hb); clear HB; have HB := n0_; clear n0_; (try clear hb); (try clear hb2); (try clear hk); (try clear hi)) | ((with_reducible refine gate_callee (f := 13) rfl ?_); refine goesL_ (some 72) rfl rfl Try.func13 (by kernel_rfl) rfl #[] rfl (by (try simp only [List.map_toArray, List.map_cons, List.map_nil]); first | done | rfl | (simp only [List.length_drop, List.length_take]; rfl)) ?_; (with_reducible refine (Go.Proofs.Ytnnhplakmagbbaa.HB.wainloadlaw15_alive.calls  true _ A19.out).mono ?_); rintro e w27 ⟨rfl, hb⟩; refine ⟨_, rfl, ?_⟩; have n0_ := Aside0.mk (below_step (by repeat (first | (with_reducible first | exact HB.out | apply below_alloc | apply pw_below_drewN | apply below_drew1) | exact HB.out)) hb); clear HB; have HB := n0_; clear n0_; (try clear hb); (try clear hb2); (try clear hk); (try clear hi)))
              go_ret
              exact ⟨by first | rfl | (simp [errW_none, errW_some] <;> rfl) | (simp [*, errW_none, errW_some] <;> rfl), by repeat (first | (with_reducible first | exact HB.out | apply below_alloc | apply pw_below_drewN | apply below_drew1) | exact HB.out)⟩
          · replace c21 := Bool.eq_false_iff.mpr c21
            subst c21
            have H1 : (some true) = some r := by rw [if_neg (show ¬ (false = true) by decide)] at H; exact H
            clear H
            have H := H1
            clear H1
            obtain rfl := Option.some.inj H
            go_wp2_with (first | ((with_reducible refine gate_callee (f := 22) rfl ?_); refine goesL_ (some 69) rfl rfl Try.func22 (by kernel_rfl) rfl #[.int .u16 t115, .int .u16 t116] rfl (by (try simp only [List.map_toArray, List.map_cons, List.map_nil]); first | done | rfl | (simp only [List.length_drop, List.length_take]; rfl)) ?_; (with_reducible refine (Go.Proofs.Ytnnhplakmagbbaa.HX.times_FromDos.calls t115 t116 t121 t122 _ A18.out).mono ?_); rintro e w28 ⟨rfl, hb⟩; refine ⟨_, rfl, ?_⟩; have n0_ := Aside0.mk (below_step (by repeat (first | (with_reducible first | exact HB.out | apply below_alloc | apply pw_below_drewN | apply below_drew1) | exact HB.out)) hb); clear HB; have HB := n0_; clear n0_; (try clear hb); (try clear hb2); (try clear hk); (try clear hi)) | ((with_reducible refine gate_callee (f := 13) rfl ?_); refine goesL_ (some 72) rfl rfl Try.func13 (by kernel_rfl) rfl #[] rfl (by (try simp only [List.map_toArray, List.map_cons, List.map_nil]); first | done | rfl | (simp only [List.length_drop, List.length_take]; rfl)) ?_; (with_reducible refine (Go.Proofs.Ytnnhplakmagbbaa.HB.wainloadlaw15_alive.calls  true _ A19.out).mono ?_); rintro e w29 ⟨rfl, hb⟩; refine ⟨_, rfl, ?_⟩; have n0_ := Aside0.mk (below_step (by repeat (first | (with_reducible first | exact HB.out | apply below_alloc | apply pw_below_drewN | apply below_drew1) | exact HB.out)) hb); clear HB; have HB := n0_; clear n0_; (try clear hb); (try clear hb2); (try clear hk); (try clear hi)))
            go_ret
            exact ⟨by first | rfl | (simp [errW_none, errW_some] <;> rfl) | (simp [*, errW_none, errW_some] <;> rfl), by repeat (first | (with_reducible first | exact HB.out | apply below_alloc | apply pw_below_drewN | apply below_drew1) | exact HB.out)⟩
        · replace c20 := Bool.eq_false_iff.mpr c20
          subst c20
          have H1 : (some false) = some r := by rw [if_neg (show ¬ (false = true) by decide)] at H; exact H
          clear H
          have H := H1
          clear H1
          obtain rfl := Option.some.inj H
          go_wp2_with (first | ((with_reducible refine gate_callee (f := 22) rfl ?_); refine goesL_ (some 69) rfl rfl Try.func22 (by kernel_rfl) rfl #[.int .u16 t115, .int .u16 t116] rfl (by (try simp only [List.map_toArray, List.map_cons, List.map_nil]); first | done | rfl | (simp only [List.length_drop, List.length_take]; rfl)) ?_; (with_reducible refine (Go.Proofs.Ytnnhplakmagbbaa.HX.times_FromDos.calls t115 t116 t121 t122 _ A18.out).mono ?_); rintro e w30 ⟨rfl, hb⟩; refine ⟨_, rfl, ?_⟩; have n0_ := Aside0.mk (below_step (by repeat (first | (with_reducible first | exact HB.out | apply below_alloc | apply pw_below_drewN | apply below_drew1) | exact HB.out)) hb); clear HB; have HB := n0_; clear n0_; (try clear hb); (try clear hb2); (try clear hk); (try clear hi)) | ((with_reducible refine gate_callee (f := 13) rfl ?_); refine goesL_ (some 72) rfl rfl Try.func13 (by kernel_rfl) rfl #[] rfl (by (try simp only [List.map_toArray, List.map_cons, List.map_nil]); first | done | rfl | (simp only [List.length_drop, List.length_take]; rfl)) ?_; (with_reducible refine (Go.Proofs.Ytnnhplakmagbbaa.HB.wainloadlaw15_alive.calls  false _ A19.out).mono ?_); rintro e w31 ⟨rfl, hb⟩; refine ⟨_, rfl, ?_⟩; have n0_ := Aside0.mk (below_step (by repeat (first | (with_reducible first | exact HB.out | apply below_alloc | apply pw_below_drewN | apply below_drew1) | exact HB.out)) hb); clear HB; have HB := n0_; clear n0_; (try clear hb); (try clear hb2); (try clear hk); (try clear hi)))
          go_ret
          exact ⟨by first | rfl | (simp [errW_none, errW_some] <;> rfl) | (simp [*, errW_none, errW_some] <;> rfl), by repeat (first | (with_reducible first | exact HB.out | apply below_alloc | apply pw_below_drewN | apply below_drew1) | exact HB.out)⟩

/-- THE ONE PURE STATEMENT of wainloadlaw15_TimesDos: yours. -/
def wainloadlaw15_TimesDos.Pure : Prop := ∀ (a0 : Int) (a1 : Int) (a2 : Int), (Lit.int .u16 a0).wf = true → (Lit.int .u16 a1).wf = true → (Lit.int .i64 a2).wf = true → ∃ k, wainloadlaw15_TimesDos.f k a0 a1 a2 = some true
theorem wainloadlaw15_TimesDos.walk (P : wainloadlaw15_TimesDos.Pure) (a0 : Int) (a1 : Int) (a2 : Int) (w : World) (w0 : (Lit.int .u16 a0).wf = true) (w1 : (Lit.int .u16 a1).wf = true) (w2 : (Lit.int .i64 a2).wf = true) :
    Calls Try.prog 8 #[.int .u16 a0, .int .u16 a1, .int .i64 a2] w fun e w' => e = .returned (.bool true) ∧ Below w.heap.size w w' := by
  obtain ⟨k, h⟩ := P a0 a1 a2 w0 w1 w2
  refine (wainloadlaw15_TimesDos.calls k a0 a1 a2 true w h).mono ?_
  rintro e w' ⟨rfl, hd⟩
  exact ⟨rfl, hd⟩

/-! ### wainloadlaw15_TimesUnix: function 9 -/
def wainloadlaw15_TimesUnix.f (a0 : Int) (a1 : Int) : Option (Bool) := (Go.Proofs.Ytnnhplakmagbbaa.HA.times_FromUnix.f a0).bind fun bt125 => ((Go.Proofs.Ytnnhplakmagbbaa.HA.wainloadref15_FromUnix.f a0).bind fun bt127 => ((Go.Proofs.Ytnnhplakmagbbaa.HB.wainloadlaw15_alive.f).bind fun t129 => (if t129 = true then (if bt125.1 = bt127.1 then (if (bt125.2 == bt127.2) = true then ((Go.Proofs.Ytnnhplakmagbbaa.HA.times_ToUnix.f a1).bind fun t130 => ((Go.Proofs.Ytnnhplakmagbbaa.HA.wainloadref15_ToUnix.f a1).bind fun t131 => (some (t130 == t131)))) else (some false)) else (some false)) else (some false))))
set_option maxHeartbeats 8000000 in
set_option maxRecDepth 100000 in
theorem wainloadlaw15_TimesUnix.calls (a0 : Int) (a1 : Int) (r : Bool) (w : World) (h : wainloadlaw15_TimesUnix.f a0 a1 = some r) :
    Calls Try.prog 9 #[.int .i64 a0, .int .i64 a1] w fun e w' => e = .returned (.bool r) ∧ Below w.heap.size w w' := by
  have HB := Aside0.mk (Below.refl w.heap.size w)
  have H : ((Go.Proofs.Ytnnhplakmagbbaa.HA.times_FromUnix.f a0).bind fun bt125 => ((Go.Proofs.Ytnnhplakmagbbaa.HA.wainloadref15_FromUnix.f a0).bind fun bt127 => ((Go.Proofs.Ytnnhplakmagbbaa.HB.wainloadlaw15_alive.f).bind fun t129 => (if t129 = true then (if bt125.1 = bt127.1 then (if (bt125.2 == bt127.2) = true then ((Go.Proofs.Ytnnhplakmagbbaa.HA.times_ToUnix.f a1).bind fun t130 => ((Go.Proofs.Ytnnhplakmagbbaa.HA.wainloadref15_ToUnix.f a1).bind fun t131 => (some (t130 == t131)))) else (some false)) else (some false)) else (some false))))) = some r := h
  clear h
  replace H := Option.bind_eq_some_iff.mp H
  obtain ⟨⟨t125, t126⟩, A30, H⟩ := H
  replace H : ((Go.Proofs.Ytnnhplakmagbbaa.HA.wainloadref15_FromUnix.f a0).bind fun bt127 => ((Go.Proofs.Ytnnhplakmagbbaa.HB.wainloadlaw15_alive.f).bind fun t129 => (if t129 = true then (if t125 = bt127.1 then (if (t126 == bt127.2) = true then ((Go.Proofs.Ytnnhplakmagbbaa.HA.times_ToUnix.f a1).bind fun t130 => ((Go.Proofs.Ytnnhplakmagbbaa.HA.wainloadref15_ToUnix.f a1).bind fun t131 => (some (t130 == t131)))) else (some false)) else (some false)) else (some false)))) = some r := H
  have A3 := Aside0.mk A30
  clear A30
  replace H := Option.bind_eq_some_iff.mp H
  obtain ⟨⟨t127, t128⟩, A40, H⟩ := H
  replace H : ((Go.Proofs.Ytnnhplakmagbbaa.HB.wainloadlaw15_alive.f).bind fun t129 => (if t129 = true then (if t125 = t127 then (if (t126 == t128) = true then ((Go.Proofs.Ytnnhplakmagbbaa.HA.times_ToUnix.f a1).bind fun t130 => ((Go.Proofs.Ytnnhplakmagbbaa.HA.wainloadref15_ToUnix.f a1).bind fun t131 => (some (t130 == t131)))) else (some false)) else (some false)) else (some false))) = some r := H
  have A4 := Aside0.mk A40
  clear A40
  replace H := Option.bind_eq_some_iff.mp H
  obtain ⟨t129, A50, H⟩ := H
  replace H : (if t129 = true then (if t125 = t127 then (if (t126 == t128) = true then ((Go.Proofs.Ytnnhplakmagbbaa.HA.times_ToUnix.f a1).bind fun t130 => ((Go.Proofs.Ytnnhplakmagbbaa.HA.wainloadref15_ToUnix.f a1).bind fun t131 => (some (t130 == t131)))) else (some false)) else (some false)) else (some false)) = some r := H
  have A5 := Aside0.mk A50
  clear A50
  by_cases c6 : t129 = true
  · subst c6
    have H1 : (if t125 = t127 then (if (t126 == t128) = true then ((Go.Proofs.Ytnnhplakmagbbaa.HA.times_ToUnix.f a1).bind fun t130 => ((Go.Proofs.Ytnnhplakmagbbaa.HA.wainloadref15_ToUnix.f a1).bind fun t131 => (some (t130 == t131)))) else (some false)) else (some false)) = some r := by rw [if_pos rfl] at H; exact H
    clear H
    have H := H1
    clear H1
    by_cases c7 : t125 = t127
    · rw [if_pos c7] at H
      have c7b0 : (t125 == t127) = true := beq_iff_eq.mpr c7
      have c7b1 : (t125 != t127) = false := bne_eq_false_iff_eq.mpr c7
      clear c7
      by_cases c8 : (t126 == t128) = true
      · rw [if_pos c8] at H
        have c8b0 : (t126 == t128) = true := c8
        (try (have c8b1 : decide (t126 = t128) = true := by simpa using c8))
        (try (have c8b2 : (t126 == t128) = true := by simpa using c8))
        clear c8
        replace H := Option.bind_eq_some_iff.mp H
        obtain ⟨t130, A90, H⟩ := H
        replace H : ((Go.Proofs.Ytnnhplakmagbbaa.HA.wainloadref15_ToUnix.f a1).bind fun t131 => (some (t130 == t131))) = some r := H
        have A9 := Aside0.mk A90
        clear A90
        replace H := Option.bind_eq_some_iff.mp H
        obtain ⟨t131, A100, H⟩ := H
        replace H : (some (t130 == t131)) = some r := H
        have A10 := Aside0.mk A100
        clear A100
        obtain rfl := Option.some.inj H
        go_enter Try.func9, Try.ntmps9
        go_wp2_with (first | ((with_reducible refine gate_callee (f := 26) rfl ?_); refine goesL_ (some 11) rfl rfl Try.func26 (by kernel_rfl) rfl #[.int .i64 a0] rfl (by (try simp only [List.map_toArray, List.map_cons, List.map_nil]); first | done | rfl | (simp only [List.length_drop, List.length_take]; rfl)) ?_; (with_reducible refine (Go.Proofs.Ytnnhplakmagbbaa.HA.times_FromUnix.calls a0 t125 t126 _ A3.out).mono ?_); rintro e w' ⟨rfl, ⟨nd, rfl⟩⟩; refine ⟨_, rfl, ?_⟩) | ((with_reducible refine gate_callee (f := 27) rfl ?_); refine goesL_ (some 16) rfl rfl Try.func27 (by kernel_rfl) rfl #[.int .i64 a0] rfl (by (try simp only [List.map_toArray, List.map_cons, List.map_nil]); first | done | rfl | (simp only [List.length_drop, List.length_take]; rfl)) ?_; (with_reducible refine (Go.Proofs.Ytnnhplakmagbbaa.HA.wainloadref15_FromUnix.calls a0 t127 t128 _ A4.out).mono ?_); rintro e w' ⟨rfl, ⟨nd, rfl⟩⟩; refine ⟨_, rfl, ?_⟩) | ((with_reducible refine gate_callee (f := 13) rfl ?_); refine goesL_ (some 19) rfl rfl Try.func13 (by kernel_rfl) rfl #[] rfl (by (try simp only [List.map_toArray, List.map_cons, List.map_nil]); first | done | rfl | (simp only [List.length_drop, List.length_take]; rfl)) ?_; (with_reducible refine (Go.Proofs.Ytnnhplakmagbbaa.HB.wainloadlaw15_alive.calls  true _ A5.out).mono ?_); rintro e w11 ⟨rfl, hb⟩; refine ⟨_, rfl, ?_⟩; have n0_ := Aside0.mk (below_step (by repeat (first | (with_reducible first | exact HB.out | apply below_alloc | apply pw_below_drewN | apply below_drew1) | exact HB.out)) hb); clear HB; have HB := n0_; clear n0_; (try clear hb); (try clear hb2); (try clear hk); (try clear hi)) | (go_at_call 21; (with_reducible refine (Go.Proofs.Ytnnhplakmagbbaa.HA.times_ToUnix.calls a1 t130 _ A9.out).mono ?_); rintro e w' ⟨rfl, ⟨nd, rfl⟩⟩) | (go_at_call 28; (with_reducible refine (Go.Proofs.Ytnnhplakmagbbaa.HA.wainloadref15_ToUnix.calls a1 t131 _ A10.out).mono ?_); rintro e w' ⟨rfl, ⟨nd, rfl⟩⟩))
        go_ret
        exact ⟨by first | rfl | (simp [errW_none, errW_some] <;> rfl) | (simp [*, errW_none, errW_some] <;> rfl), by repeat (first | (with_reducible first | exact HB.out | apply below_alloc | apply pw_below_drewN | apply below_drew1) | exact HB.out)⟩
      · rw [if_neg c8] at H
        have c8b0 : (t126 == t128) = false := by simpa using c8
        (try (have c8b1 : decide (t126 = t128) = false := by simpa using c8))
        (try (have c8b2 : (t126 == t128) = false := by simpa using c8))
        (try (have c8b3 : ¬ (t126 = t128) := by simpa using c8))
        clear c8
        obtain rfl := Option.some.inj H
        go_enter Try.func9, Try.ntmps9
        go_wp2_with (first | ((with_reducible refine gate_callee (f := 26) rfl ?_); refine goesL_ (some 11) rfl rfl Try.func26 (by kernel_rfl) rfl #[.int .i64 a0] rfl (by (try simp only [List.map_toArray, List.map_cons, List.map_nil]); first | done | rfl | (simp only [List.length_drop, List.length_take]; rfl)) ?_; (with_reducible refine (Go.Proofs.Ytnnhplakmagbbaa.HA.times_FromUnix.calls a0 t125 t126 _ A3.out).mono ?_); rintro e w' ⟨rfl, ⟨nd, rfl⟩⟩; refine ⟨_, rfl, ?_⟩) | ((with_reducible refine gate_callee (f := 27) rfl ?_); refine goesL_ (some 16) rfl rfl Try.func27 (by kernel_rfl) rfl #[.int .i64 a0] rfl (by (try simp only [List.map_toArray, List.map_cons, List.map_nil]); first | done | rfl | (simp only [List.length_drop, List.length_take]; rfl)) ?_; (with_reducible refine (Go.Proofs.Ytnnhplakmagbbaa.HA.wainloadref15_FromUnix.calls a0 t127 t128 _ A4.out).mono ?_); rintro e w' ⟨rfl, ⟨nd, rfl⟩⟩; refine ⟨_, rfl, ?_⟩) | ((with_reducible refine gate_callee (f := 13) rfl ?_); refine goesL_ (some 19) rfl rfl Try.func13 (by kernel_rfl) rfl #[] rfl (by (try simp only [List.map_toArray, List.map_cons, List.map_nil]); first | done | rfl | (simp only [List.length_drop, List.length_take]; rfl)) ?_; (with_reducible refine (Go.Proofs.Ytnnhplakmagbbaa.HB.wainloadlaw15_alive.calls  true _ A5.out).mono ?_); rintro e w12 ⟨rfl, hb⟩; refine ⟨_, rfl, ?_⟩; have n0_ := Aside0.mk (below_step (by repeat (first | (with_reducible first | exact HB.out | apply below_alloc | apply pw_below_drewN | apply below_drew1) | exact HB.out)) hb); clear HB; have HB := n0_; clear n0_; (try clear hb); (try clear hb2); (try clear hk); (try clear hi)))
        go_ret
        exact ⟨by first | rfl | (simp [errW_none, errW_some] <;> rfl) | (simp [*, errW_none, errW_some] <;> rfl), by repeat (first | (with_reducible first | exact HB.out | apply below_alloc | apply pw_below_drewN | apply below_drew1) | exact HB.out)⟩
    · rw [if_neg c7] at H
      have c7b0 : (t125 == t127) = false := beq_eq_false_iff_ne.mpr c7
      have c7b1 : (t125 != t127) = true := bne_iff_ne.mpr c7
      obtain rfl := Option.some.inj H
      go_enter Try.func9, Try.ntmps9
      go_wp2_with (first | ((with_reducible refine gate_callee (f := 26) rfl ?_); refine goesL_ (some 11) rfl rfl Try.func26 (by kernel_rfl) rfl #[.int .i64 a0] rfl (by (try simp only [List.map_toArray, List.map_cons, List.map_nil]); first | done | rfl | (simp only [List.length_drop, List.length_take]; rfl)) ?_; (with_reducible refine (Go.Proofs.Ytnnhplakmagbbaa.HA.times_FromUnix.calls a0 t125 t126 _ A3.out).mono ?_); rintro e w' ⟨rfl, ⟨nd, rfl⟩⟩; refine ⟨_, rfl, ?_⟩) | ((with_reducible refine gate_callee (f := 27) rfl ?_); refine goesL_ (some 16) rfl rfl Try.func27 (by kernel_rfl) rfl #[.int .i64 a0] rfl (by (try simp only [List.map_toArray, List.map_cons, List.map_nil]); first | done | rfl | (simp only [List.length_drop, List.length_take]; rfl)) ?_; (with_reducible refine (Go.Proofs.Ytnnhplakmagbbaa.HA.wainloadref15_FromUnix.calls a0 t127 t128 _ A4.out).mono ?_); rintro e w' ⟨rfl, ⟨nd, rfl⟩⟩; refine ⟨_, rfl, ?_⟩) | ((with_reducible refine gate_callee (f := 13) rfl ?_); refine goesL_ (some 19) rfl rfl Try.func13 (by kernel_rfl) rfl #[] rfl (by (try simp only [List.map_toArray, List.map_cons, List.map_nil]); first | done | rfl | (simp only [List.length_drop, List.length_take]; rfl)) ?_; (with_reducible refine (Go.Proofs.Ytnnhplakmagbbaa.HB.wainloadlaw15_alive.calls  true _ A5.out).mono ?_); rintro e w13 ⟨rfl, hb⟩; refine ⟨_, rfl, ?_⟩; have n0_ := Aside0.mk (below_step (by repeat (first | (with_reducible first | exact HB.out | apply below_alloc | apply pw_below_drewN | apply below_drew1) | exact HB.out)) hb); clear HB; have HB := n0_; clear n0_; (try clear hb); (try clear hb2); (try clear hk); (try clear hi)))
      go_ret
      exact ⟨by first | rfl | (simp [errW_none, errW_some] <;> rfl) | (simp [*, errW_none, errW_some] <;> rfl), by repeat (first | (with_reducible first | exact HB.out | apply below_alloc | apply pw_below_drewN | apply below_drew1) | exact HB.out)⟩
  · replace c6 := Bool.eq_false_iff.mpr c6
    subst c6
    have H1 : (some false) = some r := by rw [if_neg (show ¬ (false = true) by decide)] at H; exact H
    clear H
    have H := H1
    clear H1
    obtain rfl := Option.some.inj H
    go_enter Try.func9, Try.ntmps9
    go_wp2_with (first | ((with_reducible refine gate_callee (f := 26) rfl ?_); refine goesL_ (some 11) rfl rfl Try.func26 (by kernel_rfl) rfl #[.int .i64 a0] rfl (by (try simp only [List.map_toArray, List.map_cons, List.map_nil]); first | done | rfl | (simp only [List.length_drop, List.length_take]; rfl)) ?_; (with_reducible refine (Go.Proofs.Ytnnhplakmagbbaa.HA.times_FromUnix.calls a0 t125 t126 _ A3.out).mono ?_); rintro e w' ⟨rfl, ⟨nd, rfl⟩⟩; refine ⟨_, rfl, ?_⟩) | ((with_reducible refine gate_callee (f := 27) rfl ?_); refine goesL_ (some 16) rfl rfl Try.func27 (by kernel_rfl) rfl #[.int .i64 a0] rfl (by (try simp only [List.map_toArray, List.map_cons, List.map_nil]); first | done | rfl | (simp only [List.length_drop, List.length_take]; rfl)) ?_; (with_reducible refine (Go.Proofs.Ytnnhplakmagbbaa.HA.wainloadref15_FromUnix.calls a0 t127 t128 _ A4.out).mono ?_); rintro e w' ⟨rfl, ⟨nd, rfl⟩⟩; refine ⟨_, rfl, ?_⟩) | ((with_reducible refine gate_callee (f := 13) rfl ?_); refine goesL_ (some 19) rfl rfl Try.func13 (by kernel_rfl) rfl #[] rfl (by (try simp only [List.map_toArray, List.map_cons, List.map_nil]); first | done | rfl | (simp only [List.length_drop, List.length_take]; rfl)) ?_; (with_reducible refine (Go.Proofs.Ytnnhplakmagbbaa.HB.wainloadlaw15_alive.calls  false _ A5.out).mono ?_); rintro e w14 ⟨rfl, hb⟩; refine ⟨_, rfl, ?_⟩; have n0_ := Aside0.mk (below_step (by repeat (first | (with_reducible first | exact HB.out | apply below_alloc | apply pw_below_drewN | apply below_drew1) | exact HB.out)) hb); clear HB; have HB := n0_; clear n0_; (try clear hb); (try clear hb2); (try clear hk); (try clear hi)))
    go_ret
    exact ⟨by first | rfl | (simp [errW_none, errW_some] <;> rfl) | (simp [*, errW_none, errW_some] <;> rfl), by repeat (first | (with_reducible first | exact HB.out | apply below_alloc | apply pw_below_drewN | apply below_drew1) | exact HB.out)⟩

/-- THE ONE PURE STATEMENT of wainloadlaw15_TimesUnix: yours. -/
def wainloadlaw15_TimesUnix.Pure : Prop := ∀ (a0 : Int) (a1 : Int), (Lit.int .i64 a0).wf = true → (Lit.int .i64 a1).wf = true → wainloadlaw15_TimesUnix.f a0 a1 = some true
theorem wainloadlaw15_TimesUnix.walk (P : wainloadlaw15_TimesUnix.Pure) (a0 : Int) (a1 : Int) (w : World) (w0 : (Lit.int .i64 a0).wf = true) (w1 : (Lit.int .i64 a1).wf = true) :
    Calls Try.prog 9 #[.int .i64 a0, .int .i64 a1] w fun e w' => e = .returned (.bool true) ∧ Below w.heap.size w w' := by
  have h := P a0 a1 w0 w1
  refine (wainloadlaw15_TimesUnix.calls a0 a1 true w h).mono ?_
  rintro e w' ⟨rfl, hd⟩
  exact ⟨rfl, hd⟩

/-! ### wainloadlaw15_TimesFloors: function 10 -/
def wainloadlaw15_TimesFloors.f (a0 : Int) (a1 : Int) : Option (Bool) := (Go.Proofs.Ytnnhplakmagbbaa.HB.times_Floor.f a0 a1).bind fun t132 => ((Go.Proofs.Ytnnhplakmagbbaa.HB.wainloadlaw15_alive.f).bind fun t133 => (if t133 = true then ((Go.Proofs.Ytnnhplakmagbbaa.HA.wainloadref15_Floor.f a0 a1).bind fun t134 => (if t132 = t134 then (if t132 ≤ a0 then (if a1 < 1 then (some true) else (if t132 = a0 then (some true) else (if a1 = 0 then (none) else (some ((Int.tmod t132 a1) == 0))))) else (some false)) else (some false))) else (some false)))
set_option maxHeartbeats 8000000 in
set_option maxRecDepth 100000 in
theorem wainloadlaw15_TimesFloors.calls (a0 : Int) (a1 : Int) (r : Bool) (w : World) (h : wainloadlaw15_TimesFloors.f a0 a1 = some r) :
    Calls Try.prog 10 #[.int .i64 a0, .int .i64 a1] w fun e w' => e = .returned (.bool r) ∧ Below w.heap.size w w' := by
  have HB := Aside0.mk (Below.refl w.heap.size w)
  have H : ((Go.Proofs.Ytnnhplakmagbbaa.HB.times_Floor.f a0 a1).bind fun t132 => ((Go.Proofs.Ytnnhplakmagbbaa.HB.wainloadlaw15_alive.f).bind fun t133 => (if t133 = true then ((Go.Proofs.Ytnnhplakmagbbaa.HA.wainloadref15_Floor.f a0 a1).bind fun t134 => (if t132 = t134 then (if t132 ≤ a0 then (if a1 < 1 then (some true) else (if t132 = a0 then (some true) else (if a1 = 0 then (none) else (some ((Int.tmod t132 a1) == 0))))) else (some false)) else (some false))) else (some false)))) = some r := h
  clear h
  replace H := Option.bind_eq_some_iff.mp H
  obtain ⟨t132, A30, H⟩ := H
  replace H : ((Go.Proofs.Ytnnhplakmagbbaa.HB.wainloadlaw15_alive.f).bind fun t133 => (if t133 = true then ((Go.Proofs.Ytnnhplakmagbbaa.HA.wainloadref15_Floor.f a0 a1).bind fun t134 => (if t132 = t134 then (if t132 ≤ a0 then (if a1 < 1 then (some true) else (if t132 = a0 then (some true) else (if a1 = 0 then (none) else (some ((Int.tmod t132 a1) == 0))))) else (some false)) else (some false))) else (some false))) = some r := H
  have A3 := Aside0.mk A30
  clear A30
  replace H := Option.bind_eq_some_iff.mp H
  obtain ⟨t133, A40, H⟩ := H
  replace H : (if t133 = true then ((Go.Proofs.Ytnnhplakmagbbaa.HA.wainloadref15_Floor.f a0 a1).bind fun t134 => (if t132 = t134 then (if t132 ≤ a0 then (if a1 < 1 then (some true) else (if t132 = a0 then (some true) else (if a1 = 0 then (none) else (some ((Int.tmod t132 a1) == 0))))) else (some false)) else (some false))) else (some false)) = some r := H
  have A4 := Aside0.mk A40
  clear A40
  by_cases c5 : t133 = true
  · subst c5
    have H1 : ((Go.Proofs.Ytnnhplakmagbbaa.HA.wainloadref15_Floor.f a0 a1).bind fun t134 => (if t132 = t134 then (if t132 ≤ a0 then (if a1 < 1 then (some true) else (if t132 = a0 then (some true) else (if a1 = 0 then (none) else (some ((Int.tmod t132 a1) == 0))))) else (some false)) else (some false))) = some r := by rw [if_pos rfl] at H; exact H
    clear H
    have H := H1
    clear H1
    replace H := Option.bind_eq_some_iff.mp H
    obtain ⟨t134, A60, H⟩ := H
    replace H : (if t132 = t134 then (if t132 ≤ a0 then (if a1 < 1 then (some true) else (if t132 = a0 then (some true) else (if a1 = 0 then (none) else (some ((Int.tmod t132 a1) == 0))))) else (some false)) else (some false)) = some r := H
    have A6 := Aside0.mk A60
    clear A60
    by_cases c7 : t132 = t134
    · rw [if_pos c7] at H
      have c7b0 : (t132 == t134) = true := beq_iff_eq.mpr c7
      have c7b1 : (t132 != t134) = false := bne_eq_false_iff_eq.mpr c7
      clear c7
      by_cases c8 : t132 ≤ a0
      · rw [if_pos c8] at H
        have c8b0 : decide (t132 ≤ a0) = true := decide_eq_true c8
        clear c8
        by_cases c9 : a1 < 1
        · rw [if_pos c9] at H
          have c9b0 : decide (a1 < 1) = true := decide_eq_true c9
          clear c9
          obtain rfl := Option.some.inj H
          go_enter Try.func10, Try.ntmps10
          go_wp2_with (first | ((with_reducible refine gate_callee (f := 29) rfl ?_); refine goesL_ (some 8) rfl rfl Try.func29 (by kernel_rfl) rfl #[.int .i64 a0, .int .i64 a1] rfl (by (try simp only [List.map_toArray, List.map_cons, List.map_nil]); first | done | rfl | (simp only [List.length_drop, List.length_take]; rfl)) ?_; (with_reducible refine (Go.Proofs.Ytnnhplakmagbbaa.HB.times_Floor.calls a0 a1 t132 _ A3.out).mono ?_); rintro e w' ⟨rfl, ⟨nd, rfl⟩⟩; refine ⟨_, rfl, ?_⟩) | ((with_reducible refine gate_callee (f := 13) rfl ?_); refine goesL_ (some 9) rfl rfl Try.func13 (by kernel_rfl) rfl #[] rfl (by (try simp only [List.map_toArray, List.map_cons, List.map_nil]); first | done | rfl | (simp only [List.length_drop, List.length_take]; rfl)) ?_; (with_reducible refine (Go.Proofs.Ytnnhplakmagbbaa.HB.wainloadlaw15_alive.calls  true _ A4.out).mono ?_); rintro e w10 ⟨rfl, hb⟩; refine ⟨_, rfl, ?_⟩; have n0_ := Aside0.mk (below_step (by repeat (first | (with_reducible first | exact HB.out | apply below_alloc | apply pw_below_drewN | apply below_drew1) | exact HB.out)) hb); clear HB; have HB := n0_; clear n0_; (try clear hb); (try clear hb2); (try clear hk); (try clear hi)) | (go_at_call 20; (with_reducible refine (Go.Proofs.Ytnnhplakmagbbaa.HA.wainloadref15_Floor.calls a0 a1 t134 _ A6.out).mono ?_); rintro e w' ⟨rfl, ⟨nd, rfl⟩⟩))
          go_ret
          exact ⟨by first | rfl | (simp [errW_none, errW_some] <;> rfl) | (simp [*, errW_none, errW_some] <;> rfl), by repeat (first | (with_reducible first | exact HB.out | apply below_alloc | apply pw_below_drewN | apply below_drew1) | exact HB.out)⟩
        · rw [if_neg c9] at H
          have c9b0 : decide (a1 < 1) = false := decide_eq_false c9
          clear c9
          by_cases c11 : t132 = a0
          · rw [if_pos c11] at H
            have c11b0 : (t132 == a0) = true := beq_iff_eq.mpr c11
            have c11b1 : (t132 != a0) = false := bne_eq_false_iff_eq.mpr c11
            clear c11
            obtain rfl := Option.some.inj H
            go_enter Try.func10, Try.ntmps10
            go_wp2_with (first | ((with_reducible refine gate_callee (f := 29) rfl ?_); refine goesL_ (some 8) rfl rfl Try.func29 (by kernel_rfl) rfl #[.int .i64 a0, .int .i64 a1] rfl (by (try simp only [List.map_toArray, List.map_cons, List.map_nil]); first | done | rfl | (simp only [List.length_drop, List.length_take]; rfl)) ?_; (with_reducible refine (Go.Proofs.Ytnnhplakmagbbaa.HB.times_Floor.calls a0 a1 t132 _ A3.out).mono ?_); rintro e w' ⟨rfl, ⟨nd, rfl⟩⟩; refine ⟨_, rfl, ?_⟩) | ((with_reducible refine gate_callee (f := 13) rfl ?_); refine goesL_ (some 9) rfl rfl Try.func13 (by kernel_rfl) rfl #[] rfl (by (try simp only [List.map_toArray, List.map_cons, List.map_nil]); first | done | rfl | (simp only [List.length_drop, List.length_take]; rfl)) ?_; (with_reducible refine (Go.Proofs.Ytnnhplakmagbbaa.HB.wainloadlaw15_alive.calls  true _ A4.out).mono ?_); rintro e w12 ⟨rfl, hb⟩; refine ⟨_, rfl, ?_⟩; have n0_ := Aside0.mk (below_step (by repeat (first | (with_reducible first | exact HB.out | apply below_alloc | apply pw_below_drewN | apply below_drew1) | exact HB.out)) hb); clear HB; have HB := n0_; clear n0_; (try clear hb); (try clear hb2); (try clear hk); (try clear hi)) | (go_at_call 20; (with_reducible refine (Go.Proofs.Ytnnhplakmagbbaa.HA.wainloadref15_Floor.calls a0 a1 t134 _ A6.out).mono ?_); rintro e w' ⟨rfl, ⟨nd, rfl⟩⟩))
            go_ret
            exact ⟨by first | rfl | (simp [errW_none, errW_some] <;> rfl) | (simp [*, errW_none, errW_some] <;> rfl), by repeat (first | (with_reducible first | exact HB.out | apply below_alloc | apply pw_below_drewN | apply below_drew1) | exact HB.out)⟩
          · rw [if_neg c11] at H
            have c11b0 : (t132 == a0) = false := beq_eq_false_iff_ne.mpr c11
            have c11b1 : (t132 != a0) = true := bne_iff_ne.mpr c11
            by_cases c13 : a1 = 0
            · rw [if_pos c13] at H
              exact absurd H (by simp)
            · rw [if_neg c13] at H
              have c13b0 : (a1 == 0) = false := beq_eq_false_iff_ne.mpr c13
              have c13b1 : (a1 != 0) = true := bne_iff_ne.mpr c13
              obtain rfl := Option.some.inj H
              go_enter Try.func10, Try.ntmps10
              go_wp2_with (first | ((with_reducible refine gate_callee (f := 29) rfl ?_); refine goesL_ (some 8) rfl rfl Try.func29 (by kernel_rfl) rfl #[.int .i64 a0, .int .i64 a1] rfl (by (try simp only [List.map_toArray, List.map_cons, List.map_nil]); first | done | rfl | (simp only [List.length_drop, List.length_take]; rfl)) ?_; (with_reducible refine (Go.Proofs.Ytnnhplakmagbbaa.HB.times_Floor.calls a0 a1 t132 _ A3.out).mono ?_); rintro e w' ⟨rfl, ⟨nd, rfl⟩⟩; refine ⟨_, rfl, ?_⟩) | ((with_reducible refine gate_callee (f := 13) rfl ?_); refine goesL_ (some 9) rfl rfl Try.func13 (by kernel_rfl) rfl #[] rfl (by (try simp only [List.map_toArray, List.map_cons, List.map_nil]); first | done | rfl | (simp only [List.length_drop, List.length_take]; rfl)) ?_; (with_reducible refine (Go.Proofs.Ytnnhplakmagbbaa.HB.wainloadlaw15_alive.calls  true _ A4.out).mono ?_); rintro e w14 ⟨rfl, hb⟩; refine ⟨_, rfl, ?_⟩; have n0_ := Aside0.mk (below_step (by repeat (first | (with_reducible first | exact HB.out | apply below_alloc | apply pw_below_drewN | apply below_drew1) | exact HB.out)) hb); clear HB; have HB := n0_; clear n0_; (try clear hb); (try clear hb2); (try clear hk); (try clear hi)) | (go_at_call 20; (with_reducible refine (Go.Proofs.Ytnnhplakmagbbaa.HA.wainloadref15_Floor.calls a0 a1 t134 _ A6.out).mono ?_); rintro e w' ⟨rfl, ⟨nd, rfl⟩⟩))
              go_ret
              exact ⟨by first | rfl | (simp [errW_none, errW_some] <;> rfl) | (simp [*, errW_none, errW_some] <;> rfl), by repeat (first | (with_reducible first | exact HB.out | apply below_alloc | apply pw_below_drewN | apply below_drew1) | exact HB.out)⟩
      · rw [if_neg c8] at H
        have c8b0 : decide (t132 ≤ a0) = false := decide_eq_false c8
        clear c8
        obtain rfl := Option.some.inj H
        go_enter Try.func10, Try.ntmps10
        go_wp2_with (first | ((with_reducible refine gate_callee (f := 29) rfl ?_); refine goesL_ (some 8) rfl rfl Try.func29 (by kernel_rfl) rfl #[.int .i64 a0, .int .i64 a1] rfl (by (try simp only [List.map_toArray, List.map_cons, List.map_nil]); first | done | rfl | (simp only [List.length_drop, List.length_take]; rfl)) ?_; (with_reducible refine (Go.Proofs.Ytnnhplakmagbbaa.HB.times_Floor.calls a0 a1 t132 _ A3.out).mono ?_); rintro e w' ⟨rfl, ⟨nd, rfl⟩⟩; refine ⟨_, rfl, ?_⟩) | ((with_reducible refine gate_callee (f := 13) rfl ?_); refine goesL_ (some 9) rfl rfl Try.func13 (by kernel_rfl) rfl #[] rfl (by (try simp only [List.map_toArray, List.map_cons, List.map_nil]); first | done | rfl | (simp only [List.length_drop, List.length_take]; rfl)) ?_; (with_reducible refine (Go.Proofs.Ytnnhplakmagbbaa.HB.wainloadlaw15_alive.calls  true _ A4.out).mono ?_); rintro e w15 ⟨rfl, hb⟩; refine ⟨_, rfl, ?_⟩; have n0_ := Aside0.mk (below_step (by repeat (first | (with_reducible first | exact HB.out | apply below_alloc | apply pw_below_drewN | apply below_drew1) | exact HB.out)) hb); clear HB; have HB := n0_; clear n0_; (try clear hb); (try clear hb2); (try clear hk); (try clear hi)) | (go_at_call 20; (with_reducible refine (Go.Proofs.Ytnnhplakmagbbaa.HA.wainloadref15_Floor.calls a0 a1 t134 _ A6.out).mono ?_); rintro e w' ⟨rfl, ⟨nd, rfl⟩⟩))
        go_ret
        exact ⟨by first | rfl | (simp [errW_none, errW_some] <;> rfl) | (simp [*, errW_none, errW_some] <;> rfl), by repeat (first | (with_reducible first | exact HB.out | apply below_alloc | apply pw_below_drewN | apply below_drew1) | exact HB.out)⟩
    · rw [if_neg c7] at H
      have c7b0 : (t132 == t134) = false := beq_eq_false_iff_ne.mpr c7
      have c7b1 : (t132 != t134) = true := bne_iff_ne.mpr c7
      obtain rfl := Option.some.inj H
      go_enter Try.func10, Try.ntmps10
      go_wp2_with (first | ((with_reducible refine gate_callee (f := 29) rfl ?_); refine goesL_ (some 8) rfl rfl Try.func29 (by kernel_rfl) rfl #[.int .i64 a0, .int .i64 a1] rfl (by (try simp only [List.map_toArray, List.map_cons, List.map_nil]); first | done | rfl | (simp only [List.length_drop, List.length_take]; rfl)) ?_; (with_reducible refine (Go.Proofs.Ytnnhplakmagbbaa.HB.times_Floor.calls a0 a1 t132 _ A3.out).mono ?_); rintro e w' ⟨rfl, ⟨nd, rfl⟩⟩; refine ⟨_, rfl, ?_⟩) | ((with_reducible refine gate_callee (f := 13) rfl ?_); refine goesL_ (some 9) rfl rfl Try.func13 (by kernel_rfl) rfl #[] rfl (by (try simp only [List.map_toArray, List.map_cons, List.map_nil]); first | done | rfl | (simp only [List.length_drop, List.length_take]; rfl)) ?_; (with_reducible refine (Go.Proofs.Ytnnhplakmagbbaa.HB.wainloadlaw15_alive.calls  true _ A4.out).mono ?_); rintro e w16 ⟨rfl, hb⟩; refine ⟨_, rfl, ?_⟩; have n0_ := Aside0.mk (below_step (by repeat (first | (with_reducible first | exact HB.out | apply below_alloc | apply pw_below_drewN | apply below_drew1) | exact HB.out)) hb); clear HB; have HB := n0_; clear n0_; (try clear hb); (try clear hb2); (try clear hk); (try clear hi)) | (go_at_call 20; (with_reducible refine (Go.Proofs.Ytnnhplakmagbbaa.HA.wainloadref15_Floor.calls a0 a1 t134 _ A6.out).mono ?_); rintro e w' ⟨rfl, ⟨nd, rfl⟩⟩))
      go_ret
      exact ⟨by first | rfl | (simp [errW_none, errW_some] <;> rfl) | (simp [*, errW_none, errW_some] <;> rfl), by repeat (first | (with_reducible first | exact HB.out | apply below_alloc | apply pw_below_drewN | apply below_drew1) | exact HB.out)⟩
  · replace c5 := Bool.eq_false_iff.mpr c5
    subst c5
    have H1 : (some false) = some r := by rw [if_neg (show ¬ (false = true) by decide)] at H; exact H
    clear H
    have H := H1
    clear H1
    obtain rfl := Option.some.inj H
    go_enter Try.func10, Try.ntmps10
    go_wp2_with (first | ((with_reducible refine gate_callee (f := 29) rfl ?_); refine goesL_ (some 8) rfl rfl Try.func29 (by kernel_rfl) rfl #[.int .i64 a0, .int .i64 a1] rfl (by (try simp only [List.map_toArray, List.map_cons, List.map_nil]); first | done | rfl | (simp only [List.length_drop, List.length_take]; rfl)) ?_; (with_reducible refine (Go.Proofs.Ytnnhplakmagbbaa.HB.times_Floor.calls a0 a1 t132 _ A3.out).mono ?_); rintro e w' ⟨rfl, ⟨nd, rfl⟩⟩; refine ⟨_, rfl, ?_⟩) | ((with_reducible refine gate_callee (f := 13) rfl ?_); refine goesL_ (some 9) rfl rfl Try.func13 (by kernel_rfl) rfl #[] rfl (by (try simp only [List.map_toArray, List.map_cons, List.map_nil]); first | done | rfl | (simp only [List.length_drop, List.length_take]; rfl)) ?_; (with_reducible refine (Go.Proofs.Ytnnhplakmagbbaa.HB.wainloadlaw15_alive.calls  false _ A4.out).mono ?_); rintro e w17 ⟨rfl, hb⟩; refine ⟨_, rfl, ?_⟩; have n0_ := Aside0.mk (below_step (by repeat (first | (with_reducible first | exact HB.out | apply below_alloc | apply pw_below_drewN | apply below_drew1) | exact HB.out)) hb); clear HB; have HB := n0_; clear n0_; (try clear hb); (try clear hb2); (try clear hk); (try clear hi)))
    go_ret
    exact ⟨by first | rfl | (simp [errW_none, errW_some] <;> rfl) | (simp [*, errW_none, errW_some] <;> rfl), by repeat (first | (with_reducible first | exact HB.out | apply below_alloc | apply pw_below_drewN | apply below_drew1) | exact HB.out)⟩

/-- THE ONE PURE STATEMENT of wainloadlaw15_TimesFloors: yours. -/
def wainloadlaw15_TimesFloors.Pure : Prop := ∀ (a0 : Int) (a1 : Int), (Lit.int .i64 a0).wf = true → (Lit.int .i64 a1).wf = true → wainloadlaw15_TimesFloors.f a0 a1 = some true
theorem wainloadlaw15_TimesFloors.walk (P : wainloadlaw15_TimesFloors.Pure) (a0 : Int) (a1 : Int) (w : World) (w0 : (Lit.int .i64 a0).wf = true) (w1 : (Lit.int .i64 a1).wf = true) :
    Calls Try.prog 10 #[.int .i64 a0, .int .i64 a1] w fun e w' => e = .returned (.bool true) ∧ Below w.heap.size w w' := by
  have h := P a0 a1 w0 w1
  refine (wainloadlaw15_TimesFloors.calls a0 a1 true w h).mono ?_
  rintro e w' ⟨rfl, hd⟩
  exact ⟨rfl, hd⟩

end Go.Proofs.Ytnnhplakmagbbaa.HY
