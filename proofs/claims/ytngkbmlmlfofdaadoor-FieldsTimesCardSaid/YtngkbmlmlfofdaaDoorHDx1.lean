/- What calls of these Go functions come to, as plain Lean functions, each with its proof; printed for this claim by a program of this session. -/
import Derived.Test.YtngkbmlmlfofdaaDoorHDx0
namespace Go.Proofs.YtngkbmlmlfofdaaDoor.HD
open Go.Proofs.YtngkbmlmlfofdaaDoor.HA
open Go.Proofs.YtngkbmlmlfofdaaDoor.HB
open Go.Proofs.YtngkbmlmlfofdaaDoor.HC
open Go.Proofs.YtngkbmlmlfofdaaDoor.G
open Go.RowKit Go.Proofs.YtngkbmlmlfofdaaDoorW.PrintWords Go.Proofs.YtngkbmlmlfofdaaDoorW.PrintLast Go.Proofs.YtngkbmlmlfofdaaDoorW.PrintMore
attribute [local go_sem] max2_int min2_int max_two min_two max_three min_three max_four min_four   -- for this text's walks alone
set_option linter.unusedVariables false
set_option linter.unusedSimpArgs false

-- NOT PRINTED: function 40 (strings_trimLeftByte)

-- NOT PRINTED: function 41 (strings_makeASCIISet)

-- NOT PRINTED: function 57 (strings_asciiSet_contains)

-- NOT PRINTED: function 42 (strings_trimLeftASCII)

-- NOT PRINTED: function 71 (utf8_decodeRuneInStringSlow)

-- NOT PRINTED: function 58 (utf8_DecodeRuneInString)

-- NOT PRINTED: function 82 (bytealg_IndexString)

-- NOT PRINTED: function 83 (bytealg_Cutover)

-- NOT PRINTED: function 89 (bytealg_IndexByteString)

-- NOT PRINTED: function 81 (stringslite_IndexByte)

-- NOT PRINTED: function 85 (strings_IndexByte)

-- NOT PRINTED: function 86 (utf8_ValidRune)

-- NOT PRINTED: function 72 (strings_IndexRune)

-- NOT PRINTED: function 59 (strings_ContainsRune)

-- NOT PRINTED: function 43 (strings_trimLeftUnicode)

-- NOT PRINTED: function 26 (strings_TrimLeft)

-- NOT PRINTED: function 44 (strings_trimRightByte)

-- NOT PRINTED: function 45 (strings_trimRightASCII)

-- NOT PRINTED: function 73 (utf8_RuneStart)

-- NOT PRINTED: function 60 (utf8_DecodeLastRuneInString)

-- NOT PRINTED: function 46 (strings_trimRightUnicode)

-- NOT PRINTED: function 28 (strings_Trim)

-- NOT PRINTED: function 61 (strconv_small)

-- NOT PRINTED: function 74 (strconv_log10Pow2)

-- NOT PRINTED: function 75 (bits_Len64)

-- NOT PRINTED: function 76 (strconv_bool2_int)

-- NOT PRINTED: function 62 (strconv_numDigits)

-- NOT PRINTED: function 63 (strconv_formatBase10)

-- NOT PRINTED: function 77 (strconv_isPowerOfTwo)

-- NOT PRINTED: function 87 (bits_TrailingZeros32)

-- NOT PRINTED: function 88 (bits_TrailingZeros64)

-- NOT PRINTED: function 78 (bits_TrailingZeros)

-- NOT PRINTED: function 64 (strconv_formatBits)

-- NOT PRINTED: function 47 (strconv_FormatInt_47)

-- NOT PRINTED: function 30 (strconv_FormatInt_30)

-- NOT PRINTED: function 65 (bits_Mul32)

-- NOT PRINTED: function 66 (bits_Mul64)

-- NOT PRINTED: function 48 (bits_Mul)

-- NOT PRINTED: function 67 (stringslite_HasPrefix)

-- NOT PRINTED: function 49 (strings_HasPrefix)

-- NOT PRINTED: function 79 (abi_NoEscape)

-- NOT PRINTED: function 68 (strings_Builder_copyCheck)

-- NOT PRINTED: function 80 (bytealg_MakeNoZero)

-- NOT PRINTED: function 69 (strings_Builder_grow)

-- NOT PRINTED: function 50 (strings_Builder_Grow)

-- NOT PRINTED: function 51 (strings_Builder_WriteString)

-- NOT PRINTED: function 52 (strings_Builder_Len)

-- NOT PRINTED: function 53 (strings_Builder_String)

-- NOT PRINTED: function 31 (strings_Repeat)

-- NOT PRINTED: function 13 (fields_PutOctal)

-- NOT PRINTED: function 54 (stringslite_CutPrefix)

-- NOT PRINTED: function 33 (strings_CutPrefix)

-- NOT PRINTED: function 90 (bytealg_hashStr_string)

-- NOT PRINTED: function 84 (bytealg_IndexRabinKarp_string)

-- NOT PRINTED: function 70 (stringslite_Index)

-- NOT PRINTED: function 55 (stringslite_Cut)

-- NOT PRINTED: function 34 (strings_Cut)

-- NOT PRINTED: function 56 (strconv_FormatUint_56)

-- NOT PRINTED: function 37 (strconv_FormatUint_37)

-- NOT PRINTED: function 38 (strings_TrimRight)

/-! ### wainloadlaw03_FieldsOctals: function 3 -/
def wainloadlaw03_FieldsOctals.f (k : Nat) (l0 : List Int) : Option (Bool) := (Go.Proofs.YtngkbmlmlfofdaaDoor.G.fields_Octal.f l0).bind fun bt101 => ((Go.Proofs.YtngkbmlmlfofdaaDoor.HA.wainloadref03_Octal.f k l0).bind fun bt103 => ((Go.Proofs.YtngkbmlmlfofdaaDoor.G.wainloadlaw03_alive.f).bind fun t105 => (if t105 = true then (if bt101.1 = bt103.1 then (some (bt101.2 == bt103.2)) else (some false)) else (some false))))
theorem wainloadlaw03_FieldsOctals.mono : ∀ a0 k, LeO (wainloadlaw03_FieldsOctals.f k a0) (wainloadlaw03_FieldsOctals.f (k + 1) a0) := by
  intro a0 k
  unfold wainloadlaw03_FieldsOctals.f
  repeat' first
      | (with_reducible exact Go.Proofs.YtngkbmlmlfofdaaDoor.HA.wainloadref03_Octal.mono _ _)
      | (with_reducible exact LeO.refl _)
      | (with_reducible exact LeO.none _)
      | (with_reducible refine LeO.ite ?_ ?_)
      | (with_reducible refine LeO.bind ?_ (fun _ => ?_))
      | exact Go.Proofs.YtngkbmlmlfofdaaDoor.HA.wainloadref03_Octal.mono _ _
      | exact LeO.none _
      | refine LeO.ite ?_ ?_
      | refine LeO.bind ?_ (fun _ => ?_)
set_option maxHeartbeats 8000000 in
set_option maxRecDepth 100000 in
theorem wainloadlaw03_FieldsOctals.calls (k : Nat) (A0 : Option Addr) (c0 : Nat) (l0 : List Int) (r : Bool) (w : World) (hr0 : Kd.C (Kd.int .u8) w A0 l0.length l0) (hc0 : l0.length ≤ c0) (hT : Tab w) (h : wainloadlaw03_FieldsOctals.f k l0 = some r) :
    Calls Tryd.prog 3 #[.slice A0 l0.length c0] w fun e w' => e = .returned (.bool r) ∧ Below w.heap.size w w' := by
  have HR0 := Aside0.mk hr0
  have HC0 := Aside0.mk hc0
  clear hr0 hc0
  have HB := Aside0.mk (Below.refl w.heap.size w)
  have H : ((Go.Proofs.YtngkbmlmlfofdaaDoor.G.fields_Octal.f l0).bind fun bt101 => ((Go.Proofs.YtngkbmlmlfofdaaDoor.HA.wainloadref03_Octal.f k l0).bind fun bt103 => ((Go.Proofs.YtngkbmlmlfofdaaDoor.G.wainloadlaw03_alive.f).bind fun t105 => (if t105 = true then (if bt101.1 = bt103.1 then (some (bt101.2 == bt103.2)) else (some false)) else (some false))))) = some r := h
  clear h
  replace H := Option.bind_eq_some_iff.mp H
  obtain ⟨⟨t101, t102⟩, A20, H⟩ := H
  replace H : ((Go.Proofs.YtngkbmlmlfofdaaDoor.HA.wainloadref03_Octal.f k l0).bind fun bt103 => ((Go.Proofs.YtngkbmlmlfofdaaDoor.G.wainloadlaw03_alive.f).bind fun t105 => (if t105 = true then (if t101 = bt103.1 then (some (t102 == bt103.2)) else (some false)) else (some false)))) = some r := H
  have A2 := Aside0.mk A20
  clear A20
  replace H := Option.bind_eq_some_iff.mp H
  obtain ⟨⟨t103, t104⟩, A30, H⟩ := H
  replace H : ((Go.Proofs.YtngkbmlmlfofdaaDoor.G.wainloadlaw03_alive.f).bind fun t105 => (if t105 = true then (if t101 = t103 then (some (t102 == t104)) else (some false)) else (some false))) = some r := H
  have A3 := Aside0.mk A30
  clear A30
  replace H := Option.bind_eq_some_iff.mp H
  obtain ⟨t105, A40, H⟩ := H
  replace H : (if t105 = true then (if t101 = t103 then (some (t102 == t104)) else (some false)) else (some false)) = some r := H
  have A4 := Aside0.mk A40
  clear A40
  by_cases c5 : t105 = true
  · subst c5
    have H1 : (if t101 = t103 then (some (t102 == t104)) else (some false)) = some r := by rw [if_pos rfl] at H; exact H
    clear H
    have H := H1
    clear H1
    by_cases c6 : t101 = t103
    · rw [if_pos c6] at H
      have c6b0 : (t101 == t103) = true := beq_iff_eq.mpr c6
      have c6b1 : (t101 != t103) = false := bne_eq_false_iff_eq.mpr c6
      clear c6
      obtain rfl := Option.some.inj H
      go_enter Tryd.func3, Tryd.ntmps3
      go_wp2_with (first | ((with_reducible refine gate_callee (f := 10) rfl ?_); refine goesL_ (some 9) rfl rfl Tryd.func10 (by kernel_rfl) rfl #[.slice A0 l0.length c0] rfl (by (try simp only [List.map_toArray, List.map_cons, List.map_nil]); first | done | rfl | (simp only [List.length_drop, List.length_take]; rfl)) ?_; (with_reducible refine (Go.Proofs.YtngkbmlmlfofdaaDoor.G.fields_Octal.calls _ _ l0 t101 t102 _ ?side1 ?side2 A2.out).mono ?_); (case side1 => repeat (first | exact HR0.out | (with_reducible refine Kd.C_alloc ?_ _) | (with_reducible refine Kd.C_drewN ?_ _) | (with_reducible refine Kd.C_drew ?_))); (case side2 => exact HC0.out); rintro e w7 ⟨rfl, hb⟩; refine ⟨_, rfl, ?_⟩; have n0_ := Aside0.mk (below_step (by repeat (first | (with_reducible first | exact HB.out | apply below_alloc | apply pw_below_drewN | apply below_drew1) | exact HB.out)) hb); clear HB; have HB := n0_; clear n0_; (try clear hb); (try clear hb2); (try clear hk); (try clear hi)) | ((with_reducible refine gate_callee (f := 11) rfl ?_); refine goesL_ (some 14) rfl rfl Tryd.func11 (by kernel_rfl) rfl #[.slice A0 l0.length c0] rfl (by (try simp only [List.map_toArray, List.map_cons, List.map_nil]); first | done | rfl | (simp only [List.length_drop, List.length_take]; rfl)) ?_; (with_reducible refine (Go.Proofs.YtngkbmlmlfofdaaDoor.HA.wainloadref03_Octal.calls k _ _ l0 t103 t104 _ ?side1 ?side2 A3.out).mono ?_); (case side1 => repeat (first | exact (Kd.C_below HR0.out HB.out) | (with_reducible refine Kd.C_alloc ?_ _) | (with_reducible refine Kd.C_drewN ?_ _) | (with_reducible refine Kd.C_drew ?_))); (case side2 => exact HC0.out); rintro e w' ⟨rfl, ⟨nd, rfl⟩⟩; refine ⟨_, rfl, ?_⟩) | ((with_reducible refine gate_callee (f := 12) rfl ?_); refine goesL_ (some 17) rfl rfl Tryd.func12 (by kernel_rfl) rfl #[] rfl (by (try simp only [List.map_toArray, List.map_cons, List.map_nil]); first | done | rfl | (simp only [List.length_drop, List.length_take]; rfl)) ?_; (with_reducible refine (Go.Proofs.YtngkbmlmlfofdaaDoor.G.wainloadlaw03_alive.calls  true _ ?sideT A4.out).mono ?_); (case sideT => first | exact hT | (refine hT.below ?_; repeat (first | (with_reducible first | exact HB.out | exact n0_.out | exact n1_.out | exact n2_.out | exact n3_.out | exact n4_.out | exact n5_.out | exact n6_.out | exact n7_.out | exact n8_.out | exact n9_.out | exact n10_.out | exact n11_.out | apply below_alloc | apply pw_below_drewN | apply below_drew1) | exact HB.out | exact Below.refl _ _)) | (refine hT.drawn ?_; repeat (first | exact Drawn0.refl _ | apply Drawn0.step))); rintro e w8 ⟨rfl, hb⟩; refine ⟨_, rfl, ?_⟩; have n0_ := Aside0.mk (below_step (by repeat (first | (with_reducible first | exact HB.out | apply below_alloc | apply pw_below_drewN | apply below_drew1) | exact HB.out)) hb); clear HB; have HB := n0_; clear n0_; (try clear hb); (try clear hb2); (try clear hk); (try clear hi)))
      go_ret
      exact ⟨by first | rfl | (simp [errW_none, errW_some] <;> rfl) | (simp [*, errW_none, errW_some] <;> rfl), by repeat (first | (with_reducible first | exact HB.out | apply below_alloc | apply pw_below_drewN | apply below_drew1) | exact HB.out)⟩
    · rw [if_neg c6] at H
      have c6b0 : (t101 == t103) = false := beq_eq_false_iff_ne.mpr c6
      have c6b1 : (t101 != t103) = true := bne_iff_ne.mpr c6
      obtain rfl := Option.some.inj H
      go_enter Tryd.func3, Tryd.ntmps3
      go_wp2_with (first | ((with_reducible refine gate_callee (f := 10) rfl ?_); refine goesL_ (some 9) rfl rfl Tryd.func10 (by kernel_rfl) rfl #[.slice A0 l0.length c0] rfl (by (try simp only [List.map_toArray, List.map_cons, List.map_nil]); first | done | rfl | (simp only [List.length_drop, List.length_take]; rfl)) ?_; (with_reducible refine (Go.Proofs.YtngkbmlmlfofdaaDoor.G.fields_Octal.calls _ _ l0 t101 t102 _ ?side1 ?side2 A2.out).mono ?_); (case side1 => repeat (first | exact HR0.out | (with_reducible refine Kd.C_alloc ?_ _) | (with_reducible refine Kd.C_drewN ?_ _) | (with_reducible refine Kd.C_drew ?_))); (case side2 => exact HC0.out); rintro e w9 ⟨rfl, hb⟩; refine ⟨_, rfl, ?_⟩; have n0_ := Aside0.mk (below_step (by repeat (first | (with_reducible first | exact HB.out | apply below_alloc | apply pw_below_drewN | apply below_drew1) | exact HB.out)) hb); clear HB; have HB := n0_; clear n0_; (try clear hb); (try clear hb2); (try clear hk); (try clear hi)) | ((with_reducible refine gate_callee (f := 11) rfl ?_); refine goesL_ (some 14) rfl rfl Tryd.func11 (by kernel_rfl) rfl #[.slice A0 l0.length c0] rfl (by (try simp only [List.map_toArray, List.map_cons, List.map_nil]); first | done | rfl | (simp only [List.length_drop, List.length_take]; rfl)) ?_; (with_reducible refine (Go.Proofs.YtngkbmlmlfofdaaDoor.HA.wainloadref03_Octal.calls k _ _ l0 t103 t104 _ ?side1 ?side2 A3.out).mono ?_); (case side1 => repeat (first | exact (Kd.C_below HR0.out HB.out) | (with_reducible refine Kd.C_alloc ?_ _) | (with_reducible refine Kd.C_drewN ?_ _) | (with_reducible refine Kd.C_drew ?_))); (case side2 => exact HC0.out); rintro e w' ⟨rfl, ⟨nd, rfl⟩⟩; refine ⟨_, rfl, ?_⟩) | ((with_reducible refine gate_callee (f := 12) rfl ?_); refine goesL_ (some 17) rfl rfl Tryd.func12 (by kernel_rfl) rfl #[] rfl (by (try simp only [List.map_toArray, List.map_cons, List.map_nil]); first | done | rfl | (simp only [List.length_drop, List.length_take]; rfl)) ?_; (with_reducible refine (Go.Proofs.YtngkbmlmlfofdaaDoor.G.wainloadlaw03_alive.calls  true _ ?sideT A4.out).mono ?_); (case sideT => first | exact hT | (refine hT.below ?_; repeat (first | (with_reducible first | exact HB.out | exact n0_.out | exact n1_.out | exact n2_.out | exact n3_.out | exact n4_.out | exact n5_.out | exact n6_.out | exact n7_.out | exact n8_.out | exact n9_.out | exact n10_.out | exact n11_.out | apply below_alloc | apply pw_below_drewN | apply below_drew1) | exact HB.out | exact Below.refl _ _)) | (refine hT.drawn ?_; repeat (first | exact Drawn0.refl _ | apply Drawn0.step))); rintro e w10 ⟨rfl, hb⟩; refine ⟨_, rfl, ?_⟩; have n0_ := Aside0.mk (below_step (by repeat (first | (with_reducible first | exact HB.out | apply below_alloc | apply pw_below_drewN | apply below_drew1) | exact HB.out)) hb); clear HB; have HB := n0_; clear n0_; (try clear hb); (try clear hb2); (try clear hk); (try clear hi)))
      go_ret
      exact ⟨by first | rfl | (simp [errW_none, errW_some] <;> rfl) | (simp [*, errW_none, errW_some] <;> rfl), by repeat (first | (with_reducible first | exact HB.out | apply below_alloc | apply pw_below_drewN | apply below_drew1) | exact HB.out)⟩
  · replace c5 := Bool.eq_false_iff.mpr c5
    subst c5
    have H1 : (some false) = some r := by rw [if_neg (show ¬ (false = true) by decide)] at H; exact H
    clear H
    have H := H1
    clear H1
    obtain rfl := Option.some.inj H
    go_enter Tryd.func3, Tryd.ntmps3
    go_wp2_with (first | ((with_reducible refine gate_callee (f := 10) rfl ?_); refine goesL_ (some 9) rfl rfl Tryd.func10 (by kernel_rfl) rfl #[.slice A0 l0.length c0] rfl (by (try simp only [List.map_toArray, List.map_cons, List.map_nil]); first | done | rfl | (simp only [List.length_drop, List.length_take]; rfl)) ?_; (with_reducible refine (Go.Proofs.YtngkbmlmlfofdaaDoor.G.fields_Octal.calls _ _ l0 t101 t102 _ ?side1 ?side2 A2.out).mono ?_); (case side1 => repeat (first | exact HR0.out | (with_reducible refine Kd.C_alloc ?_ _) | (with_reducible refine Kd.C_drewN ?_ _) | (with_reducible refine Kd.C_drew ?_))); (case side2 => exact HC0.out); rintro e w11 ⟨rfl, hb⟩; refine ⟨_, rfl, ?_⟩; have n0_ := Aside0.mk (below_step (by repeat (first | (with_reducible first | exact HB.out | apply below_alloc | apply pw_below_drewN | apply below_drew1) | exact HB.out)) hb); clear HB; have HB := n0_; clear n0_; (try clear hb); (try clear hb2); (try clear hk); (try clear hi)) | ((with_reducible refine gate_callee (f := 11) rfl ?_); refine goesL_ (some 14) rfl rfl Tryd.func11 (by kernel_rfl) rfl #[.slice A0 l0.length c0] rfl (by (try simp only [List.map_toArray, List.map_cons, List.map_nil]); first | done | rfl | (simp only [List.length_drop, List.length_take]; rfl)) ?_; (with_reducible refine (Go.Proofs.YtngkbmlmlfofdaaDoor.HA.wainloadref03_Octal.calls k _ _ l0 t103 t104 _ ?side1 ?side2 A3.out).mono ?_); (case side1 => repeat (first | exact (Kd.C_below HR0.out HB.out) | (with_reducible refine Kd.C_alloc ?_ _) | (with_reducible refine Kd.C_drewN ?_ _) | (with_reducible refine Kd.C_drew ?_))); (case side2 => exact HC0.out); rintro e w' ⟨rfl, ⟨nd, rfl⟩⟩; refine ⟨_, rfl, ?_⟩) | ((with_reducible refine gate_callee (f := 12) rfl ?_); refine goesL_ (some 17) rfl rfl Tryd.func12 (by kernel_rfl) rfl #[] rfl (by (try simp only [List.map_toArray, List.map_cons, List.map_nil]); first | done | rfl | (simp only [List.length_drop, List.length_take]; rfl)) ?_; (with_reducible refine (Go.Proofs.YtngkbmlmlfofdaaDoor.G.wainloadlaw03_alive.calls  false _ ?sideT A4.out).mono ?_); (case sideT => first | exact hT | (refine hT.below ?_; repeat (first | (with_reducible first | exact HB.out | exact n0_.out | exact n1_.out | exact n2_.out | exact n3_.out | exact n4_.out | exact n5_.out | exact n6_.out | exact n7_.out | exact n8_.out | exact n9_.out | exact n10_.out | exact n11_.out | apply below_alloc | apply pw_below_drewN | apply below_drew1) | exact HB.out | exact Below.refl _ _)) | (refine hT.drawn ?_; repeat (first | exact Drawn0.refl _ | apply Drawn0.step))); rintro e w12 ⟨rfl, hb⟩; refine ⟨_, rfl, ?_⟩; have n0_ := Aside0.mk (below_step (by repeat (first | (with_reducible first | exact HB.out | apply below_alloc | apply pw_below_drewN | apply below_drew1) | exact HB.out)) hb); clear HB; have HB := n0_; clear n0_; (try clear hb); (try clear hb2); (try clear hk); (try clear hi)))
    go_ret
    exact ⟨by first | rfl | (simp [errW_none, errW_some] <;> rfl) | (simp [*, errW_none, errW_some] <;> rfl), by repeat (first | (with_reducible first | exact HB.out | apply below_alloc | apply pw_below_drewN | apply below_drew1) | exact HB.out)⟩

/-! ### wainloadlaw03_FieldsDecimals: function 9 -/
def wainloadlaw03_FieldsDecimals.f (k : Nat) (a0 : ByteArray) : Option (Bool) := (Go.Proofs.YtngkbmlmlfofdaaDoor.HB.fields_Decimal.f k a0).bind fun bt106 => ((Go.Proofs.YtngkbmlmlfofdaaDoor.HA.wainloadref03_Decimal.f k a0).bind fun bt108 => ((Go.Proofs.YtngkbmlmlfofdaaDoor.G.wainloadlaw03_alive.f).bind fun t110 => (if t110 = true then (if bt106.1 = bt108.1 then (some (bt106.2 == bt108.2)) else (some false)) else (some false))))
theorem wainloadlaw03_FieldsDecimals.mono : ∀ a0 k, LeO (wainloadlaw03_FieldsDecimals.f k a0) (wainloadlaw03_FieldsDecimals.f (k + 1) a0) := by
  intro a0 k
  unfold wainloadlaw03_FieldsDecimals.f
  repeat' first
      | (with_reducible exact Go.Proofs.YtngkbmlmlfofdaaDoor.HA.wainloadref03_Decimal.mono _ _)
      | (with_reducible exact Go.Proofs.YtngkbmlmlfofdaaDoor.HB.fields_Decimal.mono _ _)
      | (with_reducible exact LeO.refl _)
      | (with_reducible exact LeO.none _)
      | (with_reducible refine LeO.ite ?_ ?_)
      | (with_reducible refine LeO.bind ?_ (fun _ => ?_))
      | exact Go.Proofs.YtngkbmlmlfofdaaDoor.HA.wainloadref03_Decimal.mono _ _
      | exact Go.Proofs.YtngkbmlmlfofdaaDoor.HB.fields_Decimal.mono _ _
      | exact LeO.none _
      | refine LeO.ite ?_ ?_
      | refine LeO.bind ?_ (fun _ => ?_)
set_option maxHeartbeats 8000000 in
set_option maxRecDepth 100000 in
theorem wainloadlaw03_FieldsDecimals.calls (k : Nat) (a0 : ByteArray) (r : Bool) (w : World) (hT : Tab w) (h : wainloadlaw03_FieldsDecimals.f k a0 = some r) :
    Calls Tryd.prog 9 #[.string a0] w fun e w' => e = .returned (.bool r) ∧ Below w.heap.size w w' := by
  have HB := Aside0.mk (Below.refl w.heap.size w)
  have H : ((Go.Proofs.YtngkbmlmlfofdaaDoor.HB.fields_Decimal.f k a0).bind fun bt106 => ((Go.Proofs.YtngkbmlmlfofdaaDoor.HA.wainloadref03_Decimal.f k a0).bind fun bt108 => ((Go.Proofs.YtngkbmlmlfofdaaDoor.G.wainloadlaw03_alive.f).bind fun t110 => (if t110 = true then (if bt106.1 = bt108.1 then (some (bt106.2 == bt108.2)) else (some false)) else (some false))))) = some r := h
  clear h
  replace H := Option.bind_eq_some_iff.mp H
  obtain ⟨⟨t106, t107⟩, A20, H⟩ := H
  replace H : ((Go.Proofs.YtngkbmlmlfofdaaDoor.HA.wainloadref03_Decimal.f k a0).bind fun bt108 => ((Go.Proofs.YtngkbmlmlfofdaaDoor.G.wainloadlaw03_alive.f).bind fun t110 => (if t110 = true then (if t106 = bt108.1 then (some (t107 == bt108.2)) else (some false)) else (some false)))) = some r := H
  have A2 := Aside0.mk A20
  clear A20
  replace H := Option.bind_eq_some_iff.mp H
  obtain ⟨⟨t108, t109⟩, A30, H⟩ := H
  replace H : ((Go.Proofs.YtngkbmlmlfofdaaDoor.G.wainloadlaw03_alive.f).bind fun t110 => (if t110 = true then (if t106 = t108 then (some (t107 == t109)) else (some false)) else (some false))) = some r := H
  have A3 := Aside0.mk A30
  clear A30
  replace H := Option.bind_eq_some_iff.mp H
  obtain ⟨t110, A40, H⟩ := H
  replace H : (if t110 = true then (if t106 = t108 then (some (t107 == t109)) else (some false)) else (some false)) = some r := H
  have A4 := Aside0.mk A40
  clear A40
  by_cases c5 : t110 = true
  · subst c5
    have H1 : (if t106 = t108 then (some (t107 == t109)) else (some false)) = some r := by rw [if_pos rfl] at H; exact H
    clear H
    have H := H1
    clear H1
    by_cases c6 : t106 = t108
    · rw [if_pos c6] at H
      have c6b0 : (t106 == t108) = true := beq_iff_eq.mpr c6
      have c6b1 : (t106 != t108) = false := bne_eq_false_iff_eq.mpr c6
      clear c6
      obtain rfl := Option.some.inj H
      go_enter Tryd.func9, Tryd.ntmps9
      go_wp2_with (first | ((with_reducible refine gate_callee (f := 23) rfl ?_); refine goesL_ (some 9) rfl rfl Tryd.func23 (by kernel_rfl) rfl #[.string a0] rfl (by (try simp only [List.map_toArray, List.map_cons, List.map_nil]); first | done | rfl | (simp only [List.length_drop, List.length_take]; rfl)) ?_; (with_reducible refine (Go.Proofs.YtngkbmlmlfofdaaDoor.HB.fields_Decimal.calls k a0 t106 t107 _ A2.out).mono ?_); rintro e w7 ⟨rfl, hb⟩; refine ⟨_, rfl, ?_⟩; have n0_ := Aside0.mk (below_step (by repeat (first | (with_reducible first | exact HB.out | apply below_alloc | apply pw_below_drewN | apply below_drew1) | exact HB.out)) hb); clear HB; have HB := n0_; clear n0_; (try clear hb); (try clear hb2); (try clear hk); (try clear hi)) | ((with_reducible refine gate_callee (f := 24) rfl ?_); refine goesL_ (some 14) rfl rfl Tryd.func24 (by kernel_rfl) rfl #[.string a0] rfl (by (try simp only [List.map_toArray, List.map_cons, List.map_nil]); first | done | rfl | (simp only [List.length_drop, List.length_take]; rfl)) ?_; (with_reducible refine (Go.Proofs.YtngkbmlmlfofdaaDoor.HA.wainloadref03_Decimal.calls k a0 t108 t109 _ A3.out).mono ?_); rintro e w' ⟨rfl, ⟨nd, rfl⟩⟩; refine ⟨_, rfl, ?_⟩) | ((with_reducible refine gate_callee (f := 12) rfl ?_); refine goesL_ (some 17) rfl rfl Tryd.func12 (by kernel_rfl) rfl #[] rfl (by (try simp only [List.map_toArray, List.map_cons, List.map_nil]); first | done | rfl | (simp only [List.length_drop, List.length_take]; rfl)) ?_; (with_reducible refine (Go.Proofs.YtngkbmlmlfofdaaDoor.G.wainloadlaw03_alive.calls  true _ ?sideT A4.out).mono ?_); (case sideT => first | exact hT | (refine hT.below ?_; repeat (first | (with_reducible first | exact HB.out | exact n0_.out | exact n1_.out | exact n2_.out | exact n3_.out | exact n4_.out | exact n5_.out | exact n6_.out | exact n7_.out | exact n8_.out | exact n9_.out | exact n10_.out | exact n11_.out | apply below_alloc | apply pw_below_drewN | apply below_drew1) | exact HB.out | exact Below.refl _ _)) | (refine hT.drawn ?_; repeat (first | exact Drawn0.refl _ | apply Drawn0.step))); rintro e w8 ⟨rfl, hb⟩; refine ⟨_, rfl, ?_⟩; have n0_ := Aside0.mk (below_step (by repeat (first | (with_reducible first | exact HB.out | apply below_alloc | apply pw_below_drewN | apply below_drew1) | exact HB.out)) hb); clear HB; have HB := n0_; clear n0_; (try clear hb); (try clear hb2); (try clear hk); (try clear hi)))
      go_ret
      exact ⟨by first | rfl | (simp [errW_none, errW_some] <;> rfl) | (simp [*, errW_none, errW_some] <;> rfl), by repeat (first | (with_reducible first | exact HB.out | apply below_alloc | apply pw_below_drewN | apply below_drew1) | exact HB.out)⟩
    · rw [if_neg c6] at H
      have c6b0 : (t106 == t108) = false := beq_eq_false_iff_ne.mpr c6
      have c6b1 : (t106 != t108) = true := bne_iff_ne.mpr c6
      obtain rfl := Option.some.inj H
      go_enter Tryd.func9, Tryd.ntmps9
      go_wp2_with (first | ((with_reducible refine gate_callee (f := 23) rfl ?_); refine goesL_ (some 9) rfl rfl Tryd.func23 (by kernel_rfl) rfl #[.string a0] rfl (by (try simp only [List.map_toArray, List.map_cons, List.map_nil]); first | done | rfl | (simp only [List.length_drop, List.length_take]; rfl)) ?_; (with_reducible refine (Go.Proofs.YtngkbmlmlfofdaaDoor.HB.fields_Decimal.calls k a0 t106 t107 _ A2.out).mono ?_); rintro e w9 ⟨rfl, hb⟩; refine ⟨_, rfl, ?_⟩; have n0_ := Aside0.mk (below_step (by repeat (first | (with_reducible first | exact HB.out | apply below_alloc | apply pw_below_drewN | apply below_drew1) | exact HB.out)) hb); clear HB; have HB := n0_; clear n0_; (try clear hb); (try clear hb2); (try clear hk); (try clear hi)) | ((with_reducible refine gate_callee (f := 24) rfl ?_); refine goesL_ (some 14) rfl rfl Tryd.func24 (by kernel_rfl) rfl #[.string a0] rfl (by (try simp only [List.map_toArray, List.map_cons, List.map_nil]); first | done | rfl | (simp only [List.length_drop, List.length_take]; rfl)) ?_; (with_reducible refine (Go.Proofs.YtngkbmlmlfofdaaDoor.HA.wainloadref03_Decimal.calls k a0 t108 t109 _ A3.out).mono ?_); rintro e w' ⟨rfl, ⟨nd, rfl⟩⟩; refine ⟨_, rfl, ?_⟩) | ((with_reducible refine gate_callee (f := 12) rfl ?_); refine goesL_ (some 17) rfl rfl Tryd.func12 (by kernel_rfl) rfl #[] rfl (by (try simp only [List.map_toArray, List.map_cons, List.map_nil]); first | done | rfl | (simp only [List.length_drop, List.length_take]; rfl)) ?_; (with_reducible refine (Go.Proofs.YtngkbmlmlfofdaaDoor.G.wainloadlaw03_alive.calls  true _ ?sideT A4.out).mono ?_); (case sideT => first | exact hT | (refine hT.below ?_; repeat (first | (with_reducible first | exact HB.out | exact n0_.out | exact n1_.out | exact n2_.out | exact n3_.out | exact n4_.out | exact n5_.out | exact n6_.out | exact n7_.out | exact n8_.out | exact n9_.out | exact n10_.out | exact n11_.out | apply below_alloc | apply pw_below_drewN | apply below_drew1) | exact HB.out | exact Below.refl _ _)) | (refine hT.drawn ?_; repeat (first | exact Drawn0.refl _ | apply Drawn0.step))); rintro e w10 ⟨rfl, hb⟩; refine ⟨_, rfl, ?_⟩; have n0_ := Aside0.mk (below_step (by repeat (first | (with_reducible first | exact HB.out | apply below_alloc | apply pw_below_drewN | apply below_drew1) | exact HB.out)) hb); clear HB; have HB := n0_; clear n0_; (try clear hb); (try clear hb2); (try clear hk); (try clear hi)))
      go_ret
      exact ⟨by first | rfl | (simp [errW_none, errW_some] <;> rfl) | (simp [*, errW_none, errW_some] <;> rfl), by repeat (first | (with_reducible first | exact HB.out | apply below_alloc | apply pw_below_drewN | apply below_drew1) | exact HB.out)⟩
  · replace c5 := Bool.eq_false_iff.mpr c5
    subst c5
    have H1 : (some false) = some r := by rw [if_neg (show ¬ (false = true) by decide)] at H; exact H
    clear H
    have H := H1
    clear H1
    obtain rfl := Option.some.inj H
    go_enter Tryd.func9, Tryd.ntmps9
    go_wp2_with (first | ((with_reducible refine gate_callee (f := 23) rfl ?_); refine goesL_ (some 9) rfl rfl Tryd.func23 (by kernel_rfl) rfl #[.string a0] rfl (by (try simp only [List.map_toArray, List.map_cons, List.map_nil]); first | done | rfl | (simp only [List.length_drop, List.length_take]; rfl)) ?_; (with_reducible refine (Go.Proofs.YtngkbmlmlfofdaaDoor.HB.fields_Decimal.calls k a0 t106 t107 _ A2.out).mono ?_); rintro e w11 ⟨rfl, hb⟩; refine ⟨_, rfl, ?_⟩; have n0_ := Aside0.mk (below_step (by repeat (first | (with_reducible first | exact HB.out | apply below_alloc | apply pw_below_drewN | apply below_drew1) | exact HB.out)) hb); clear HB; have HB := n0_; clear n0_; (try clear hb); (try clear hb2); (try clear hk); (try clear hi)) | ((with_reducible refine gate_callee (f := 24) rfl ?_); refine goesL_ (some 14) rfl rfl Tryd.func24 (by kernel_rfl) rfl #[.string a0] rfl (by (try simp only [List.map_toArray, List.map_cons, List.map_nil]); first | done | rfl | (simp only [List.length_drop, List.length_take]; rfl)) ?_; (with_reducible refine (Go.Proofs.YtngkbmlmlfofdaaDoor.HA.wainloadref03_Decimal.calls k a0 t108 t109 _ A3.out).mono ?_); rintro e w' ⟨rfl, ⟨nd, rfl⟩⟩; refine ⟨_, rfl, ?_⟩) | ((with_reducible refine gate_callee (f := 12) rfl ?_); refine goesL_ (some 17) rfl rfl Tryd.func12 (by kernel_rfl) rfl #[] rfl (by (try simp only [List.map_toArray, List.map_cons, List.map_nil]); first | done | rfl | (simp only [List.length_drop, List.length_take]; rfl)) ?_; (with_reducible refine (Go.Proofs.YtngkbmlmlfofdaaDoor.G.wainloadlaw03_alive.calls  false _ ?sideT A4.out).mono ?_); (case sideT => first | exact hT | (refine hT.below ?_; repeat (first | (with_reducible first | exact HB.out | exact n0_.out | exact n1_.out | exact n2_.out | exact n3_.out | exact n4_.out | exact n5_.out | exact n6_.out | exact n7_.out | exact n8_.out | exact n9_.out | exact n10_.out | exact n11_.out | apply below_alloc | apply pw_below_drewN | apply below_drew1) | exact HB.out | exact Below.refl _ _)) | (refine hT.drawn ?_; repeat (first | exact Drawn0.refl _ | apply Drawn0.step))); rintro e w12 ⟨rfl, hb⟩; refine ⟨_, rfl, ?_⟩; have n0_ := Aside0.mk (below_step (by repeat (first | (with_reducible first | exact HB.out | apply below_alloc | apply pw_below_drewN | apply below_drew1) | exact HB.out)) hb); clear HB; have HB := n0_; clear n0_; (try clear hb); (try clear hb2); (try clear hk); (try clear hi)))
    go_ret
    exact ⟨by first | rfl | (simp [errW_none, errW_some] <;> rfl) | (simp [*, errW_none, errW_some] <;> rfl), by repeat (first | (with_reducible first | exact HB.out | apply below_alloc | apply pw_below_drewN | apply below_drew1) | exact HB.out)⟩

/-! ### wainloadlaw03_FieldsSeconds: function 5 -/
def wainloadlaw03_FieldsSeconds.f (k : Nat) (a0 : ByteArray) : Option (Bool) := (Go.Proofs.YtngkbmlmlfofdaaDoor.HB.fields_Seconds.f k a0).bind fun bt111 => ((Go.Proofs.YtngkbmlmlfofdaaDoor.HC.wainloadref03_Seconds.f k a0).bind fun bt113 => ((Go.Proofs.YtngkbmlmlfofdaaDoor.G.wainloadlaw03_alive.f).bind fun t115 => (if t115 = true then (if bt111.1 = bt113.1 then (some (bt111.2 == bt113.2)) else (some false)) else (some false))))
theorem wainloadlaw03_FieldsSeconds.mono : ∀ a0 k, LeO (wainloadlaw03_FieldsSeconds.f k a0) (wainloadlaw03_FieldsSeconds.f (k + 1) a0) := by
  intro a0 k
  unfold wainloadlaw03_FieldsSeconds.f
  repeat' first
      | (with_reducible exact Go.Proofs.YtngkbmlmlfofdaaDoor.HB.fields_Seconds.mono _ _)
      | (with_reducible exact Go.Proofs.YtngkbmlmlfofdaaDoor.HC.wainloadref03_Seconds.mono _ _)
      | (with_reducible exact LeO.refl _)
      | (with_reducible exact LeO.none _)
      | (with_reducible refine LeO.ite ?_ ?_)
      | (with_reducible refine LeO.bind ?_ (fun _ => ?_))
      | exact Go.Proofs.YtngkbmlmlfofdaaDoor.HB.fields_Seconds.mono _ _
      | exact Go.Proofs.YtngkbmlmlfofdaaDoor.HC.wainloadref03_Seconds.mono _ _
      | exact LeO.none _
      | refine LeO.ite ?_ ?_
      | refine LeO.bind ?_ (fun _ => ?_)
set_option maxHeartbeats 8000000 in
set_option maxRecDepth 100000 in
theorem wainloadlaw03_FieldsSeconds.calls (k : Nat) (a0 : ByteArray) (r : Bool) (w : World) (hT : Tab w) (h : wainloadlaw03_FieldsSeconds.f k a0 = some r) :
    Calls Tryd.prog 5 #[.string a0] w fun e w' => e = .returned (.bool r) ∧ Below w.heap.size w w' := by
  have HB := Aside0.mk (Below.refl w.heap.size w)
  have H : ((Go.Proofs.YtngkbmlmlfofdaaDoor.HB.fields_Seconds.f k a0).bind fun bt111 => ((Go.Proofs.YtngkbmlmlfofdaaDoor.HC.wainloadref03_Seconds.f k a0).bind fun bt113 => ((Go.Proofs.YtngkbmlmlfofdaaDoor.G.wainloadlaw03_alive.f).bind fun t115 => (if t115 = true then (if bt111.1 = bt113.1 then (some (bt111.2 == bt113.2)) else (some false)) else (some false))))) = some r := h
  clear h
  replace H := Option.bind_eq_some_iff.mp H
  obtain ⟨⟨t111, t112⟩, A20, H⟩ := H
  replace H : ((Go.Proofs.YtngkbmlmlfofdaaDoor.HC.wainloadref03_Seconds.f k a0).bind fun bt113 => ((Go.Proofs.YtngkbmlmlfofdaaDoor.G.wainloadlaw03_alive.f).bind fun t115 => (if t115 = true then (if t111 = bt113.1 then (some (t112 == bt113.2)) else (some false)) else (some false)))) = some r := H
  have A2 := Aside0.mk A20
  clear A20
  replace H := Option.bind_eq_some_iff.mp H
  obtain ⟨⟨t113, t114⟩, A30, H⟩ := H
  replace H : ((Go.Proofs.YtngkbmlmlfofdaaDoor.G.wainloadlaw03_alive.f).bind fun t115 => (if t115 = true then (if t111 = t113 then (some (t112 == t114)) else (some false)) else (some false))) = some r := H
  have A3 := Aside0.mk A30
  clear A30
  replace H := Option.bind_eq_some_iff.mp H
  obtain ⟨t115, A40, H⟩ := H
  replace H : (if t115 = true then (if t111 = t113 then (some (t112 == t114)) else (some false)) else (some false)) = some r := H
  have A4 := Aside0.mk A40
  clear A40
  by_cases c5 : t115 = true
  · subst c5
    have H1 : (if t111 = t113 then (some (t112 == t114)) else (some false)) = some r := by rw [if_pos rfl] at H; exact H
    clear H
    have H := H1
    clear H1
    by_cases c6 : t111 = t113
    · rw [if_pos c6] at H
      have c6b0 : (t111 == t113) = true := beq_iff_eq.mpr c6
      have c6b1 : (t111 != t113) = false := bne_eq_false_iff_eq.mpr c6
      clear c6
      obtain rfl := Option.some.inj H
      go_enter Tryd.func5, Tryd.ntmps5
      go_wp2_with (first | ((with_reducible refine gate_callee (f := 15) rfl ?_); refine goesL_ (some 9) rfl rfl Tryd.func15 (by kernel_rfl) rfl #[.string a0] rfl (by (try simp only [List.map_toArray, List.map_cons, List.map_nil]); first | done | rfl | (simp only [List.length_drop, List.length_take]; rfl)) ?_; (with_reducible refine (Go.Proofs.YtngkbmlmlfofdaaDoor.HB.fields_Seconds.calls k a0 t111 t112 _ A2.out).mono ?_); rintro e w7 ⟨rfl, hb⟩; refine ⟨_, rfl, ?_⟩; have n0_ := Aside0.mk (below_step (by repeat (first | (with_reducible first | exact HB.out | apply below_alloc | apply pw_below_drewN | apply below_drew1) | exact HB.out)) hb); clear HB; have HB := n0_; clear n0_; (try clear hb); (try clear hb2); (try clear hk); (try clear hi)) | ((with_reducible refine gate_callee (f := 16) rfl ?_); refine goesL_ (some 14) rfl rfl Tryd.func16 (by kernel_rfl) rfl #[.string a0] rfl (by (try simp only [List.map_toArray, List.map_cons, List.map_nil]); first | done | rfl | (simp only [List.length_drop, List.length_take]; rfl)) ?_; (with_reducible refine (Go.Proofs.YtngkbmlmlfofdaaDoor.HC.wainloadref03_Seconds.calls k a0 t113 t114 _ A3.out).mono ?_); rintro e w' ⟨rfl, ⟨nd, rfl⟩⟩; refine ⟨_, rfl, ?_⟩) | ((with_reducible refine gate_callee (f := 12) rfl ?_); refine goesL_ (some 17) rfl rfl Tryd.func12 (by kernel_rfl) rfl #[] rfl (by (try simp only [List.map_toArray, List.map_cons, List.map_nil]); first | done | rfl | (simp only [List.length_drop, List.length_take]; rfl)) ?_; (with_reducible refine (Go.Proofs.YtngkbmlmlfofdaaDoor.G.wainloadlaw03_alive.calls  true _ ?sideT A4.out).mono ?_); (case sideT => first | exact hT | (refine hT.below ?_; repeat (first | (with_reducible first | exact HB.out | exact n0_.out | exact n1_.out | exact n2_.out | exact n3_.out | exact n4_.out | exact n5_.out | exact n6_.out | exact n7_.out | exact n8_.out | exact n9_.out | exact n10_.out | exact n11_.out | apply below_alloc | apply pw_below_drewN | apply below_drew1) | exact HB.out | exact Below.refl _ _)) | (refine hT.drawn ?_; repeat (first | exact Drawn0.refl _ | apply Drawn0.step))); rintro e w8 ⟨rfl, hb⟩; refine ⟨_, rfl, ?_⟩; have n0_ := Aside0.mk (below_step (by repeat (first | (with_reducible first | exact HB.out | apply below_alloc | apply pw_below_drewN | apply below_drew1) | exact HB.out)) hb); clear HB; have HB := n0_; clear n0_; (try clear hb); (try clear hb2); (try clear hk); (try clear hi)))
      go_ret
      exact ⟨by first | rfl | (simp [errW_none, errW_some] <;> rfl) | (simp [*, errW_none, errW_some] <;> rfl), by repeat (first | (with_reducible first | exact HB.out | apply below_alloc | apply pw_below_drewN | apply below_drew1) | exact HB.out)⟩
    · rw [if_neg c6] at H
      have c6b0 : (t111 == t113) = false := beq_eq_false_iff_ne.mpr c6
      have c6b1 : (t111 != t113) = true := bne_iff_ne.mpr c6
      obtain rfl := Option.some.inj H
      go_enter Tryd.func5, Tryd.ntmps5
      go_wp2_with (first | ((with_reducible refine gate_callee (f := 15) rfl ?_); refine goesL_ (some 9) rfl rfl Tryd.func15 (by kernel_rfl) rfl #[.string a0] rfl (by (try simp only [List.map_toArray, List.map_cons, List.map_nil]); first | done | rfl | (simp only [List.length_drop, List.length_take]; rfl)) ?_; (with_reducible refine (Go.Proofs.YtngkbmlmlfofdaaDoor.HB.fields_Seconds.calls k a0 t111 t112 _ A2.out).mono ?_); rintro e w9 ⟨rfl, hb⟩; refine ⟨_, rfl, ?_⟩; have n0_ := Aside0.mk (below_step (by repeat (first | (with_reducible first | exact HB.out | apply below_alloc | apply pw_below_drewN | apply below_drew1) | exact HB.out)) hb); clear HB; have HB := n0_; clear n0_; (try clear hb); (try clear hb2); (try clear hk); (try clear hi)) | ((with_reducible refine gate_callee (f := 16) rfl ?_); refine goesL_ (some 14) rfl rfl Tryd.func16 (by kernel_rfl) rfl #[.string a0] rfl (by (try simp only [List.map_toArray, List.map_cons, List.map_nil]); first | done | rfl | (simp only [List.length_drop, List.length_take]; rfl)) ?_; (with_reducible refine (Go.Proofs.YtngkbmlmlfofdaaDoor.HC.wainloadref03_Seconds.calls k a0 t113 t114 _ A3.out).mono ?_); rintro e w' ⟨rfl, ⟨nd, rfl⟩⟩; refine ⟨_, rfl, ?_⟩) | ((with_reducible refine gate_callee (f := 12) rfl ?_); refine goesL_ (some 17) rfl rfl Tryd.func12 (by kernel_rfl) rfl #[] rfl (by (try simp only [List.map_toArray, List.map_cons, List.map_nil]); first | done | rfl | (simp only [List.length_drop, List.length_take]; rfl)) ?_; (with_reducible refine (Go.Proofs.YtngkbmlmlfofdaaDoor.G.wainloadlaw03_alive.calls  true _ ?sideT A4.out).mono ?_); (case sideT => first | exact hT | (refine hT.below ?_; repeat (first | (with_reducible first | exact HB.out | exact n0_.out | exact n1_.out | exact n2_.out | exact n3_.out | exact n4_.out | exact n5_.out | exact n6_.out | exact n7_.out | exact n8_.out | exact n9_.out | exact n10_.out | exact n11_.out | apply below_alloc | apply pw_below_drewN | apply below_drew1) | exact HB.out | exact Below.refl _ _)) | (refine hT.drawn ?_; repeat (first | exact Drawn0.refl _ | apply Drawn0.step))); rintro e w10 ⟨rfl, hb⟩; refine ⟨_, rfl, ?_⟩; have n0_ := Aside0.mk (below_step (by repeat (first | (with_reducible first | exact HB.out | apply below_alloc | apply pw_below_drewN | apply below_drew1) | exact HB.out)) hb); clear HB; have HB := n0_; clear n0_; (try clear hb); (try clear hb2); (try clear hk); (try clear hi)))
      go_ret
      exact ⟨by first | rfl | (simp [errW_none, errW_some] <;> rfl) | (simp [*, errW_none, errW_some] <;> rfl), by repeat (first | (with_reducible first | exact HB.out | apply below_alloc | apply pw_below_drewN | apply below_drew1) | exact HB.out)⟩
  · replace c5 := Bool.eq_false_iff.mpr c5
    subst c5
    have H1 : (some false) = some r := by rw [if_neg (show ¬ (false = true) by decide)] at H; exact H
    clear H
    have H := H1
    clear H1
    obtain rfl := Option.some.inj H
    go_enter Tryd.func5, Tryd.ntmps5
    go_wp2_with (first | ((with_reducible refine gate_callee (f := 15) rfl ?_); refine goesL_ (some 9) rfl rfl Tryd.func15 (by kernel_rfl) rfl #[.string a0] rfl (by (try simp only [List.map_toArray, List.map_cons, List.map_nil]); first | done | rfl | (simp only [List.length_drop, List.length_take]; rfl)) ?_; (with_reducible refine (Go.Proofs.YtngkbmlmlfofdaaDoor.HB.fields_Seconds.calls k a0 t111 t112 _ A2.out).mono ?_); rintro e w11 ⟨rfl, hb⟩; refine ⟨_, rfl, ?_⟩; have n0_ := Aside0.mk (below_step (by repeat (first | (with_reducible first | exact HB.out | apply below_alloc | apply pw_below_drewN | apply below_drew1) | exact HB.out)) hb); clear HB; have HB := n0_; clear n0_; (try clear hb); (try clear hb2); (try clear hk); (try clear hi)) | ((with_reducible refine gate_callee (f := 16) rfl ?_); refine goesL_ (some 14) rfl rfl Tryd.func16 (by kernel_rfl) rfl #[.string a0] rfl (by (try simp only [List.map_toArray, List.map_cons, List.map_nil]); first | done | rfl | (simp only [List.length_drop, List.length_take]; rfl)) ?_; (with_reducible refine (Go.Proofs.YtngkbmlmlfofdaaDoor.HC.wainloadref03_Seconds.calls k a0 t113 t114 _ A3.out).mono ?_); rintro e w' ⟨rfl, ⟨nd, rfl⟩⟩; refine ⟨_, rfl, ?_⟩) | ((with_reducible refine gate_callee (f := 12) rfl ?_); refine goesL_ (some 17) rfl rfl Tryd.func12 (by kernel_rfl) rfl #[] rfl (by (try simp only [List.map_toArray, List.map_cons, List.map_nil]); first | done | rfl | (simp only [List.length_drop, List.length_take]; rfl)) ?_; (with_reducible refine (Go.Proofs.YtngkbmlmlfofdaaDoor.G.wainloadlaw03_alive.calls  false _ ?sideT A4.out).mono ?_); (case sideT => first | exact hT | (refine hT.below ?_; repeat (first | (with_reducible first | exact HB.out | exact n0_.out | exact n1_.out | exact n2_.out | exact n3_.out | exact n4_.out | exact n5_.out | exact n6_.out | exact n7_.out | exact n8_.out | exact n9_.out | exact n10_.out | exact n11_.out | apply below_alloc | apply pw_below_drewN | apply below_drew1) | exact HB.out | exact Below.refl _ _)) | (refine hT.drawn ?_; repeat (first | exact Drawn0.refl _ | apply Drawn0.step))); rintro e w12 ⟨rfl, hb⟩; refine ⟨_, rfl, ?_⟩; have n0_ := Aside0.mk (below_step (by repeat (first | (with_reducible first | exact HB.out | apply below_alloc | apply pw_below_drewN | apply below_drew1) | exact HB.out)) hb); clear HB; have HB := n0_; clear n0_; (try clear hb); (try clear hb2); (try clear hk); (try clear hi)))
    go_ret
    exact ⟨by first | rfl | (simp [errW_none, errW_some] <;> rfl) | (simp [*, errW_none, errW_some] <;> rfl), by repeat (first | (with_reducible first | exact HB.out | apply below_alloc | apply pw_below_drewN | apply below_drew1) | exact HB.out)⟩

/-! ### wainloadlaw03_FieldsTimes: function 6 -/
def wainloadlaw03_FieldsTimes.f (k : Nat) (a0 : Int) : Option (Bool) := (Go.Proofs.YtngkbmlmlfofdaaDoor.G.fields_PutSeconds.f a0).bind fun t116 => ((Go.Proofs.YtngkbmlmlfofdaaDoor.HB.fields_Seconds.f k t116).bind fun bt117 => (if a0 > (-9000000000000000000) then ((Go.Proofs.YtngkbmlmlfofdaaDoor.G.wainloadlaw03_alive.f).bind fun t119 => (if t119 = true then ((Go.Proofs.YtngkbmlmlfofdaaDoor.HC.wainloadref03_PutSeconds.f k a0).bind fun t120 => (if t116.toList = t120.toList then (if a0 < 9000000000000000000 then (if bt117.2 = 0 then (some (bt117.1 == a0)) else (some false)) else (some true)) else (some false))) else (some false))) else ((Go.Proofs.YtngkbmlmlfofdaaDoor.G.wainloadlaw03_alive.f).bind fun t121 => (if t121 = true then ((Go.Proofs.YtngkbmlmlfofdaaDoor.HC.wainloadref03_PutSeconds.f k a0).bind fun t122 => (if t116.toList = t122.toList then (some true) else (some false))) else (some false)))))
theorem wainloadlaw03_FieldsTimes.mono : ∀ a0 k, LeO (wainloadlaw03_FieldsTimes.f k a0) (wainloadlaw03_FieldsTimes.f (k + 1) a0) := by
  intro a0 k
  unfold wainloadlaw03_FieldsTimes.f
  repeat' first
      | (with_reducible exact Go.Proofs.YtngkbmlmlfofdaaDoor.HB.fields_Seconds.mono _ _)
      | (with_reducible exact Go.Proofs.YtngkbmlmlfofdaaDoor.HC.wainloadref03_PutSeconds.mono _ _)
      | (with_reducible exact LeO.refl _)
      | (with_reducible exact LeO.none _)
      | (with_reducible refine LeO.ite ?_ ?_)
      | (with_reducible refine LeO.bind ?_ (fun _ => ?_))
      | exact Go.Proofs.YtngkbmlmlfofdaaDoor.HB.fields_Seconds.mono _ _
      | exact Go.Proofs.YtngkbmlmlfofdaaDoor.HC.wainloadref03_PutSeconds.mono _ _
      | exact LeO.none _
      | refine LeO.ite ?_ ?_
      | refine LeO.bind ?_ (fun _ => ?_)
set_option maxHeartbeats 8000000 in
set_option maxRecDepth 100000 in
theorem wainloadlaw03_FieldsTimes.calls (k : Nat) (a0 : Int) (r : Bool) (w : World) (hT : Tab w) (h : wainloadlaw03_FieldsTimes.f k a0 = some r) :
    Calls Tryd.prog 6 #[.int .i64 a0] w fun e w' => e = .returned (.bool r) ∧ Below w.heap.size w w' := by
  have HB := Aside0.mk (Below.refl w.heap.size w)
  have H : ((Go.Proofs.YtngkbmlmlfofdaaDoor.G.fields_PutSeconds.f a0).bind fun t116 => ((Go.Proofs.YtngkbmlmlfofdaaDoor.HB.fields_Seconds.f k t116).bind fun bt117 => (if a0 > (-9000000000000000000) then ((Go.Proofs.YtngkbmlmlfofdaaDoor.G.wainloadlaw03_alive.f).bind fun t119 => (if t119 = true then ((Go.Proofs.YtngkbmlmlfofdaaDoor.HC.wainloadref03_PutSeconds.f k a0).bind fun t120 => (if t116.toList = t120.toList then (if a0 < 9000000000000000000 then (if bt117.2 = 0 then (some (bt117.1 == a0)) else (some false)) else (some true)) else (some false))) else (some false))) else ((Go.Proofs.YtngkbmlmlfofdaaDoor.G.wainloadlaw03_alive.f).bind fun t121 => (if t121 = true then ((Go.Proofs.YtngkbmlmlfofdaaDoor.HC.wainloadref03_PutSeconds.f k a0).bind fun t122 => (if t116.toList = t122.toList then (some true) else (some false))) else (some false)))))) = some r := h
  clear h
  replace H := Option.bind_eq_some_iff.mp H
  obtain ⟨t116, A20, H⟩ := H
  replace H : ((Go.Proofs.YtngkbmlmlfofdaaDoor.HB.fields_Seconds.f k t116).bind fun bt117 => (if a0 > (-9000000000000000000) then ((Go.Proofs.YtngkbmlmlfofdaaDoor.G.wainloadlaw03_alive.f).bind fun t119 => (if t119 = true then ((Go.Proofs.YtngkbmlmlfofdaaDoor.HC.wainloadref03_PutSeconds.f k a0).bind fun t120 => (if t116.toList = t120.toList then (if a0 < 9000000000000000000 then (if bt117.2 = 0 then (some (bt117.1 == a0)) else (some false)) else (some true)) else (some false))) else (some false))) else ((Go.Proofs.YtngkbmlmlfofdaaDoor.G.wainloadlaw03_alive.f).bind fun t121 => (if t121 = true then ((Go.Proofs.YtngkbmlmlfofdaaDoor.HC.wainloadref03_PutSeconds.f k a0).bind fun t122 => (if t116.toList = t122.toList then (some true) else (some false))) else (some false))))) = some r := H
  have A2 := Aside0.mk A20
  clear A20
  replace H := Option.bind_eq_some_iff.mp H
  obtain ⟨⟨t117, t118⟩, A30, H⟩ := H
  replace H : (if a0 > (-9000000000000000000) then ((Go.Proofs.YtngkbmlmlfofdaaDoor.G.wainloadlaw03_alive.f).bind fun t119 => (if t119 = true then ((Go.Proofs.YtngkbmlmlfofdaaDoor.HC.wainloadref03_PutSeconds.f k a0).bind fun t120 => (if t116.toList = t120.toList then (if a0 < 9000000000000000000 then (if t118 = 0 then (some (t117 == a0)) else (some false)) else (some true)) else (some false))) else (some false))) else ((Go.Proofs.YtngkbmlmlfofdaaDoor.G.wainloadlaw03_alive.f).bind fun t121 => (if t121 = true then ((Go.Proofs.YtngkbmlmlfofdaaDoor.HC.wainloadref03_PutSeconds.f k a0).bind fun t122 => (if t116.toList = t122.toList then (some true) else (some false))) else (some false)))) = some r := H
  have A3 := Aside0.mk A30
  clear A30
  by_cases c4 : a0 > (-9000000000000000000)
  · rw [if_pos c4] at H
    have c4b0 : decide ((-9000000000000000000) < a0) = true := decide_eq_true c4
    clear c4
    replace H := Option.bind_eq_some_iff.mp H
    obtain ⟨t119, A50, H⟩ := H
    replace H : (if t119 = true then ((Go.Proofs.YtngkbmlmlfofdaaDoor.HC.wainloadref03_PutSeconds.f k a0).bind fun t120 => (if t116.toList = t120.toList then (if a0 < 9000000000000000000 then (if t118 = 0 then (some (t117 == a0)) else (some false)) else (some true)) else (some false))) else (some false)) = some r := H
    have A5 := Aside0.mk A50
    clear A50
    by_cases c6 : t119 = true
    · subst c6
      have H1 : ((Go.Proofs.YtngkbmlmlfofdaaDoor.HC.wainloadref03_PutSeconds.f k a0).bind fun t120 => (if t116.toList = t120.toList then (if a0 < 9000000000000000000 then (if t118 = 0 then (some (t117 == a0)) else (some false)) else (some true)) else (some false))) = some r := by rw [if_pos rfl] at H; exact H
      clear H
      have H := H1
      clear H1
      replace H := Option.bind_eq_some_iff.mp H
      obtain ⟨t120, A70, H⟩ := H
      replace H : (if t116.toList = t120.toList then (if a0 < 9000000000000000000 then (if t118 = 0 then (some (t117 == a0)) else (some false)) else (some true)) else (some false)) = some r := H
      have A7 := Aside0.mk A70
      clear A70
      by_cases c8 : t116.toList = t120.toList
      · rw [if_pos c8] at H
        have c8b0 : (t116.toList == t120.toList) = true := beq_iff_eq.mpr c8
        have c8b1 : (t116.toList != t120.toList) = false := bne_eq_false_iff_eq.mpr c8
        clear c8
        by_cases c9 : a0 < 9000000000000000000
        · rw [if_pos c9] at H
          have c9b0 : decide (a0 < 9000000000000000000) = true := decide_eq_true c9
          clear c9
          by_cases c10 : t118 = 0
          · rw [if_pos c10] at H
            have c10b0 : (t118 == 0) = true := beq_iff_eq.mpr c10
            have c10b1 : (t118 != 0) = false := bne_eq_false_iff_eq.mpr c10
            clear c10
            obtain rfl := Option.some.inj H
            go_enter Tryd.func6, Tryd.ntmps6
            go_wp2_with (first | ((with_reducible refine gate_callee (f := 17) rfl ?_); refine goesL_ (some 8) rfl rfl Tryd.func17 (by kernel_rfl) rfl #[.int .i64 a0] rfl (by (try simp only [List.map_toArray, List.map_cons, List.map_nil]); first | done | rfl | (simp only [List.length_drop, List.length_take]; rfl)) ?_; (with_reducible refine (Go.Proofs.YtngkbmlmlfofdaaDoor.G.fields_PutSeconds.calls a0 t116 _ ?sideT A2.out).mono ?_); (case sideT => first | exact hT | (refine hT.below ?_; repeat (first | (with_reducible first | exact HB.out | exact n0_.out | exact n1_.out | exact n2_.out | exact n3_.out | exact n4_.out | exact n5_.out | exact n6_.out | exact n7_.out | exact n8_.out | exact n9_.out | exact n10_.out | exact n11_.out | apply below_alloc | apply pw_below_drewN | apply below_drew1) | exact HB.out | exact Below.refl _ _)) | (refine hT.drawn ?_; repeat (first | exact Drawn0.refl _ | apply Drawn0.step))); rintro e w11 ⟨rfl, hb⟩; refine ⟨_, rfl, ?_⟩; have n0_ := Aside0.mk (below_step (by repeat (first | (with_reducible first | exact HB.out | apply below_alloc | apply pw_below_drewN | apply below_drew1) | exact HB.out)) hb); clear HB; have HB := n0_; clear n0_; (try clear hb); (try clear hb2); (try clear hk); (try clear hi)) | ((with_reducible refine gate_callee (f := 15) rfl ?_); refine goesL_ (some 11) rfl rfl Tryd.func15 (by kernel_rfl) rfl #[.string t116] rfl (by (try simp only [List.map_toArray, List.map_cons, List.map_nil]); first | done | rfl | (simp only [List.length_drop, List.length_take]; rfl)) ?_; (with_reducible refine (Go.Proofs.YtngkbmlmlfofdaaDoor.HB.fields_Seconds.calls k t116 t117 t118 _ A3.out).mono ?_); rintro e w12 ⟨rfl, hb⟩; refine ⟨_, rfl, ?_⟩; have n0_ := Aside0.mk (below_step (by repeat (first | (with_reducible first | exact HB.out | apply below_alloc | apply pw_below_drewN | apply below_drew1) | exact HB.out)) hb); clear HB; have HB := n0_; clear n0_; (try clear hb); (try clear hb2); (try clear hk); (try clear hi)) | ((with_reducible refine gate_callee (f := 12) rfl ?_); refine goesL_ (some 20) rfl rfl Tryd.func12 (by kernel_rfl) rfl #[] rfl (by (try simp only [List.map_toArray, List.map_cons, List.map_nil]); first | done | rfl | (simp only [List.length_drop, List.length_take]; rfl)) ?_; (with_reducible refine (Go.Proofs.YtngkbmlmlfofdaaDoor.G.wainloadlaw03_alive.calls  true _ ?sideT A5.out).mono ?_); (case sideT => first | exact hT | (refine hT.below ?_; repeat (first | (with_reducible first | exact HB.out | exact n0_.out | exact n1_.out | exact n2_.out | exact n3_.out | exact n4_.out | exact n5_.out | exact n6_.out | exact n7_.out | exact n8_.out | exact n9_.out | exact n10_.out | exact n11_.out | apply below_alloc | apply pw_below_drewN | apply below_drew1) | exact HB.out | exact Below.refl _ _)) | (refine hT.drawn ?_; repeat (first | exact Drawn0.refl _ | apply Drawn0.step))); rintro e w13 ⟨rfl, hb⟩; refine ⟨_, rfl, ?_⟩; have n0_ := Aside0.mk (below_step (by repeat (first | (with_reducible first | exact HB.out | apply below_alloc | apply pw_below_drewN | apply below_drew1) | exact HB.out)) hb); clear HB; have HB := n0_; clear n0_; (try clear hb); (try clear hb2); (try clear hk); (try clear hi)) | (go_at_call 18; (with_reducible refine (Go.Proofs.YtngkbmlmlfofdaaDoor.HC.wainloadref03_PutSeconds.calls k a0 t120 _ A7.out).mono ?_); rintro e w14 ⟨rfl, hb⟩; have n0_ := Aside0.mk (below_step (by repeat (first | (with_reducible first | exact HB.out | apply below_alloc | apply pw_below_drewN | apply below_drew1) | exact HB.out)) hb); clear HB; have HB := n0_; clear n0_; (try clear hb); (try clear hb2); (try clear hk); (try clear hi)))
            go_ret
            exact ⟨by first | rfl | (simp [errW_none, errW_some] <;> rfl) | (simp [*, errW_none, errW_some] <;> rfl), by repeat (first | (with_reducible first | exact HB.out | apply below_alloc | apply pw_below_drewN | apply below_drew1) | exact HB.out)⟩
          · rw [if_neg c10] at H
            have c10b0 : (t118 == 0) = false := beq_eq_false_iff_ne.mpr c10
            have c10b1 : (t118 != 0) = true := bne_iff_ne.mpr c10
            obtain rfl := Option.some.inj H
            go_enter Tryd.func6, Tryd.ntmps6
            go_wp2_with (first | ((with_reducible refine gate_callee (f := 17) rfl ?_); refine goesL_ (some 8) rfl rfl Tryd.func17 (by kernel_rfl) rfl #[.int .i64 a0] rfl (by (try simp only [List.map_toArray, List.map_cons, List.map_nil]); first | done | rfl | (simp only [List.length_drop, List.length_take]; rfl)) ?_; (with_reducible refine (Go.Proofs.YtngkbmlmlfofdaaDoor.G.fields_PutSeconds.calls a0 t116 _ ?sideT A2.out).mono ?_); (case sideT => first | exact hT | (refine hT.below ?_; repeat (first | (with_reducible first | exact HB.out | exact n0_.out | exact n1_.out | exact n2_.out | exact n3_.out | exact n4_.out | exact n5_.out | exact n6_.out | exact n7_.out | exact n8_.out | exact n9_.out | exact n10_.out | exact n11_.out | apply below_alloc | apply pw_below_drewN | apply below_drew1) | exact HB.out | exact Below.refl _ _)) | (refine hT.drawn ?_; repeat (first | exact Drawn0.refl _ | apply Drawn0.step))); rintro e w15 ⟨rfl, hb⟩; refine ⟨_, rfl, ?_⟩; have n0_ := Aside0.mk (below_step (by repeat (first | (with_reducible first | exact HB.out | apply below_alloc | apply pw_below_drewN | apply below_drew1) | exact HB.out)) hb); clear HB; have HB := n0_; clear n0_; (try clear hb); (try clear hb2); (try clear hk); (try clear hi)) | ((with_reducible refine gate_callee (f := 15) rfl ?_); refine goesL_ (some 11) rfl rfl Tryd.func15 (by kernel_rfl) rfl #[.string t116] rfl (by (try simp only [List.map_toArray, List.map_cons, List.map_nil]); first | done | rfl | (simp only [List.length_drop, List.length_take]; rfl)) ?_; (with_reducible refine (Go.Proofs.YtngkbmlmlfofdaaDoor.HB.fields_Seconds.calls k t116 t117 t118 _ A3.out).mono ?_); rintro e w16 ⟨rfl, hb⟩; refine ⟨_, rfl, ?_⟩; have n0_ := Aside0.mk (below_step (by repeat (first | (with_reducible first | exact HB.out | apply below_alloc | apply pw_below_drewN | apply below_drew1) | exact HB.out)) hb); clear HB; have HB := n0_; clear n0_; (try clear hb); (try clear hb2); (try clear hk); (try clear hi)) | ((with_reducible refine gate_callee (f := 12) rfl ?_); refine goesL_ (some 20) rfl rfl Tryd.func12 (by kernel_rfl) rfl #[] rfl (by (try simp only [List.map_toArray, List.map_cons, List.map_nil]); first | done | rfl | (simp only [List.length_drop, List.length_take]; rfl)) ?_; (with_reducible refine (Go.Proofs.YtngkbmlmlfofdaaDoor.G.wainloadlaw03_alive.calls  true _ ?sideT A5.out).mono ?_); (case sideT => first | exact hT | (refine hT.below ?_; repeat (first | (with_reducible first | exact HB.out | exact n0_.out | exact n1_.out | exact n2_.out | exact n3_.out | exact n4_.out | exact n5_.out | exact n6_.out | exact n7_.out | exact n8_.out | exact n9_.out | exact n10_.out | exact n11_.out | apply below_alloc | apply pw_below_drewN | apply below_drew1) | exact HB.out | exact Below.refl _ _)) | (refine hT.drawn ?_; repeat (first | exact Drawn0.refl _ | apply Drawn0.step))); rintro e w17 ⟨rfl, hb⟩; refine ⟨_, rfl, ?_⟩; have n0_ := Aside0.mk (below_step (by repeat (first | (with_reducible first | exact HB.out | apply below_alloc | apply pw_below_drewN | apply below_drew1) | exact HB.out)) hb); clear HB; have HB := n0_; clear n0_; (try clear hb); (try clear hb2); (try clear hk); (try clear hi)) | (go_at_call 18; (with_reducible refine (Go.Proofs.YtngkbmlmlfofdaaDoor.HC.wainloadref03_PutSeconds.calls k a0 t120 _ A7.out).mono ?_); rintro e w18 ⟨rfl, hb⟩; have n0_ := Aside0.mk (below_step (by repeat (first | (with_reducible first | exact HB.out | apply below_alloc | apply pw_below_drewN | apply below_drew1) | exact HB.out)) hb); clear HB; have HB := n0_; clear n0_; (try clear hb); (try clear hb2); (try clear hk); (try clear hi)))
            go_ret
            exact ⟨by first | rfl | (simp [errW_none, errW_some] <;> rfl) | (simp [*, errW_none, errW_some] <;> rfl), by repeat (first | (with_reducible first | exact HB.out | apply below_alloc | apply pw_below_drewN | apply below_drew1) | exact HB.out)⟩
        · rw [if_neg c9] at H
          have c9b0 : decide (a0 < 9000000000000000000) = false := decide_eq_false c9
          clear c9
          obtain rfl := Option.some.inj H
          go_enter Tryd.func6, Tryd.ntmps6
          go_wp2_with (first | ((with_reducible refine gate_callee (f := 17) rfl ?_); refine goesL_ (some 8) rfl rfl Tryd.func17 (by kernel_rfl) rfl #[.int .i64 a0] rfl (by (try simp only [List.map_toArray, List.map_cons, List.map_nil]); first | done | rfl | (simp only [List.length_drop, List.length_take]; rfl)) ?_; (with_reducible refine (Go.Proofs.YtngkbmlmlfofdaaDoor.G.fields_PutSeconds.calls a0 t116 _ ?sideT A2.out).mono ?_); (case sideT => first | exact hT | (refine hT.below ?_; repeat (first | (with_reducible first | exact HB.out | exact n0_.out | exact n1_.out | exact n2_.out | exact n3_.out | exact n4_.out | exact n5_.out | exact n6_.out | exact n7_.out | exact n8_.out | exact n9_.out | exact n10_.out | exact n11_.out | apply below_alloc | apply pw_below_drewN | apply below_drew1) | exact HB.out | exact Below.refl _ _)) | (refine hT.drawn ?_; repeat (first | exact Drawn0.refl _ | apply Drawn0.step))); rintro e w19 ⟨rfl, hb⟩; refine ⟨_, rfl, ?_⟩; have n0_ := Aside0.mk (below_step (by repeat (first | (with_reducible first | exact HB.out | apply below_alloc | apply pw_below_drewN | apply below_drew1) | exact HB.out)) hb); clear HB; have HB := n0_; clear n0_; (try clear hb); (try clear hb2); (try clear hk); (try clear hi)) | ((with_reducible refine gate_callee (f := 15) rfl ?_); refine goesL_ (some 11) rfl rfl Tryd.func15 (by kernel_rfl) rfl #[.string t116] rfl (by (try simp only [List.map_toArray, List.map_cons, List.map_nil]); first | done | rfl | (simp only [List.length_drop, List.length_take]; rfl)) ?_; (with_reducible refine (Go.Proofs.YtngkbmlmlfofdaaDoor.HB.fields_Seconds.calls k t116 t117 t118 _ A3.out).mono ?_); rintro e w20 ⟨rfl, hb⟩; refine ⟨_, rfl, ?_⟩; have n0_ := Aside0.mk (below_step (by repeat (first | (with_reducible first | exact HB.out | apply below_alloc | apply pw_below_drewN | apply below_drew1) | exact HB.out)) hb); clear HB; have HB := n0_; clear n0_; (try clear hb); (try clear hb2); (try clear hk); (try clear hi)) | ((with_reducible refine gate_callee (f := 12) rfl ?_); refine goesL_ (some 20) rfl rfl Tryd.func12 (by kernel_rfl) rfl #[] rfl (by (try simp only [List.map_toArray, List.map_cons, List.map_nil]); first | done | rfl | (simp only [List.length_drop, List.length_take]; rfl)) ?_; (with_reducible refine (Go.Proofs.YtngkbmlmlfofdaaDoor.G.wainloadlaw03_alive.calls  true _ ?sideT A5.out).mono ?_); (case sideT => first | exact hT | (refine hT.below ?_; repeat (first | (with_reducible first | exact HB.out | exact n0_.out | exact n1_.out | exact n2_.out | exact n3_.out | exact n4_.out | exact n5_.out | exact n6_.out | exact n7_.out | exact n8_.out | exact n9_.out | exact n10_.out | exact n11_.out | apply below_alloc | apply pw_below_drewN | apply below_drew1) | exact HB.out | exact Below.refl _ _)) | (refine hT.drawn ?_; repeat (first | exact Drawn0.refl _ | apply Drawn0.step))); rintro e w21 ⟨rfl, hb⟩; refine ⟨_, rfl, ?_⟩; have n0_ := Aside0.mk (below_step (by repeat (first | (with_reducible first | exact HB.out | apply below_alloc | apply pw_below_drewN | apply below_drew1) | exact HB.out)) hb); clear HB; have HB := n0_; clear n0_; (try clear hb); (try clear hb2); (try clear hk); (try clear hi)) | (go_at_call 18; (with_reducible refine (Go.Proofs.YtngkbmlmlfofdaaDoor.HC.wainloadref03_PutSeconds.calls k a0 t120 _ A7.out).mono ?_); rintro e w22 ⟨rfl, hb⟩; have n0_ := Aside0.mk (below_step (by repeat (first | (with_reducible first | exact HB.out | apply below_alloc | apply pw_below_drewN | apply below_drew1) | exact HB.out)) hb); clear HB; have HB := n0_; clear n0_; (try clear hb); (try clear hb2); (try clear hk); (try clear hi)))
          go_ret
          exact ⟨by first | rfl | (simp [errW_none, errW_some] <;> rfl) | (simp [*, errW_none, errW_some] <;> rfl), by repeat (first | (with_reducible first | exact HB.out | apply below_alloc | apply pw_below_drewN | apply below_drew1) | exact HB.out)⟩
      · rw [if_neg c8] at H
        have c8b0 : (t116.toList == t120.toList) = false := beq_eq_false_iff_ne.mpr c8
        have c8b1 : (t116.toList != t120.toList) = true := bne_iff_ne.mpr c8
        obtain rfl := Option.some.inj H
        go_enter Tryd.func6, Tryd.ntmps6
        go_wp2_with (first | ((with_reducible refine gate_callee (f := 17) rfl ?_); refine goesL_ (some 8) rfl rfl Tryd.func17 (by kernel_rfl) rfl #[.int .i64 a0] rfl (by (try simp only [List.map_toArray, List.map_cons, List.map_nil]); first | done | rfl | (simp only [List.length_drop, List.length_take]; rfl)) ?_; (with_reducible refine (Go.Proofs.YtngkbmlmlfofdaaDoor.G.fields_PutSeconds.calls a0 t116 _ ?sideT A2.out).mono ?_); (case sideT => first | exact hT | (refine hT.below ?_; repeat (first | (with_reducible first | exact HB.out | exact n0_.out | exact n1_.out | exact n2_.out | exact n3_.out | exact n4_.out | exact n5_.out | exact n6_.out | exact n7_.out | exact n8_.out | exact n9_.out | exact n10_.out | exact n11_.out | apply below_alloc | apply pw_below_drewN | apply below_drew1) | exact HB.out | exact Below.refl _ _)) | (refine hT.drawn ?_; repeat (first | exact Drawn0.refl _ | apply Drawn0.step))); rintro e w23 ⟨rfl, hb⟩; refine ⟨_, rfl, ?_⟩; have n0_ := Aside0.mk (below_step (by repeat (first | (with_reducible first | exact HB.out | apply below_alloc | apply pw_below_drewN | apply below_drew1) | exact HB.out)) hb); clear HB; have HB := n0_; clear n0_; (try clear hb); (try clear hb2); (try clear hk); (try clear hi)) | ((with_reducible refine gate_callee (f := 15) rfl ?_); refine goesL_ (some 11) rfl rfl Tryd.func15 (by kernel_rfl) rfl #[.string t116] rfl (by (try simp only [List.map_toArray, List.map_cons, List.map_nil]); first | done | rfl | (simp only [List.length_drop, List.length_take]; rfl)) ?_; (with_reducible refine (Go.Proofs.YtngkbmlmlfofdaaDoor.HB.fields_Seconds.calls k t116 t117 t118 _ A3.out).mono ?_); rintro e w24 ⟨rfl, hb⟩; refine ⟨_, rfl, ?_⟩; have n0_ := Aside0.mk (below_step (by repeat (first | (with_reducible first | exact HB.out | apply below_alloc | apply pw_below_drewN | apply below_drew1) | exact HB.out)) hb); clear HB; have HB := n0_; clear n0_; (try clear hb); (try clear hb2); (try clear hk); (try clear hi)) | ((with_reducible refine gate_callee (f := 12) rfl ?_); refine goesL_ (some 20) rfl rfl Tryd.func12 (by kernel_rfl) rfl #[] rfl (by (try simp only [List.map_toArray, List.map_cons, List.map_nil]); first | done | rfl | (simp only [List.length_drop, List.length_take]; rfl)) ?_; (with_reducible refine (Go.Proofs.YtngkbmlmlfofdaaDoor.G.wainloadlaw03_alive.calls  true _ ?sideT A5.out).mono ?_); (case sideT => first | exact hT | (refine hT.below ?_; repeat (first | (with_reducible first | exact HB.out | exact n0_.out | exact n1_.out | exact n2_.out | exact n3_.out | exact n4_.out | exact n5_.out | exact n6_.out | exact n7_.out | exact n8_.out | exact n9_.out | exact n10_.out | exact n11_.out | apply below_alloc | apply pw_below_drewN | apply below_drew1) | exact HB.out | exact Below.refl _ _)) | (refine hT.drawn ?_; repeat (first | exact Drawn0.refl _ | apply Drawn0.step))); rintro e w25 ⟨rfl, hb⟩; refine ⟨_, rfl, ?_⟩; have n0_ := Aside0.mk (below_step (by repeat (first | (with_reducible first | exact HB.out | apply below_alloc | apply pw_below_drewN | apply below_drew1) | exact HB.out)) hb); clear HB; have HB := n0_; clear n0_; (try clear hb); (try clear hb2); (try clear hk); (try clear hi)) | (go_at_call 18; (with_reducible refine (Go.Proofs.YtngkbmlmlfofdaaDoor.HC.wainloadref03_PutSeconds.calls k a0 t120 _ A7.out).mono ?_); rintro e w26 ⟨rfl, hb⟩; have n0_ := Aside0.mk (below_step (by repeat (first | (with_reducible first | exact HB.out | apply below_alloc | apply pw_below_drewN | apply below_drew1) | exact HB.out)) hb); clear HB; have HB := n0_; clear n0_; (try clear hb); (try clear hb2); (try clear hk); (try clear hi)))
        go_ret
        exact ⟨by first | rfl | (simp [errW_none, errW_some] <;> rfl) | (simp [*, errW_none, errW_some] <;> rfl), by repeat (first | (with_reducible first | exact HB.out | apply below_alloc | apply pw_below_drewN | apply below_drew1) | exact HB.out)⟩
    · replace c6 := Bool.eq_false_iff.mpr c6
      subst c6
      have H1 : (some false) = some r := by rw [if_neg (show ¬ (false = true) by decide)] at H; exact H
      clear H
      have H := H1
      clear H1
      obtain rfl := Option.some.inj H
      go_enter Tryd.func6, Tryd.ntmps6
      go_wp2_with (first | ((with_reducible refine gate_callee (f := 17) rfl ?_); refine goesL_ (some 8) rfl rfl Tryd.func17 (by kernel_rfl) rfl #[.int .i64 a0] rfl (by (try simp only [List.map_toArray, List.map_cons, List.map_nil]); first | done | rfl | (simp only [List.length_drop, List.length_take]; rfl)) ?_; (with_reducible refine (Go.Proofs.YtngkbmlmlfofdaaDoor.G.fields_PutSeconds.calls a0 t116 _ ?sideT A2.out).mono ?_); (case sideT => first | exact hT | (refine hT.below ?_; repeat (first | (with_reducible first | exact HB.out | exact n0_.out | exact n1_.out | exact n2_.out | exact n3_.out | exact n4_.out | exact n5_.out | exact n6_.out | exact n7_.out | exact n8_.out | exact n9_.out | exact n10_.out | exact n11_.out | apply below_alloc | apply pw_below_drewN | apply below_drew1) | exact HB.out | exact Below.refl _ _)) | (refine hT.drawn ?_; repeat (first | exact Drawn0.refl _ | apply Drawn0.step))); rintro e w27 ⟨rfl, hb⟩; refine ⟨_, rfl, ?_⟩; have n0_ := Aside0.mk (below_step (by repeat (first | (with_reducible first | exact HB.out | apply below_alloc | apply pw_below_drewN | apply below_drew1) | exact HB.out)) hb); clear HB; have HB := n0_; clear n0_; (try clear hb); (try clear hb2); (try clear hk); (try clear hi)) | ((with_reducible refine gate_callee (f := 15) rfl ?_); refine goesL_ (some 11) rfl rfl Tryd.func15 (by kernel_rfl) rfl #[.string t116] rfl (by (try simp only [List.map_toArray, List.map_cons, List.map_nil]); first | done | rfl | (simp only [List.length_drop, List.length_take]; rfl)) ?_; (with_reducible refine (Go.Proofs.YtngkbmlmlfofdaaDoor.HB.fields_Seconds.calls k t116 t117 t118 _ A3.out).mono ?_); rintro e w28 ⟨rfl, hb⟩; refine ⟨_, rfl, ?_⟩; have n0_ := Aside0.mk (below_step (by repeat (first | (with_reducible first | exact HB.out | apply below_alloc | apply pw_below_drewN | apply below_drew1) | exact HB.out)) hb); clear HB; have HB := n0_; clear n0_; (try clear hb); (try clear hb2); (try clear hk); (try clear hi)) | ((with_reducible refine gate_callee (f := 12) rfl ?_); refine goesL_ (some 20) rfl rfl Tryd.func12 (by kernel_rfl) rfl #[] rfl (by (try simp only [List.map_toArray, List.map_cons, List.map_nil]); first | done | rfl | (simp only [List.length_drop, List.length_take]; rfl)) ?_; (with_reducible refine (Go.Proofs.YtngkbmlmlfofdaaDoor.G.wainloadlaw03_alive.calls  false _ ?sideT A5.out).mono ?_); (case sideT => first | exact hT | (refine hT.below ?_; repeat (first | (with_reducible first | exact HB.out | exact n0_.out | exact n1_.out | exact n2_.out | exact n3_.out | exact n4_.out | exact n5_.out | exact n6_.out | exact n7_.out | exact n8_.out | exact n9_.out | exact n10_.out | exact n11_.out | apply below_alloc | apply pw_below_drewN | apply below_drew1) | exact HB.out | exact Below.refl _ _)) | (refine hT.drawn ?_; repeat (first | exact Drawn0.refl _ | apply Drawn0.step))); rintro e w29 ⟨rfl, hb⟩; refine ⟨_, rfl, ?_⟩; have n0_ := Aside0.mk (below_step (by repeat (first | (with_reducible first | exact HB.out | apply below_alloc | apply pw_below_drewN | apply below_drew1) | exact HB.out)) hb); clear HB; have HB := n0_; clear n0_; (try clear hb); (try clear hb2); (try clear hk); (try clear hi)))
      go_ret
      exact ⟨by first | rfl | (simp [errW_none, errW_some] <;> rfl) | (simp [*, errW_none, errW_some] <;> rfl), by repeat (first | (with_reducible first | exact HB.out | apply below_alloc | apply pw_below_drewN | apply below_drew1) | exact HB.out)⟩
  · rw [if_neg c4] at H
    have c4b0 : decide ((-9000000000000000000) < a0) = false := decide_eq_false c4
    clear c4
    replace H := Option.bind_eq_some_iff.mp H
    obtain ⟨t121, A300, H⟩ := H
    replace H : (if t121 = true then ((Go.Proofs.YtngkbmlmlfofdaaDoor.HC.wainloadref03_PutSeconds.f k a0).bind fun t122 => (if t116.toList = t122.toList then (some true) else (some false))) else (some false)) = some r := H
    have A30 := Aside0.mk A300
    clear A300
    by_cases c31 : t121 = true
    · subst c31
      have H1 : ((Go.Proofs.YtngkbmlmlfofdaaDoor.HC.wainloadref03_PutSeconds.f k a0).bind fun t122 => (if t116.toList = t122.toList then (some true) else (some false))) = some r := by rw [if_pos rfl] at H; exact H
      clear H
      have H := H1
      clear H1
      replace H := Option.bind_eq_some_iff.mp H
      obtain ⟨t122, A320, H⟩ := H
      replace H : (if t116.toList = t122.toList then (some true) else (some false)) = some r := H
      have A32 := Aside0.mk A320
      clear A320
      by_cases c33 : t116.toList = t122.toList
      · rw [if_pos c33] at H
        have c33b0 : (t116.toList == t122.toList) = true := beq_iff_eq.mpr c33
        have c33b1 : (t116.toList != t122.toList) = false := bne_eq_false_iff_eq.mpr c33
        clear c33
        obtain rfl := Option.some.inj H
        go_enter Tryd.func6, Tryd.ntmps6
        go_wp2_with (first | ((with_reducible refine gate_callee (f := 17) rfl ?_); refine goesL_ (some 8) rfl rfl Tryd.func17 (by kernel_rfl) rfl #[.int .i64 a0] rfl (by (try simp only [List.map_toArray, List.map_cons, List.map_nil]); first | done | rfl | (simp only [List.length_drop, List.length_take]; rfl)) ?_; (with_reducible refine (Go.Proofs.YtngkbmlmlfofdaaDoor.G.fields_PutSeconds.calls a0 t116 _ ?sideT A2.out).mono ?_); (case sideT => first | exact hT | (refine hT.below ?_; repeat (first | (with_reducible first | exact HB.out | exact n0_.out | exact n1_.out | exact n2_.out | exact n3_.out | exact n4_.out | exact n5_.out | exact n6_.out | exact n7_.out | exact n8_.out | exact n9_.out | exact n10_.out | exact n11_.out | apply below_alloc | apply pw_below_drewN | apply below_drew1) | exact HB.out | exact Below.refl _ _)) | (refine hT.drawn ?_; repeat (first | exact Drawn0.refl _ | apply Drawn0.step))); rintro e w34 ⟨rfl, hb⟩; refine ⟨_, rfl, ?_⟩; have n0_ := Aside0.mk (below_step (by repeat (first | (with_reducible first | exact HB.out | apply below_alloc | apply pw_below_drewN | apply below_drew1) | exact HB.out)) hb); clear HB; have HB := n0_; clear n0_; (try clear hb); (try clear hb2); (try clear hk); (try clear hi)) | ((with_reducible refine gate_callee (f := 15) rfl ?_); refine goesL_ (some 11) rfl rfl Tryd.func15 (by kernel_rfl) rfl #[.string t116] rfl (by (try simp only [List.map_toArray, List.map_cons, List.map_nil]); first | done | rfl | (simp only [List.length_drop, List.length_take]; rfl)) ?_; (with_reducible refine (Go.Proofs.YtngkbmlmlfofdaaDoor.HB.fields_Seconds.calls k t116 t117 t118 _ A3.out).mono ?_); rintro e w35 ⟨rfl, hb⟩; refine ⟨_, rfl, ?_⟩; have n0_ := Aside0.mk (below_step (by repeat (first | (with_reducible first | exact HB.out | apply below_alloc | apply pw_below_drewN | apply below_drew1) | exact HB.out)) hb); clear HB; have HB := n0_; clear n0_; (try clear hb); (try clear hb2); (try clear hk); (try clear hi)) | ((with_reducible refine gate_callee (f := 12) rfl ?_); refine goesL_ (some 20) rfl rfl Tryd.func12 (by kernel_rfl) rfl #[] rfl (by (try simp only [List.map_toArray, List.map_cons, List.map_nil]); first | done | rfl | (simp only [List.length_drop, List.length_take]; rfl)) ?_; (with_reducible refine (Go.Proofs.YtngkbmlmlfofdaaDoor.G.wainloadlaw03_alive.calls  true _ ?sideT A30.out).mono ?_); (case sideT => first | exact hT | (refine hT.below ?_; repeat (first | (with_reducible first | exact HB.out | exact n0_.out | exact n1_.out | exact n2_.out | exact n3_.out | exact n4_.out | exact n5_.out | exact n6_.out | exact n7_.out | exact n8_.out | exact n9_.out | exact n10_.out | exact n11_.out | apply below_alloc | apply pw_below_drewN | apply below_drew1) | exact HB.out | exact Below.refl _ _)) | (refine hT.drawn ?_; repeat (first | exact Drawn0.refl _ | apply Drawn0.step))); rintro e w36 ⟨rfl, hb⟩; refine ⟨_, rfl, ?_⟩; have n0_ := Aside0.mk (below_step (by repeat (first | (with_reducible first | exact HB.out | apply below_alloc | apply pw_below_drewN | apply below_drew1) | exact HB.out)) hb); clear HB; have HB := n0_; clear n0_; (try clear hb); (try clear hb2); (try clear hk); (try clear hi)) | (go_at_call 18; (with_reducible refine (Go.Proofs.YtngkbmlmlfofdaaDoor.HC.wainloadref03_PutSeconds.calls k a0 t122 _ A32.out).mono ?_); rintro e w37 ⟨rfl, hb⟩; have n0_ := Aside0.mk (below_step (by repeat (first | (with_reducible first | exact HB.out | apply below_alloc | apply pw_below_drewN | apply below_drew1) | exact HB.out)) hb); clear HB; have HB := n0_; clear n0_; (try clear hb); (try clear hb2); (try clear hk); (try clear hi)))
        go_ret
        exact ⟨by first | rfl | (simp [errW_none, errW_some] <;> rfl) | (simp [*, errW_none, errW_some] <;> rfl), by repeat (first | (with_reducible first | exact HB.out | apply below_alloc | apply pw_below_drewN | apply below_drew1) | exact HB.out)⟩
      · rw [if_neg c33] at H
        have c33b0 : (t116.toList == t122.toList) = false := beq_eq_false_iff_ne.mpr c33
        have c33b1 : (t116.toList != t122.toList) = true := bne_iff_ne.mpr c33
        obtain rfl := Option.some.inj H
        go_enter Tryd.func6, Tryd.ntmps6
        go_wp2_with (first | ((with_reducible refine gate_callee (f := 17) rfl ?_); refine goesL_ (some 8) rfl rfl Tryd.func17 (by kernel_rfl) rfl #[.int .i64 a0] rfl (by (try simp only [List.map_toArray, List.map_cons, List.map_nil]); first | done | rfl | (simp only [List.length_drop, List.length_take]; rfl)) ?_; (with_reducible refine (Go.Proofs.YtngkbmlmlfofdaaDoor.G.fields_PutSeconds.calls a0 t116 _ ?sideT A2.out).mono ?_); (case sideT => first | exact hT | (refine hT.below ?_; repeat (first | (with_reducible first | exact HB.out | exact n0_.out | exact n1_.out | exact n2_.out | exact n3_.out | exact n4_.out | exact n5_.out | exact n6_.out | exact n7_.out | exact n8_.out | exact n9_.out | exact n10_.out | exact n11_.out | apply below_alloc | apply pw_below_drewN | apply below_drew1) | exact HB.out | exact Below.refl _ _)) | (refine hT.drawn ?_; repeat (first | exact Drawn0.refl _ | apply Drawn0.step))); rintro e w38 ⟨rfl, hb⟩; refine ⟨_, rfl, ?_⟩; have n0_ := Aside0.mk (below_step (by repeat (first | (with_reducible first | exact HB.out | apply below_alloc | apply pw_below_drewN | apply below_drew1) | exact HB.out)) hb); clear HB; have HB := n0_; clear n0_; (try clear hb); (try clear hb2); (try clear hk); (try clear hi)) | ((with_reducible refine gate_callee (f := 15) rfl ?_); refine goesL_ (some 11) rfl rfl Tryd.func15 (by kernel_rfl) rfl #[.string t116] rfl (by (try simp only [List.map_toArray, List.map_cons, List.map_nil]); first | done | rfl | (simp only [List.length_drop, List.length_take]; rfl)) ?_; (with_reducible refine (Go.Proofs.YtngkbmlmlfofdaaDoor.HB.fields_Seconds.calls k t116 t117 t118 _ A3.out).mono ?_); rintro e w39 ⟨rfl, hb⟩; refine ⟨_, rfl, ?_⟩; have n0_ := Aside0.mk (below_step (by repeat (first | (with_reducible first | exact HB.out | apply below_alloc | apply pw_below_drewN | apply below_drew1) | exact HB.out)) hb); clear HB; have HB := n0_; clear n0_; (try clear hb); (try clear hb2); (try clear hk); (try clear hi)) | ((with_reducible refine gate_callee (f := 12) rfl ?_); refine goesL_ (some 20) rfl rfl Tryd.func12 (by kernel_rfl) rfl #[] rfl (by (try simp only [List.map_toArray, List.map_cons, List.map_nil]); first | done | rfl | (simp only [List.length_drop, List.length_take]; rfl)) ?_; (with_reducible refine (Go.Proofs.YtngkbmlmlfofdaaDoor.G.wainloadlaw03_alive.calls  true _ ?sideT A30.out).mono ?_); (case sideT => first | exact hT | (refine hT.below ?_; repeat (first | (with_reducible first | exact HB.out | exact n0_.out | exact n1_.out | exact n2_.out | exact n3_.out | exact n4_.out | exact n5_.out | exact n6_.out | exact n7_.out | exact n8_.out | exact n9_.out | exact n10_.out | exact n11_.out | apply below_alloc | apply pw_below_drewN | apply below_drew1) | exact HB.out | exact Below.refl _ _)) | (refine hT.drawn ?_; repeat (first | exact Drawn0.refl _ | apply Drawn0.step))); rintro e w40 ⟨rfl, hb⟩; refine ⟨_, rfl, ?_⟩; have n0_ := Aside0.mk (below_step (by repeat (first | (with_reducible first | exact HB.out | apply below_alloc | apply pw_below_drewN | apply below_drew1) | exact HB.out)) hb); clear HB; have HB := n0_; clear n0_; (try clear hb); (try clear hb2); (try clear hk); (try clear hi)) | (go_at_call 18; (with_reducible refine (Go.Proofs.YtngkbmlmlfofdaaDoor.HC.wainloadref03_PutSeconds.calls k a0 t122 _ A32.out).mono ?_); rintro e w41 ⟨rfl, hb⟩; have n0_ := Aside0.mk (below_step (by repeat (first | (with_reducible first | exact HB.out | apply below_alloc | apply pw_below_drewN | apply below_drew1) | exact HB.out)) hb); clear HB; have HB := n0_; clear n0_; (try clear hb); (try clear hb2); (try clear hk); (try clear hi)))
        go_ret
        exact ⟨by first | rfl | (simp [errW_none, errW_some] <;> rfl) | (simp [*, errW_none, errW_some] <;> rfl), by repeat (first | (with_reducible first | exact HB.out | apply below_alloc | apply pw_below_drewN | apply below_drew1) | exact HB.out)⟩
    · replace c31 := Bool.eq_false_iff.mpr c31
      subst c31
      have H1 : (some false) = some r := by rw [if_neg (show ¬ (false = true) by decide)] at H; exact H
      clear H
      have H := H1
      clear H1
      obtain rfl := Option.some.inj H
      go_enter Tryd.func6, Tryd.ntmps6
      go_wp2_with (first | ((with_reducible refine gate_callee (f := 17) rfl ?_); refine goesL_ (some 8) rfl rfl Tryd.func17 (by kernel_rfl) rfl #[.int .i64 a0] rfl (by (try simp only [List.map_toArray, List.map_cons, List.map_nil]); first | done | rfl | (simp only [List.length_drop, List.length_take]; rfl)) ?_; (with_reducible refine (Go.Proofs.YtngkbmlmlfofdaaDoor.G.fields_PutSeconds.calls a0 t116 _ ?sideT A2.out).mono ?_); (case sideT => first | exact hT | (refine hT.below ?_; repeat (first | (with_reducible first | exact HB.out | exact n0_.out | exact n1_.out | exact n2_.out | exact n3_.out | exact n4_.out | exact n5_.out | exact n6_.out | exact n7_.out | exact n8_.out | exact n9_.out | exact n10_.out | exact n11_.out | apply below_alloc | apply pw_below_drewN | apply below_drew1) | exact HB.out | exact Below.refl _ _)) | (refine hT.drawn ?_; repeat (first | exact Drawn0.refl _ | apply Drawn0.step))); rintro e w42 ⟨rfl, hb⟩; refine ⟨_, rfl, ?_⟩; have n0_ := Aside0.mk (below_step (by repeat (first | (with_reducible first | exact HB.out | apply below_alloc | apply pw_below_drewN | apply below_drew1) | exact HB.out)) hb); clear HB; have HB := n0_; clear n0_; (try clear hb); (try clear hb2); (try clear hk); (try clear hi)) | ((with_reducible refine gate_callee (f := 15) rfl ?_); refine goesL_ (some 11) rfl rfl Tryd.func15 (by kernel_rfl) rfl #[.string t116] rfl (by (try simp only [List.map_toArray, List.map_cons, List.map_nil]); first | done | rfl | (simp only [List.length_drop, List.length_take]; rfl)) ?_; (with_reducible refine (Go.Proofs.YtngkbmlmlfofdaaDoor.HB.fields_Seconds.calls k t116 t117 t118 _ A3.out).mono ?_); rintro e w43 ⟨rfl, hb⟩; refine ⟨_, rfl, ?_⟩; have n0_ := Aside0.mk (below_step (by repeat (first | (with_reducible first | exact HB.out | apply below_alloc | apply pw_below_drewN | apply below_drew1) | exact HB.out)) hb); clear HB; have HB := n0_; clear n0_; (try clear hb); (try clear hb2); (try clear hk); (try clear hi)) | ((with_reducible refine gate_callee (f := 12) rfl ?_); refine goesL_ (some 20) rfl rfl Tryd.func12 (by kernel_rfl) rfl #[] rfl (by (try simp only [List.map_toArray, List.map_cons, List.map_nil]); first | done | rfl | (simp only [List.length_drop, List.length_take]; rfl)) ?_; (with_reducible refine (Go.Proofs.YtngkbmlmlfofdaaDoor.G.wainloadlaw03_alive.calls  false _ ?sideT A30.out).mono ?_); (case sideT => first | exact hT | (refine hT.below ?_; repeat (first | (with_reducible first | exact HB.out | exact n0_.out | exact n1_.out | exact n2_.out | exact n3_.out | exact n4_.out | exact n5_.out | exact n6_.out | exact n7_.out | exact n8_.out | exact n9_.out | exact n10_.out | exact n11_.out | apply below_alloc | apply pw_below_drewN | apply below_drew1) | exact HB.out | exact Below.refl _ _)) | (refine hT.drawn ?_; repeat (first | exact Drawn0.refl _ | apply Drawn0.step))); rintro e w44 ⟨rfl, hb⟩; refine ⟨_, rfl, ?_⟩; have n0_ := Aside0.mk (below_step (by repeat (first | (with_reducible first | exact HB.out | apply below_alloc | apply pw_below_drewN | apply below_drew1) | exact HB.out)) hb); clear HB; have HB := n0_; clear n0_; (try clear hb); (try clear hb2); (try clear hk); (try clear hi)))
      go_ret
      exact ⟨by first | rfl | (simp [errW_none, errW_some] <;> rfl) | (simp [*, errW_none, errW_some] <;> rfl), by repeat (first | (with_reducible first | exact HB.out | apply below_alloc | apply pw_below_drewN | apply below_drew1) | exact HB.out)⟩

end Go.Proofs.YtngkbmlmlfofdaaDoor.HD
