/- The plain law of TimesDos: DOS numbers are the document's times or none, and back; no condition on the numbers. -/
import Derived.Test.YtnnhplakmagbbaaHYx1
import Derived.Test.YtnnhplakmagbbaaLc
namespace Go.Proofs.Ytnnhplakmagbbaa.Pure
open Go.RowKit Go.Proofs.Ytnnhplakmagbbaa.HY Go.Proofs.YtnnhplakmagbbaaW.PrintWords Go.Proofs.YtnnhplakmagbbaaW.PrintLast
open Go.Proofs.Ytnnhplakmagbbaa.HA Go.Proofs.Ytnnhplakmagbbaa.HB Go.Proofs.Ytnnhplakmagbbaa.LA Go.Proofs.Ytnnhplakmagbbaa.HX

set_option linter.unusedVariables false
theorem wraps_i64 (n : Int) (h₀ : 0 ≤ n) (h₁ : n < 2 ^ 16) : IntKind.i64.wrap n = n := by rw [IntKind.wrap_i64]; omega
theorem in16 {a : Int} (h : (Lit.int .u16 a).wf = true) : 0 ≤ a ∧ a < 65536 := by
  have : 0 ≤ a ∧ a ≤ 65535 := by simpa [Lit.wf, IntKind.min, IntKind.max, IntKind.signed, IntKind.bits] using h
  omega
theorem i64_or5 (x y : Int) (hx₀ : 0 ≤ x) (hx : x % 32 = 0) (hx₁ : x < 65536) (h₀ : 0 ≤ y) (h₁ : y < 32) : Go.bits .or .i64 x y = x + y :=
  bits_join .i64 16 (by decide) wraps_i64 5 x y hx₀ hx hx₁ h₀ h₁ (by omega)
theorem i64_or9 (x y : Int) (hx₀ : 0 ≤ x) (hx : x % 512 = 0) (hx₁ : x < 65536) (h₀ : 0 ≤ y) (h₁ : y < 512) : Go.bits .or .i64 x y = x + y :=
  bits_join .i64 16 (by decide) wraps_i64 9 x y hx₀ hx hx₁ h₀ h₁ (by omega)
theorem i64_or11 (x y : Int) (hx₀ : 0 ≤ x) (hx : x % 2048 = 0) (hx₁ : x < 65536) (h₀ : 0 ≤ y) (h₁ : y < 2048) : Go.bits .or .i64 x y = x + y :=
  bits_join .i64 16 (by decide) wraps_i64 11 x y hx₀ hx hx₁ h₀ h₁ (by omega)
theorem or_day (y m d : Int) (hy : 0 ≤ y ∧ y < 128) (hm : 0 ≤ m ∧ m < 16) (hd : 0 ≤ d ∧ d < 32) : Go.bits .or .i64 (Go.bits .or .i64 (y * 512) (m * 32)) d = y * 512 + m * 32 + d := by
  rw [i64_or9 (y * 512) (m * 32) (by omega) (by omega) (by omega) (by omega) (by omega)]
  exact i64_or5 _ d (by omega) (by omega) (by omega) (by omega) (by omega)
theorem or_clock (h mi s : Int) (hy : 0 ≤ h ∧ h < 32) (hm : 0 ≤ mi ∧ mi < 64) (hd : 0 ≤ s ∧ s < 32) : Go.bits .or .i64 (Go.bits .or .i64 (h * 2048) (mi * 32)) s = h * 2048 + mi * 32 + s := by
  rw [i64_or11 (h * 2048) (mi * 32) (by omega) (by omega) (by omega) (by omega) (by omega)]
  exact i64_or5 _ s (by omega) (by omega) (by omega) (by omega) (by omega)
theorem wraps_u16 (n : Int) (h₀ : 0 ≤ n) (h₁ : n < 2 ^ 16) : IntKind.u16.wrap n = n := by rw [IntKind.wrap_u16]; omega
theorem and15 (x : Int) (h : 0 ≤ x ∧ x < 65536) : Go.bits .and .u16 x 15 = x % 16 := bits_mask .u16 16 (by decide) wraps_u16 4 (by decide) x h.1 h.2
theorem and31 (x : Int) (h : 0 ≤ x ∧ x < 65536) : Go.bits .and .u16 x 31 = x % 32 := bits_mask .u16 16 (by decide) wraps_u16 5 (by decide) x h.1 h.2
theorem and63 (x : Int) (h : 0 ≤ x ∧ x < 65536) : Go.bits .and .u16 x 63 = x % 64 := bits_mask .u16 16 (by decide) wraps_u16 6 (by decide) x h.1 h.2

theorem fromDos_same (k : Nat) (a b : Int) (hk : 3000 < k) (ha : 0 ≤ a ∧ a < 65536) (hb : 0 ≤ b ∧ b < 65536) :
    times_FromDos.f a b = (times_FromDate.f (1980 + a / 512) (a / 32 % 16) (a % 32) (b / 2048) (b / 32 % 64) (2 * (b % 32))).bind (fun x => some (x.1, x.2)) ∧
    wainloadref15_FromDos.f k a b = (times_FromDate.f (1980 + a / 512) (a / 32 % 16) (a % 32) (b / 2048) (b / 32 % 64) (2 * (b % 32))).bind (fun x => some (x.1, x.2)) := by
  have i64 : ∀ x : Int, 0 ≤ x → x < 1000000 → wrap64 x = x := fun x h0 h1 => w64 x (by unfold inI64; omega)
  constructor
  · unfold times_FromDos.f
    have m1 := and15 (a / 32) (by omega)
    have m2 := and31 a (by omega)
    have m3 := and63 (b / 32) (by omega)
    have m4 := and31 b (by omega)
    rw [m1, m2, m3, m4, i64 (a / 512) (by omega) (by omega), i64 (1980 + a / 512) (by omega) (by omega), i64 (a / 32 % 16) (by omega) (by omega), i64 (a % 32) (by omega) (by omega), i64 (b / 2048) (by omega) (by omega), i64 (b / 32 % 64) (by omega) (by omega), i64 (b % 32) (by omega) (by omega), i64 (2 * (b % 32)) (by omega) (by omega)]
  · unfold wainloadref15_FromDos.f
    rw [i64 a (by omega) (by omega), i64 b (by omega) (by omega), Int.tdiv_eq_ediv_of_nonneg ha.1, Int.tdiv_eq_ediv_of_nonneg ha.1, Int.tdiv_eq_ediv_of_nonneg hb.1, Int.tdiv_eq_ediv_of_nonneg hb.1,
      i64 (a / 512) (by omega) (by omega), i64 (a / 32) (by omega) (by omega), i64 (b / 2048) (by omega) (by omega), i64 (b / 32) (by omega) (by omega), i64 (1980 + a / 512) (by omega) (by omega),
      Int.tmod_eq_emod_of_nonneg (show 0 ≤ a / 32 by omega), Int.tmod_eq_emod_of_nonneg ha.1, Int.tmod_eq_emod_of_nonneg (show 0 ≤ b / 32 by omega), Int.tmod_eq_emod_of_nonneg hb.1, i64 (b % 32 * 2) (by omega) (by omega), fromDate_same k _ _ _ _ _ _ hk]
    rw [show b % 32 * 2 = 2 * (b % 32) by omega]

theorem fromDate_some (Y M D h mi s : Int) : ∃ x b, times_FromDate.f Y M D h mi s = some (x, b) := by
  unfold times_FromDate.f
  split <;> exact ⟨_, _, rfl⟩

theorem day_parts (A B C : Int) (hA : 0 ≤ A ∧ A < 128) (hB : 0 ≤ B ∧ B < 16) (hC : 0 ≤ C ∧ C < 32) :
    (A * 512 + B * 32 + C) / 512 = A ∧ (A * 512 + B * 32 + C) / 32 % 16 = B ∧ (A * 512 + B * 32 + C) % 32 = C := by
  have h1 : (A * 512 + B * 32 + C) / 32 = A * 16 + B := by omega
  refine ⟨by omega, ?_, by omega⟩
  rw [h1]; omega
theorem clock_parts (A B C : Int) (hA : 0 ≤ A ∧ A < 32) (hB : 0 ≤ B ∧ B < 64) (hC : 0 ≤ C ∧ C < 32) :
    (A * 2048 + B * 32 + C) / 2048 = A ∧ (A * 2048 + B * 32 + C) / 32 % 64 = B ∧ (A * 2048 + B * 32 + C) % 32 = C := by
  have h1 : (A * 2048 + B * 32 + C) / 32 = A * 64 + B := by omega
  refine ⟨by omega, ?_, by omega⟩
  rw [h1]; omega

/-- What ToDos tells, and that it is told again. -/
theorem toDos_same (k : Nat) (t : Int) (hk : 3000 < k) (ht : inI64 t) :
    ∃ a b c, times_ToDos.f t = some (a, b, c) ∧ wainloadref15_ToDos.f k t = some (a, b, c) ∧ (0 ≤ a ∧ a < 65536) ∧ (0 ≤ b ∧ b < 65536) ∧
      (c = true → times_FromDate.f (1980 + a / 512) (a / 32 % 16) (a % 32) (b / 2048) (b / 32 % 64) (2 * (b % 32)) = some (floorTo t 2000000000, true)) := by
  have ht' : -9223372036854775808 ≤ t ∧ t ≤ 9223372036854775807 := ht
  have hn : -106800 ≤ dayOf t ∧ dayOf t ≤ 106800 := by unfold dayOf; omega
  have hr : 0 ≤ t / 1000000000 - dayOf t * 86400 ∧ t / 1000000000 - dayOf t * 86400 < 86400 := by unfold dayOf; omega
  have hy := yearOf_ok (dayOf t)
  have hm := monthOf_ok (yearOf (dayOf t)) (dayOf t - days (yearOf (dayOf t))) (by omega) (by rw [mcum_year]; omega)
  unfold times_ToDos.f wainloadref15_ToDos.f
  rw [toDate_same k t hk ht]
  unfold times_ToDate.f
  rw [if_pos ht]
  simp only [Option.bind_some]
  generalize hyy : yearOf (dayOf t) = y at *
  generalize hmm : monthOf y (dayOf t - days y) = m at *
  have hml := mlen_bd y (m + 1)
  have hms : mcum y (m + 1) = mcum y m + mlen y (m + 1) := rfl
  by_cases c1 : y < 1980
  · rw [in_no _ _ _ (by omega)]
    simp only [Option.bind_some]
    rw [if_neg (by decide), if_pos c1]
    exact ⟨0, 0, false, rfl, rfl, by omega, by omega, by simp⟩
  by_cases c2 : y > 2107
  · rw [in_no _ _ _ (by omega)]
    simp only [Option.bind_some]
    rw [if_neg (by decide), if_neg c1, if_pos c2]
    exact ⟨0, 0, false, rfl, rfl, by omega, by omega, by simp⟩
  rw [in_yes _ _ _ (by omega)]
  simp only [Option.bind_some, if_true]
  rw [if_neg c1, if_neg c2]
  have i64 : ∀ x : Int, 0 ≤ x → x < 1000000 → wrap64 x = x := fun x h0 h1 => w64 x (by unfold inI64; omega)
  generalize hd : dayOf t - days y - mcum y m + 1 = d at *
  generalize hS : t / 1000000000 - dayOf t * 86400 = S at *
  have hd1 : 1 ≤ d ∧ d ≤ 31 := by omega
  have hm12 : (m : Int) < 12 := by omega
  rw [Int.tdiv_eq_ediv_of_nonneg (show 0 ≤ S % 60 by omega)]
  rw [i64 (y - 1980) (by omega) (by omega), i64 ((y - 1980) * 512) (by omega) (by omega), i64 (((m : Int) + 1) * 32) (by omega) (by omega), i64 (S / 3600 * 2048) (by omega) (by omega), i64 (S / 60 % 60 * 32) (by omega) (by omega), i64 (S % 60 / 2) (by omega) (by omega),
    or_day (y - 1980) (m + 1) d (by omega) (by omega) (by omega), or_clock (S / 3600) (S / 60 % 60) (S % 60 / 2) (by omega) (by omega) (by omega),
    i64 ((y - 1980) * 512 + ((m : Int) + 1) * 32) (by omega) (by omega), i64 ((y - 1980) * 512 + ((m : Int) + 1) * 32 + d) (by omega) (by omega), i64 (S / 3600 * 2048 + S / 60 % 60 * 32) (by omega) (by omega), i64 (S / 3600 * 2048 + S / 60 % 60 * 32 + S % 60 / 2) (by omega) (by omega),
    IntKind.wrap_u16, IntKind.wrap_u16]
  have e1 : ((y - 1980) * 512 + ((m : Int) + 1) * 32 + d) % 65536 = (y - 1980) * 512 + ((m : Int) + 1) * 32 + d := by omega
  have e2 : (S / 3600 * 2048 + S / 60 % 60 * 32 + S % 60 / 2) % 65536 = S / 3600 * 2048 + S / 60 % 60 * 32 + S % 60 / 2 := by omega
  rw [e1, e2]
  refine ⟨_, _, _, rfl, rfl, by omega, by omega, fun _ => ?_⟩
  obtain ⟨p1, f2, f3⟩ := day_parts (y - 1980) (m + 1) d (by omega) (by omega) (by omega)
  obtain ⟨f4, f5, f6⟩ := clock_parts (S / 3600) (S / 60 % 60) (S % 60 / 2) (by omega) (by omega) (by omega)
  have f1 : 1980 + ((y - 1980) * 512 + ((m : Int) + 1) * 32 + d) / 512 = y := by rw [p1]; omega
  rw [f1, f2, f3, f4, f5, f6]
  unfold times_FromDate.f
  rw [if_pos (by unfold okDate; omega)]
  have hk2 : ((m : Int) + 1).toNat - 1 = m := by omega
  rw [hk2]
  have hv : ((days y + d - 1 + mcum y m) * 86400 + (3600 * (S / 3600) + 60 * (S / 60 % 60) + 2 * (S % 60 / 2))) * 1000000000 = t / 2000000000 * 2000000000 := by
    have g1 : days y + d - 1 + mcum y m = dayOf t := by omega
    rw [g1]
    have g2 : 3600 * (S / 3600) + 60 * (S / 60 % 60) + 2 * (S % 60 / 2) = S - S % 2 := by omega
    rw [g2]
    have g3 : S % 2 = t / 1000000000 % 2 := by omega
    omega
  rw [hv]
  have hlo : -106800 * 86400 * 1000000000 ≤ t / 2000000000 * 2000000000 := by omega
  have hyl := days_lt 1979 y (by omega)
  have z : days 1979 = 3287 := by decide
  have hpos : 0 ≤ t := by have : 0 ≤ dayOf t := by omega
                          unfold dayOf at this; omega
  rw [w64 _ (by unfold inI64; omega)]
  unfold floorTo
  rw [if_neg (by omega), if_neg (by omega)]

theorem TimesDos : wainloadlaw15_TimesDos.Pure := by
  intro a0 a1 a2 w0 w1 w2
  refine ⟨4000, ?_⟩
  obtain ⟨s1, s2⟩ := fromDos_same 4000 a0 a1 (by omega) (in16 w0) (in16 w1)
  obtain ⟨x, b, hx⟩ := fromDate_some (1980 + a0 / 512) (a0 / 32 % 16) (a0 % 32) (a1 / 2048) (a1 / 32 % 64) (2 * (a1 % 32))
  obtain ⟨p, q, c, t1, t2, hp, hq, hb⟩ := toDos_same 4000 a2 (by omega) (in64 w2)
  rw [hx] at s1 s2
  simp only [Option.bind_some] at s1 s2
  unfold wainloadlaw15_TimesDos.f
  rw [s1, s2, t1, t2]
  simp only [Option.bind_some, if_true, bne_self_eq_false, Bool.false_eq_true, if_false]
  obtain ⟨u1, _⟩ := fromDos_same 4000 p q (by omega) hp hq
  simp only [wainloadlaw15_TimesDos.j0, wainloadlaw15_alive.f, Option.bind_some, if_true, Bool.false_eq_true, if_false]
  rw [u1]
  obtain ⟨x2, b2, hx2⟩ := fromDate_some (1980 + p / 512) (p / 32 % 16) (p % 32) (q / 2048) (q / 32 % 64) (2 * (q % 32))
  cases c with
  | false => rw [hx2]; simp
  | true =>
    rw [hb rfl, refFloor_some a2 2000000000 (in64 w2) (by unfold inI64; omega)]
    simp
end Go.Proofs.Ytnnhplakmagbbaa.Pure
