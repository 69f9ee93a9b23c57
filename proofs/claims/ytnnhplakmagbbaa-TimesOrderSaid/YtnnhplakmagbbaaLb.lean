/- Plain facts: the document's ToDate and the program's are the same. -/
import Derived.Test.YtnnhplakmagbbaaLa
namespace Go.Proofs.Ytnnhplakmagbbaa.LA
open Go.RowKit Go.Proofs.YtnnhplakmagbbaaW.PrintWords Go.Proofs.YtnnhplakmagbbaaW.PrintLast Go.Proofs.YtnnhplakmagbbaaW.PrintMore
open Go.Proofs.Ytnnhplakmagbbaa.HA Go.Proofs.Ytnnhplakmagbbaa.HB
set_option linter.unusedVariables false
set_option linter.unusedSimpArgs false

theorem year_unique (n y : Int) (h0 : days y ≤ n) (h1 : n < days (y + 1)) : y = yearOf n := by
  have h := yearOf_ok n
  have a := guess_le n (yearOf n) y h0 h.2
  have b := guess_le n y (yearOf n) h.1 h1
  omega
theorem month_unique (y d : Int) (j : Nat) (hd0 : 0 ≤ d) (hd1 : d < mcum y 12) (h0 : mcum y j ≤ d) (h1 : d < mcum y (j + 1)) : j = monthOf y d := by
  have h := monthOf_ok y d hd0 hd1
  by_cases c : j < monthOf y d
  · have := mcum_mono y (j + 1) (monthOf y d) (by omega); omega
  · by_cases e : monthOf y d < j
    · have := mcum_mono y (monthOf y d + 1) j (by omega); omega
    · omega

theorem date_months (n r y : Int) (hn : -106800 ≤ n ∧ n ≤ 106800) (hr : 0 ≤ r ∧ r < 86400) (hy : y = yearOf n) (m : Nat) (hm : m = monthOf y (n - days y)) : ∀ (d k j : Nat) (x : Int), d < k → j + d = m → x = n - days y - mcum y j →
    wainloadref15_ToDate.l2 k x r y (j + 1) = some (y, (m : Int) + 1, n - days y - mcum y m + 1, r / 3600, r / 60 % 60, r % 60) := by
  have hyo := yearOf_ok n
  rw [← hy] at hyo
  have hyb := days_year n y hn hyo.1 hyo.2
  have hmo := monthOf_ok y (n - days y) (by omega) (by rw [mcum_year]; omega)
  rw [← hm] at hmo
  have hmc : mcum y 12 ≤ 400 := by have := mcum_bd y 12; omega
  have hmy := mcum_year y
  intro d
  induction d with
  | zero =>
    intro k j x hk hj hx
    obtain ⟨k, rfl⟩ : ∃ m, k = m + 1 := ⟨k - 1, by omega⟩
    simp only [wainloadref15_ToDate.l2]
    rw [month_some y _ (by omega) (by omega) (by omega)]
    simp only [Option.bind_some]
    have e : j = m := by omega
    subst e
    have hs : mcum y (j + 1) = mcum y j + mlen y (j + 1) := rfl
    have hmb := mcum_bd y j
    rw [if_neg (by omega), hx, w64 _ (by unfold inI64; omega), Int.tdiv_eq_ediv_of_nonneg hr.1, Int.tmod_eq_emod_of_nonneg hr.1, Int.tmod_eq_emod_of_nonneg hr.1, Int.tdiv_eq_ediv_of_nonneg (Int.emod_nonneg _ (by omega)), w64 (r / 3600) (by unfold inI64; omega), w64 (r % 3600 / 60) (by unfold inI64; omega)]
    have e2 : r % 3600 / 60 = r / 60 % 60 := by omega
    rw [e2]
  | succ d ih =>
    intro k j x hk hj hx
    obtain ⟨k, rfl⟩ : ∃ m, k = m + 1 := ⟨k - 1, by omega⟩
    simp only [wainloadref15_ToDate.l2]
    rw [month_some y _ (by omega) (by omega) (by omega)]
    simp only [Option.bind_some]
    have hs : mcum y (j + 1) = mcum y j + mlen y (j + 1) := rfl
    have hmm := mcum_mono y (j + 1) m (by omega)
    have hmb := mcum_bd y j
    have hlb := mlen_bd y (j + 1)
    rw [if_pos (by omega), w64 _ (by unfold inI64; omega), w64 (((j : Int) + 1) + 1) (by unfold inI64; omega)]
    have := ih k (j + 1) (x - mlen y (j + 1)) (by omega) (by omega) (by omega)
    simpa using this
theorem date_up (n r : Int) (hn : -106800 ≤ n ∧ n ≤ 106800) (hr : 0 ≤ r ∧ r < 86400) : ∀ (d k : Nat) (x y : Int), d + 20 < k → y + d = yearOf n → x = n - days y → 1600 ≤ y →
    wainloadref15_ToDate.l1 k x r y = some (yearOf n, (monthOf (yearOf n) (n - days (yearOf n)) : Int) + 1, n - days (yearOf n) - mcum (yearOf n) (monthOf (yearOf n) (n - days (yearOf n))) + 1, r / 3600, r / 60 % 60, r % 60) := by
  have hyo := yearOf_ok n
  have hyb := days_year n (yearOf n) hn hyo.1 hyo.2
  intro d
  induction d with
  | zero =>
    intro k x y hk hy hx h0
    obtain ⟨k, rfl⟩ : ∃ m, k = m + 1 := ⟨k - 1, by omega⟩
    simp only [wainloadref15_ToDate.l1]
    have e : y = yearOf n := by omega
    subst e
    rw [year_some _ (by omega)]
    simp only [Option.bind_some]
    rw [if_neg (by omega)]
    have hmo := monthOf_ok (yearOf n) (n - days (yearOf n)) (by omega) (by rw [mcum_year]; omega)
    exact date_months n r (yearOf n) hn hr rfl _ rfl (monthOf (yearOf n) (n - days (yearOf n))) k 0 x (by omega) (by omega) (by rw [hx]; simp [mcum])
  | succ d ih =>
    intro k x y hk hy hx h0
    obtain ⟨k, rfl⟩ : ∃ m, k = m + 1 := ⟨k - 1, by omega⟩
    simp only [wainloadref15_ToDate.l1]
    have hle : days (y + 1) ≤ n := by
      by_cases e : y + 1 = yearOf n
      · rw [e]; exact hyo.1
      · have := days_lt (y + 1) (yearOf n) (by omega); omega
    have hb := days_bd y (by omega) (by omega)
    have hb1 := days_bd (y + 1) (by omega) (by omega)
    rw [year_some _ (by omega)]
    simp only [Option.bind_some]
    rw [if_pos (by omega), w64 _ (by unfold inI64; omega), w64 (y + 1) (by unfold inI64; omega)]
    exact ih k _ (y + 1) (by omega) (by omega) (by omega) (by omega)
theorem date_down (n r : Int) (hn : -106800 ≤ n ∧ n ≤ 106800) (hr : 0 ≤ r ∧ r < 86400) : ∀ (d k : Nat) (x y : Int), d + 1000 < k → y = 1600 + d → x = n - days y → y ≤ 1970 →
    wainloadref15_ToDate.l0 k x r y = some (yearOf n, (monthOf (yearOf n) (n - days (yearOf n)) : Int) + 1, n - days (yearOf n) - mcum (yearOf n) (monthOf (yearOf n) (n - days (yearOf n))) + 1, r / 3600, r / 60 % 60, r % 60) := by
  have hyo := yearOf_ok n
  have hyb := days_year n (yearOf n) hn hyo.1 hyo.2
  have z : days 1600 < -106800 := by decide
  intro d
  induction d with
  | zero =>
    intro k x y hk hy hx h1
    obtain ⟨k, rfl⟩ : ∃ m, k = m + 1 := ⟨k - 1, by omega⟩
    simp only [wainloadref15_ToDate.l0]
    have e : y = 1600 := by omega
    subst e
    have := guess_le n (yearOf n) 1600 (by omega) hyo.2
    rw [if_neg (by omega)]
    exact date_up n r hn hr (yearOf n - 1600).toNat k x 1600 (by omega) (by omega) hx (by omega)
  | succ d ih =>
    intro k x y hk hy hx h1
    obtain ⟨k, rfl⟩ : ∃ m, k = m + 1 := ⟨k - 1, by omega⟩
    simp only [wainloadref15_ToDate.l0]
    by_cases c : x < 0
    · rw [if_pos c]
      have hb := days_bd y (by omega) (by omega)
      have hb1 := days_bd (y - 1) (by omega) (by omega)
      have hys := year_some (y - 1) (by omega)
      rw [show y - 1 + 1 = y by omega] at hys
      rw [w64 (y - 1) (by unfold inI64; omega), hys]
      simp only [Option.bind_some]
      rw [w64 _ (by unfold inI64; omega)]
      exact ih k _ (y - 1) (by omega) (by omega) (by omega) (by omega)
    · rw [if_neg c]
      have := guess_le n (yearOf n) y (by omega) hyo.2
      exact date_up n r hn hr (yearOf n - y).toNat k x y (by omega) (by omega) hx (by omega)

/-- The document's ToDate and the program's are the same. -/
theorem toDate_same (k : Nat) (t : Int) (hk : 3000 < k) (ht : inI64 t) : wainloadref15_ToDate.f k t = times_ToDate.f t := by
  have ht' : -9223372036854775808 ≤ t ∧ t ≤ 9223372036854775807 := ht
  unfold wainloadref15_ToDate.f times_ToDate.f
  rw [if_pos ht, down_some t _ ht (by omega) (by omega)]
  simp only [Option.bind_some]
  rw [down_some _ 86400 (by unfold inI64; omega) (by omega) (by omega)]
  simp only [Option.bind_some]
  have hn : -106800 ≤ dayOf t ∧ dayOf t ≤ 106800 := by unfold dayOf; omega
  have hr : 0 ≤ t / 1000000000 - dayOf t * 86400 ∧ t / 1000000000 - dayOf t * 86400 < 86400 := by unfold dayOf; omega
  have e : t / 1000000000 / 86400 = dayOf t := rfl
  rw [e, w64 (dayOf t * 86400) (by unfold inI64; omega), w64 _ (by unfold inI64; omega)]
  have z : days 1970 = 0 := by decide
  exact date_down (dayOf t) _ hn hr 370 k (dayOf t) 1970 (by omega) (by omega) (by omega) (by omega)
end Go.Proofs.Ytnnhplakmagbbaa.LA
