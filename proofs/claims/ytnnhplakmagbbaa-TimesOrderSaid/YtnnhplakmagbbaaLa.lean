/- Plain facts on the printed functions of the document's answer: they give what the program's dates are. -/
import Derived.Test.YtnnhplakmagbbaaHf
namespace Go.Proofs.Ytnnhplakmagbbaa.LA
open Go.RowKit Go.Proofs.YtnnhplakmagbbaaW.PrintWords Go.Proofs.YtnnhplakmagbbaaW.PrintLast Go.Proofs.YtnnhplakmagbbaaW.PrintMore
open Go.Proofs.Ytnnhplakmagbbaa.HA Go.Proofs.Ytnnhplakmagbbaa.HB
set_option linter.unusedVariables false
set_option linter.unusedSimpArgs false

theorem w64 (x : Int) (h : inI64 x) : wrap64 x = x := by unfold inI64 at h; unfold wrap64; omega

theorem down_some (t st : Int) (ht : inI64 t) (h1 : 1 ≤ st) (h2 : st ≤ 9223372036854775807) : wainloadref15_down.f t st = some (t / st) := by
  have hf := floored_some t st ht h1 h2
  unfold times_floored.f at hf
  rw [if_neg (by omega)] at hf
  unfold wainloadref15_down.f
  rw [if_neg (by omega)]
  unfold inI64 at ht
  by_cases hn : t < 0
  · rw [if_pos hn]
    have hd : Int.tdiv t st * st + Int.tmod t st = t := Int.tdiv_mul_add_tmod t st
    have hm : Int.tmod t st ≤ 0 := by
      have := Int.tmod_nonneg st (show 0 ≤ -t by omega)
      rw [Int.neg_tmod] at this
      omega
    have hml : -st < Int.tmod t st := by
      have := Int.tmod_lt_of_pos (-t) (show 0 < st by omega)
      rw [Int.neg_tmod] at this
      omega
    have hq : -9223372036854775808 ≤ Int.tdiv t st ∧ Int.tdiv t st ≤ 0 := by
      constructor
      · have e : Int.tdiv t st = -(Int.tdiv (-t) st) := by rw [Int.neg_tdiv]; omega
        rw [e, Int.tdiv_eq_ediv_of_nonneg (by omega)]
        have := Int.ediv_le_self st (show 0 ≤ -t by omega)
        omega
      · have e : Int.tdiv t st = -(Int.tdiv (-t) st) := by rw [Int.neg_tdiv]; omega
        rw [e, Int.tdiv_eq_ediv_of_nonneg (by omega)]
        have := Int.ediv_nonneg (show 0 ≤ -t by omega) (show 0 ≤ st by omega)
        omega
    have w1 : wrap64 (Int.tdiv t st) = Int.tdiv t st := w64 _ (by unfold inI64; omega)
    rw [w1] at hf ⊢
    have w2 : wrap64 (Int.tdiv t st * st) = Int.tdiv t st * st := w64 _ (by unfold inI64; omega)
    rw [w2]
    by_cases he : Int.tdiv t st * st = t
    · rw [if_pos he]
      rw [if_neg (by omega)] at hf
      exact hf
    · rw [if_neg he]
      rw [if_pos (by omega)] at hf
      exact hf
  · rw [if_neg hn]
    rw [if_neg (by have := Int.tmod_nonneg st (show 0 ≤ t by omega); omega)] at hf
    exact hf

theorem long_some (y : Int) (h0 : 0 ≤ y) : wainloadref15_long.f y = some (isLong y) := isLong_some y h0
theorem year_some (y : Int) (h0 : 0 ≤ y) : wainloadref15_year.f y = some (days (y + 1) - days y) := by
  unfold wainloadref15_year.f
  rw [long_some y h0]
  simp only [Option.bind_some]
  have := mcum_year y
  have e : mcum y 12 = 337 + feb y := by simp [mcum, mlen]; omega
  rw [← this, e]
  unfold feb
  cases isLong y <;> simp
theorem month_some (y m : Int) (h0 : 0 ≤ y) (h1 : 1 ≤ m) (h2 : m ≤ 12) : wainloadref15_month.f y m = some (mlen y m) := by
  unfold wainloadref15_month.f
  rw [long_some y h0]
  have : m = 1 ∨ m = 2 ∨ m = 3 ∨ m = 4 ∨ m = 5 ∨ m = 6 ∨ m = 7 ∨ m = 8 ∨ m = 9 ∨ m = 10 ∨ m = 11 ∨ m = 12 := by omega
  rcases this with rfl | rfl | rfl | rfl | rfl | rfl | rfl | rfl | rfl | rfl | rfl | rfl
  all_goals first | rfl | (unfold mlen feb; cases isLong y <;> rfl)

theorem day_months (Y M D a3 a4 a5 : Int) (hY : 1600 ≤ Y ∧ Y ≤ 2300) (hM : 1 ≤ M ∧ M ≤ 12) (hD : -100000 ≤ D ∧ D ≤ 100000) : ∀ (d k : Nat) (j : Nat) (n : Int), d < k → (j : Int) + 1 + d = M → n = days Y + mcum Y j →
    wainloadref15_day.l2 k n (j + 1) Y M D a3 a4 a5 = some (days Y + mcum Y (M.toNat - 1) + D - 1) := by
  intro d
  have hdb := days_bd Y (by omega) (by omega)
  induction d with
  | zero =>
    intro k j n hk hj hn
    obtain ⟨k, rfl⟩ : ∃ m, k = m + 1 := ⟨k - 1, by omega⟩
    simp only [wainloadref15_day.l2]
    have e : M.toNat - 1 = j := by omega
    have := mcum_bd Y j
    rw [if_neg (by omega), hn, e, w64 (days Y + mcum Y j + D) (by unfold inI64; omega), w64 _ (by unfold inI64; omega)]
  | succ d ih =>
    intro k j n hk hj hn
    obtain ⟨k, rfl⟩ : ∃ m, k = m + 1 := ⟨k - 1, by omega⟩
    simp only [wainloadref15_day.l2]
    rw [if_pos (by omega), month_some Y _ (by omega) (by omega) (by omega)]
    simp only [Option.bind_some]
    have h1 := mcum_bd Y j
    have h2 := mlen_bd Y (j + 1)
    rw [w64 _ (by unfold inI64; omega), w64 _ (by unfold inI64; omega)]
    have := ih k (j + 1) (n + mlen Y (j + 1)) (by omega) (by omega) (by rw [hn]; simp only [mcum]; omega)
    simpa using this
theorem day_down (Y M D a3 a4 a5 : Int) (hY : 1600 ≤ Y ∧ Y ≤ 2300) (hM : 1 ≤ M ∧ M ≤ 12) (hD : -100000 ≤ D ∧ D ≤ 100000) : ∀ (d k : Nat) (n y : Int), d + 20 < k → y + d = 1970 → 1600 ≤ y → y ≤ 1970 → n = days Y - days y →
    wainloadref15_day.l1 k n y Y M D a3 a4 a5 = some (days Y + mcum Y (M.toNat - 1) + D - 1) := by
  intro d
  have hdb := days_bd Y (by omega) (by omega)
  induction d with
  | zero =>
    intro k n y hk hy h0 h1 hn
    obtain ⟨k, rfl⟩ : ∃ m, k = m + 1 := ⟨k - 1, by omega⟩
    simp only [wainloadref15_day.l1]
    have e : y = 1970 := by omega
    subst e
    rw [if_neg (by omega)]
    have z : days 1970 = 0 := by decide
    exact day_months Y M D a3 a4 a5 hY hM hD (M.toNat - 1) k 0 n (by omega) (by omega) (by rw [hn, z]; simp [mcum])
  | succ d ih =>
    intro k n y hk hy h0 h1 hn
    obtain ⟨k, rfl⟩ : ∃ m, k = m + 1 := ⟨k - 1, by omega⟩
    simp only [wainloadref15_day.l1]
    have hyb := days_bd y (by omega) (by omega)
    have hyb1 := days_bd (y + 1) (by omega) (by omega)
    rw [if_pos (by omega), year_some y (by omega)]
    simp only [Option.bind_some]
    rw [w64 _ (by unfold inI64; omega), w64 (y + 1) (by unfold inI64; omega)]
    exact ih k _ (y + 1) (by omega) (by omega) (by omega) (by omega) (by rw [hn]; omega)
theorem day_up (Y M D a3 a4 a5 : Int) (hY : 1600 ≤ Y ∧ Y ≤ 2300) (hM : 1 ≤ M ∧ M ≤ 12) (hD : -100000 ≤ D ∧ D ≤ 100000) : ∀ (d k : Nat) (n y : Int), d + 500 < k → y + d = max Y 1970 → 1970 ≤ y → n = days y →
    wainloadref15_day.l0 k n y Y M D a3 a4 a5 = some (days Y + mcum Y (M.toNat - 1) + D - 1) := by
  intro d
  have hdb := days_bd Y (by omega) (by omega)
  induction d with
  | zero =>
    intro k n y hk hy h0 hn
    obtain ⟨k, rfl⟩ : ∃ m, k = m + 1 := ⟨k - 1, by omega⟩
    simp only [wainloadref15_day.l0]
    rw [if_neg (by omega)]
    by_cases c : 1970 ≤ Y
    · have e : y = Y := by omega
      subst e
      obtain ⟨k, rfl⟩ : ∃ m, k = m + 1 := ⟨k - 1, by omega⟩
      simp only [wainloadref15_day.l1]
      rw [if_neg (by omega)]
      exact day_months y M D a3 a4 a5 hY hM hD (M.toNat - 1) k 0 n (by omega) (by omega) (by rw [hn]; simp [mcum])
    · have e : y = 1970 := by omega
      subst e
      have z : days 1970 = 0 := by decide
      exact day_down Y M D a3 a4 a5 hY hM hD (1970 - Y).toNat k n Y (by omega) (by omega) (by omega) (by omega) (by rw [hn, z]; omega)
  | succ d ih =>
    intro k n y hk hy h0 hn
    obtain ⟨k, rfl⟩ : ∃ m, k = m + 1 := ⟨k - 1, by omega⟩
    simp only [wainloadref15_day.l0]
    have hyb := days_bd y (by omega) (by omega)
    have hyb1 := days_bd (y + 1) (by omega) (by omega)
    rw [if_pos (by omega), year_some y (by omega)]
    simp only [Option.bind_some]
    rw [w64 _ (by unfold inI64; omega), w64 (y + 1) (by unfold inI64; omega)]
    exact ih k _ (y + 1) (by omega) (by omega) (by omega) (by rw [hn]; omega)
theorem day_some (k : Nat) (Y M D a3 a4 a5 : Int) (hk : 2000 < k) (hY : 1600 ≤ Y ∧ Y ≤ 2300) (hM : 1 ≤ M ∧ M ≤ 12) (hD : -100000 ≤ D ∧ D ≤ 100000) :
    wainloadref15_day.f k Y M D a3 a4 a5 = some (days Y + mcum Y (M.toNat - 1) + D - 1) := by
  unfold wainloadref15_day.f
  exact day_up Y M D a3 a4 a5 hY hM hD (max Y 1970 - 1970).toNat k 0 1970 (by omega) (by omega) (by omega) (by decide)

/-- The document's FromDate and the program's are the same. -/
theorem fromDate_same (k : Nat) (Y M D h mi s : Int) (hk : 3000 < k) : wainloadref15_FromDate.f k Y M D h mi s = times_FromDate.f Y M D h mi s := by
  obtain ⟨k, rfl⟩ : ∃ m, k = m + 1 := ⟨k - 1, by omega⟩
  have hj : ∀ b : Bool, wainloadref15_FromDate.j0 (k + 1) b Y M D h mi s = if b = true ∨ ¬ ((0 ≤ h ∧ h ≤ 23) ∧ (0 ≤ mi ∧ mi ≤ 59) ∧ (0 ≤ s ∧ s ≤ 59)) then some (0, false) else
      ((wainloadref15_day.f k Y M D h mi s).bind fun t123 => (some (wrap64 ((wrap64 ((wrap64 ((wrap64 ((wrap64 (t123 * 86400)) + (wrap64 (h * 3600)))) + (wrap64 (mi * 60)))) + s)) * 1000000000), true))) := by
    intro b
    simp only [wainloadref15_FromDate.j0]
    by_cases e : b = true
    · rw [if_pos e, if_pos (Or.inl e)]
    · rw [if_neg e]
      by_cases e1 : h < 0
      · rw [if_pos e1, if_pos (Or.inr (by omega))]
      · rw [if_neg e1]
        by_cases e2 : h > 23
        · rw [if_pos e2, if_pos (Or.inr (by omega))]
        · rw [if_neg e2]
          by_cases e3 : mi < 0
          · rw [if_pos e3, if_pos (Or.inr (by omega))]
          · rw [if_neg e3]
            by_cases e4 : mi > 59
            · rw [if_pos e4, if_pos (Or.inr (by omega))]
            · rw [if_neg e4]
              by_cases e5 : s < 0
              · rw [if_pos e5, if_pos (Or.inr (by omega))]
              · rw [if_neg e5]
                by_cases e6 : s > 59
                · rw [if_pos e6, if_pos (Or.inr (by omega))]
                · rw [if_neg e6, if_neg (fun x => x.elim e (by omega))]
  unfold wainloadref15_FromDate.f times_FromDate.f
  by_cases c1 : Y < 1700
  · rw [if_pos c1, hj, if_pos (Or.inl rfl), if_neg (by unfold okDate; omega)]
  rw [if_neg c1]
  by_cases c2 : Y > 2250
  · rw [if_pos c2, hj, if_pos (Or.inl rfl), if_neg (by unfold okDate; omega)]
  rw [if_neg c2]
  by_cases c3 : M < 1
  · rw [if_pos c3, hj, if_pos (Or.inl rfl), if_neg (by unfold okDate; omega)]
  rw [if_neg c3]
  by_cases c4 : M > 12
  · rw [if_pos c4, hj, if_pos (Or.inl rfl), if_neg (by unfold okDate; omega)]
  rw [if_neg c4]
  by_cases c5 : D < 1
  · rw [if_pos c5, hj, if_pos (Or.inl rfl), if_neg (by unfold okDate; omega)]
  rw [if_neg c5, month_some Y M (by omega) (by omega) (by omega)]
  simp only [Option.bind_some]
  rw [hj]
  have hml := mlen_bd Y M
  by_cases hok : okDate Y M D h mi s
  · have hok' := hok
    unfold okDate at hok'
    rw [if_pos hok, if_neg (fun x => x.elim (fun z => by simp at z; omega) (by omega))]
    rw [day_some k Y M D h mi s (by omega) (by omega) (by omega) (by omega)]
    simp only [Option.bind_some]
    have hdb := days_bd Y (by omega) (by omega)
    have hcb := mcum_bd Y (M.toNat - 1)
    rw [w64 (h * 3600) (by unfold inI64; omega), w64 (mi * 60) (by unfold inI64; omega), w64 (_ * 86400) (by unfold inI64; omega), w64 (_ + h * 3600) (by unfold inI64; omega), w64 (_ + mi * 60) (by unfold inI64; omega), w64 (_ + s) (by unfold inI64; omega)]
    rw [show (days Y + mcum Y (M.toNat - 1) + D - 1) * 86400 + h * 3600 + mi * 60 + s = (days Y + D - 1 + mcum Y (M.toNat - 1)) * 86400 + (3600 * h + 60 * mi + s) by omega]
  · rw [if_neg hok, if_pos]
    unfold okDate at hok
    by_cases x : D > mlen Y M
    · exact Or.inl (by simp; omega)
    · exact Or.inr (by omega)
end Go.Proofs.Ytnnhplakmagbbaa.LA
