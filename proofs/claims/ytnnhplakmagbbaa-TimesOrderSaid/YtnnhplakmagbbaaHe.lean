/- times.FromDate and times.ToDate as plain functions, and that a call of each comes to them. -/
import Derived.Test.YtnnhplakmagbbaaHd
namespace Go.Proofs.Ytnnhplakmagbbaa.HB
open Go.RowKit Go.Proofs.YtnnhplakmagbbaaW.PrintWords Go.Proofs.YtnnhplakmagbbaaW.PrintLast Go.Proofs.YtnnhplakmagbbaaW.PrintMore
open Go.Proofs.Ytnnhplakmagbbaa.HA
set_option linter.unusedVariables false
set_option linter.unusedSimpArgs false

def okDate (Y M D h mi s : Int) : Prop := ((1700 ≤ Y ∧ Y ≤ 2250) ∧ (1 ≤ M ∧ M ≤ 12) ∧ (0 ≤ h ∧ h ≤ 23) ∧ (0 ≤ mi ∧ mi ≤ 59) ∧ (0 ≤ s ∧ s ≤ 59)) ∧ (1 ≤ D ∧ D ≤ mlen Y M)
instance (Y M D h mi s : Int) : Decidable (okDate Y M D h mi s) := by unfold okDate; infer_instance
def times_FromDate.f (Y M D h mi s : Int) : Option (Int × Bool) :=
  if okDate Y M D h mi s then some (wrap64 (((days Y + D - 1 + mcum Y (M.toNat - 1)) * 86400 + (3600 * h + 60 * mi + s)) * 1000000000), true) else some (0, false)

theorem times_FromDate.calls (Y M D h mi s : Int) (r1 : Int) (r2 : Bool) (w : World) (hf : times_FromDate.f Y M D h mi s = some (r1, r2)) :
    Calls Try.prog 11 #[.agg #[.int .i64 Y, .int .i64 M, .int .i64 D, .int .i64 h, .int .i64 mi, .int .i64 s]] w fun e w' => e = .returned (.tuple #[.int .i64 r1, .bool r2]) ∧ Below w.heap.size w w' := by
  unfold times_FromDate.f at hf
  by_cases hok : okDate Y M D h mi s
  · rw [if_pos hok] at hf
    simp only [Option.some.injEq, Prod.mk.injEq] at hf
    obtain ⟨rfl, rfl⟩ := hf
    obtain ⟨⟨c0, c1, c2, c3, c4⟩, cd⟩ := hok
    exact fromDate_good Y M D h mi s w cd c0 c1 c2 c3 c4
  · rw [if_neg hok] at hf
    simp only [Option.some.injEq, Prod.mk.injEq] at hf
    obtain ⟨rfl, rfl⟩ := hf
    by_cases c0 : 1700 ≤ Y ∧ Y ≤ 2250
    · by_cases c1 : 1 ≤ M ∧ M ≤ 12
      · by_cases c2 : 0 ≤ h ∧ h ≤ 23
        · by_cases c3 : 0 ≤ mi ∧ mi ≤ 59
          · by_cases c4 : 0 ≤ s ∧ s ≤ 59
            · exact fromDate_noday Y M D h mi s w (fun cd => hok ⟨⟨c0, c1, c2, c3, c4⟩, cd⟩) c0 c1 c2 c3 c4
            · exact fromDate_bad4 Y M D h mi s w c0 c1 c2 c3 c4
          · exact fromDate_bad3 Y M D h mi s w c0 c1 c2 c3
        · exact fromDate_bad2 Y M D h mi s w c0 c1 c2
      · exact fromDate_bad1 Y M D h mi s w c0 c1
    · exact fromDate_bad0 Y M D h mi s w c0

/-- The year in which a day lies. -/
def yearOf (n : Int) : Int :=
  let y := n * 400 / 146097 + 1970
  if days (y + 1) ≤ n then y + 1 else if n < days y then y - 1 else y
theorem yearOf_ok (n : Int) : days (yearOf n) ≤ n ∧ n < days (yearOf n + 1) := by
  have h1 : days (n * 400 / 146097 + 1970 - 1) ≤ n := by unfold days leaps; omega
  have h2 : n < days (n * 400 / 146097 + 1970 + 1 + 1) := by unfold days leaps; omega
  unfold yearOf
  simp only
  split
  · exact ⟨by assumption, h2⟩
  · split
    · refine ⟨h1, ?_⟩
      rw [show n * 400 / 146097 + 1970 - 1 + 1 = n * 400 / 146097 + 1970 by omega]
      assumption
    · omega
/-- The month, counted from 0, in which a day of a year lies. -/
def monthOf (y d : Int) : Nat :=
  if d < mcum y 1 then 0 else if d < mcum y 2 then 1 else if d < mcum y 3 then 2 else if d < mcum y 4 then 3 else if d < mcum y 5 then 4 else if d < mcum y 6 then 5
  else if d < mcum y 7 then 6 else if d < mcum y 8 then 7 else if d < mcum y 9 then 8 else if d < mcum y 10 then 9 else if d < mcum y 11 then 10 else 11
theorem monthOf_ok (y d : Int) (h0 : 0 ≤ d) (h1 : d < mcum y 12) : monthOf y d < 12 ∧ mcum y (monthOf y d) ≤ d ∧ d < mcum y (monthOf y d + 1) := by
  have z : mcum y 0 = 0 := rfl
  unfold monthOf
  repeat' split
  all_goals (refine ⟨by omega, ?_, ?_⟩ <;> first | assumption | omega)
theorem mcum_year (y : Int) : mcum y 12 = days (y + 1) - days y := by
  have : mcum y 12 = 337 + feb y := by simp [mcum, mlen]; omega
  rw [this]
  unfold feb isLong days leaps
  by_cases a : y % 4 = 0 <;> by_cases b : y % 100 = 0 <;> by_cases c : y % 400 = 0 <;> simp [a, b, c] <;> omega

def inI64 (t : Int) : Prop := -9223372036854775808 ≤ t ∧ t ≤ 9223372036854775807
instance (t : Int) : Decidable (inI64 t) := by unfold inI64; infer_instance
def dayOf (t : Int) : Int := t / 1000000000 / 86400
def times_ToDate.f (t : Int) : Option (Int × Int × Int × Int × Int × Int) :=
  if inI64 t then
    some (yearOf (dayOf t), monthOf (yearOf (dayOf t)) (dayOf t - days (yearOf (dayOf t))) + 1, dayOf t - days (yearOf (dayOf t)) - mcum (yearOf (dayOf t)) (monthOf (yearOf (dayOf t)) (dayOf t - days (yearOf (dayOf t)))) + 1,
      (t / 1000000000 - dayOf t * 86400) / 3600, (t / 1000000000 - dayOf t * 86400) / 60 % 60, (t / 1000000000 - dayOf t * 86400) % 60)
  else none
theorem times_ToDate.calls (a0 : Int) (r1 r2 r3 r4 r5 r6 : Int) (w : World) (h : times_ToDate.f a0 = some (r1, r2, r3, r4, r5, r6)) :
    Calls Try.prog 14 #[.int .i64 a0] w fun e w' => e = .returned (.agg #[.int .i64 r1, .int .i64 r2, .int .i64 r3, .int .i64 r4, .int .i64 r5, .int .i64 r6]) ∧ Below w.heap.size w w' := by
  unfold times_ToDate.f at h
  by_cases hi : inI64 a0
  · rw [if_pos hi] at h
    simp only [Option.some.injEq, Prod.mk.injEq] at h
    obtain ⟨rfl, rfl, rfl, rfl, rfl, rfl⟩ := h
    have hi' : -9223372036854775808 ≤ a0 ∧ a0 ≤ 9223372036854775807 := hi
    have hy := yearOf_ok (dayOf a0)
    have hm := monthOf_ok (yearOf (dayOf a0)) (dayOf a0 - days (yearOf (dayOf a0))) (by omega) (by rw [mcum_year]; omega)
    have hs : -9300000000 ≤ a0 / 1000000000 ∧ a0 / 1000000000 ≤ 9300000000 := by omega
    have hn : -106800 ≤ dayOf a0 ∧ dayOf a0 ≤ 106800 := by unfold dayOf; omega
    have hr : 0 ≤ a0 / 1000000000 - dayOf a0 * 86400 ∧ a0 / 1000000000 - dayOf a0 * 86400 < 86400 := by unfold dayOf; omega
    exact toDate_walk a0 (a0 / 1000000000) (dayOf a0) (yearOf (dayOf a0)) (monthOf (yearOf (dayOf a0)) (dayOf a0 - days (yearOf (dayOf a0)))) w hi'
      (floored_some a0 1000000000 hi' (by omega) (by omega)) (floored_some _ 86400 (by omega) (by omega) (by omega)) hs hn hr hy.1 hy.2 hm.1 hm.2.1 hm.2.2
  · rw [if_neg hi] at h
    cases h
end Go.Proofs.Ytnnhplakmagbbaa.HB
