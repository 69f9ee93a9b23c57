/- The plain law of TimesFloors: the program's Floor and the document's are the same, not after the time, and a multiple of the step; no condition on the numbers. -/
import Derived.Test.YtnnhplakmagbbaaHYx1
import Derived.Test.YtnnhplakmagbbaaLc
namespace Go.Proofs.Ytnnhplakmagbbaa.Pure
open Go.RowKit Go.Proofs.Ytnnhplakmagbbaa.HY Go.Proofs.YtnnhplakmagbbaaW.PrintWords Go.Proofs.YtnnhplakmagbbaaW.PrintLast
open Go.Proofs.Ytnnhplakmagbbaa.HA Go.Proofs.Ytnnhplakmagbbaa.HB Go.Proofs.Ytnnhplakmagbbaa.LA Go.Proofs.Ytnnhplakmagbbaa.HX

theorem TimesFloors : wainloadlaw15_TimesFloors.Pure := by
  intro a0 a1 w0 w1
  unfold wainloadlaw15_TimesFloors.f wainloadlaw15_alive.f
  rw [floor_some a0 a1 (in64 w0) (in64 w1), refFloor_some a0 a1 (in64 w0) (in64 w1)]
  simp only [Option.bind_some, if_true]
  unfold floorTo
  by_cases h : a1 < 1
  · simp [h]
  · have hd := Int.ediv_mul_add_emod a0 a1
    have hm0 := Int.emod_nonneg a0 (show a1 ≠ 0 by omega)
    rw [if_neg h]
    by_cases c : a0 / a1 * a1 < -9223372036854775808
    · rw [if_pos c, if_pos (Int.le_refl _), if_neg h, if_pos rfl]
    · rw [if_neg c, if_pos (by omega), if_neg h]
      by_cases e : a0 / a1 * a1 = a0
      · rw [if_pos e]
      · rw [if_neg e, if_neg (by omega)]
        simp
end Go.Proofs.Ytnnhplakmagbbaa.Pure
