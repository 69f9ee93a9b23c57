/- The plain law of TimesUnix: the program's seconds and the document's are the same, with no condition on the numbers. -/
import Derived.Test.YtnnhplakmagbbaaHYx1
import Derived.Test.YtnnhplakmagbbaaLb
namespace Go.Proofs.Ytnnhplakmagbbaa.Pure
open Go.RowKit Go.Proofs.Ytnnhplakmagbbaa.HY Go.Proofs.YtnnhplakmagbbaaW.PrintWords Go.Proofs.YtnnhplakmagbbaaW.PrintLast
open Go.Proofs.Ytnnhplakmagbbaa.HA Go.Proofs.Ytnnhplakmagbbaa.HB Go.Proofs.Ytnnhplakmagbbaa.LA Go.Proofs.Ytnnhplakmagbbaa.HX

theorem in64 {a : Int} (h : (Lit.int .i64 a).wf = true) : inI64 a := by
  have : -9223372036854775808 ≤ a ∧ a ≤ 9223372036854775807 := by simpa [Lit.wf, IntKind.min, IntKind.max, IntKind.signed, IntKind.bits] using h
  exact this
theorem unix_same (a : Int) : times_FromUnix.f a = wainloadref15_FromUnix.f a := by
  unfold times_FromUnix.f wainloadref15_FromUnix.f
  by_cases c : a > 9223372036
  · rw [if_pos c, if_neg (by omega), if_pos c]
  · rw [if_neg c]
    by_cases d : a < -9223372036
    · rw [if_pos d, if_pos d]
    · rw [if_neg d, if_neg d, if_neg c]
theorem unix_some (a : Int) : ∃ x b, wainloadref15_FromUnix.f a = some (x, b) := by
  unfold wainloadref15_FromUnix.f
  split
  · exact ⟨_, _, rfl⟩
  · split <;> exact ⟨_, _, rfl⟩
theorem TimesUnix : wainloadlaw15_TimesUnix.Pure := by
  intro a0 a1 w0 w1
  obtain ⟨x, b, h⟩ := unix_some a0
  unfold wainloadlaw15_TimesUnix.f wainloadlaw15_alive.f times_ToUnix.f wainloadref15_ToUnix.f
  rw [unix_same, h, floored_some a1 _ (in64 w1) (by omega) (by omega), down_some a1 _ (in64 w1) (by omega) (by omega)]
  simp
end Go.Proofs.Ytnnhplakmagbbaa.Pure
