/- The plain law of TimesDays: the date in which a time lies is the document's; no condition on the number. -/
import Derived.Test.YtnnhplakmagbbaaHYdx2
import Derived.Test.YtnnhplakmagbbaaLc
namespace Go.Proofs.Ytnnhplakmagbbaa.Pure
open Go.RowKit Go.Proofs.Ytnnhplakmagbbaa.HYd Go.Proofs.YtnnhplakmagbbaaW.PrintWords Go.Proofs.YtnnhplakmagbbaaW.PrintLast
open Go.Proofs.Ytnnhplakmagbbaa.HA Go.Proofs.Ytnnhplakmagbbaa.HB Go.Proofs.Ytnnhplakmagbbaa.LA Go.Proofs.Ytnnhplakmagbbaa.HX

theorem TimesDays : wainloadlaw15_TimesDays.Pure := by
  intro a0 w0
  refine ⟨4000, ?_⟩
  unfold wainloadlaw15_TimesDays.f wainloadlaw15_alive.f
  rw [toDate_same 4000 a0 (by omega) (in64 w0)]
  unfold times_ToDate.f
  rw [if_pos (in64 w0)]
  simp
end Go.Proofs.Ytnnhplakmagbbaa.Pure
