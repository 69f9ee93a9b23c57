/- wainloadlaw15.alive: a call returns true. -/
import Derived.Test.YtnnhplakmagbbaaHXx
namespace Go.Proofs.Ytnnhplakmagbbaa.HB
open Go.RowKit Go.Proofs.YtnnhplakmagbbaaW.PrintWords Go.Proofs.YtnnhplakmagbbaaW.PrintLast Go.Proofs.YtnnhplakmagbbaaW.PrintMore
open Go.Proofs.Ytnnhplakmagbbaa.HA Go.Proofs.Ytnnhplakmagbbaa.HX
set_option linter.unusedVariables false
set_option linter.unusedSimpArgs false

theorem alive1 : times_FromDate.f 2000 3 1 0 0 0 = some (951868800000000000, true) := by decide +kernel
theorem alive2 : times_ToDos.f 951868800000000000 = some (10337, 0, true) := by decide +kernel
theorem alive3 : times_FromNt.f 116444736000000000 = some (0, true) := by decide +kernel
theorem alive4 : times_ToDate.f (-1) = some (1969, 12, 31, 23, 59, 59) := by decide +kernel
def wainloadlaw15_alive.f : Option Bool := some true
theorem date_year (a b c d e f : Int) (W : World) : (Instr.field 23 (.agg #[.int .i64 a, .int .i64 b, .int .i64 c, .int .i64 d, .int .i64 e, .int .i64 f]) 0).run Try.prog W = .ok (.int .i64 a) W := by kernel_rfl
set_option maxHeartbeats 4000000 in
set_option maxRecDepth 100000 in
theorem alive_true (w : World) : Calls Try.prog 13 #[] w fun e w' => e = .returned (.bool true) ∧ Below w.heap.size w w' := by
  have hfd := date_year
  have HB := Aside0.mk (Below.refl w.heap.size w)
  go_enter Try.func13, Try.ntmps13
  go_wp2_with (first
    | (go_at_call 11; (with_reducible refine (times_FromDate.calls _ _ _ _ _ _ _ _ _ alive1).mono ?_); rintro e w1 ⟨rfl, hb⟩; have n1 := Aside0.mk (below_step HB.out hb); clear hb HB)
    | (go_at_call 24; (with_reducible refine (times_ToDos.calls _ _ _ _ _ alive2).mono ?_); rintro e w2 ⟨rfl, hb⟩; have n2 := Aside0.mk (below_step n1.out hb); clear hb n1)
    | (go_at_call 16; (with_reducible refine (times_FromNt.calls _ _ _ _ alive3).mono ?_); rintro e w' ⟨rfl, ⟨nd, rfl⟩⟩)
    | (go_at_call 14; (with_reducible refine (times_ToDate.calls _ _ _ _ _ _ _ _ alive4).mono ?_); rintro e w4 ⟨rfl, hb⟩; have n4 := Aside0.mk (below_step (pw_below_drewN n2.out _) hb); clear hb))
  go_ret
  exact ⟨rfl, n4.out⟩
theorem wainloadlaw15_alive.calls (r : Bool) (w : World) (h : wainloadlaw15_alive.f = some r) : Calls Try.prog 13 #[] w fun e w' => e = .returned (.bool r) ∧ Below w.heap.size w w' := by
  obtain rfl := Option.some.inj h
  exact alive_true w
end Go.Proofs.Ytnnhplakmagbbaa.HB
