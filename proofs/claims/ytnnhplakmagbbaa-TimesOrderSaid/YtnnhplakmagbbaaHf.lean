/- times.Floor as a plain function, and that a call of it comes to that. -/
import Derived.Test.YtnnhplakmagbbaaHe
namespace Go.Proofs.Ytnnhplakmagbbaa.HB
open Go.RowKit Go.Proofs.YtnnhplakmagbbaaW.PrintWords Go.Proofs.YtnnhplakmagbbaaW.PrintLast Go.Proofs.YtnnhplakmagbbaaW.PrintMore
open Go.Proofs.Ytnnhplakmagbbaa.HA
set_option linter.unusedVariables false
set_option linter.unusedSimpArgs false

def times_Floor.f (t st : Int) : Option Int :=
  if inI64 t ∧ inI64 st then (if st < 1 then some t else if t / st < wrap64 (-Int.tdiv 9223372036854775808 st) then some t else some (wrap64 (t / st * st))) else none
theorem floor_small (t st : Int) (w : World) (h : st < 1) : Calls Try.prog 29 #[.int .i64 t, .int .i64 st] w fun e w' => e = .returned (.int .i64 t) ∧ Drawn0 w w' := by
  go_enter Try.func29, Try.ntmps29
  go_wp2
  go_ret
  exact ⟨rfl, Drawn0.refl _⟩
theorem floor_low (t st q : Int) (w : World) (h : ¬ st < 1) (hq : Aside0 (times_floored.f t st = some q)) (hl : decide (q < wrap64 (-Int.tdiv 9223372036854775808 st)) = true) :
    Calls Try.prog 29 #[.int .i64 t, .int .i64 st] w fun e w' => e = .returned (.int .i64 t) ∧ Drawn0 w w' := by
  have hz : (st == 0) = false := by simp; omega
  go_enter Try.func29, Try.ntmps29
  go_wp2_with (go_at_call 35; (with_reducible refine (times_floored.calls _ _ _ _ hq.out).mono ?_); rintro e w' ⟨rfl, ⟨nd, rfl⟩⟩)
  go_ret
  exact ⟨rfl, (Drawn0.refl _).step _⟩
theorem floor_high (t st q : Int) (w : World) (h : ¬ st < 1) (hq : Aside0 (times_floored.f t st = some q)) (hl : decide (q < wrap64 (-Int.tdiv 9223372036854775808 st)) = false) :
    Calls Try.prog 29 #[.int .i64 t, .int .i64 st] w fun e w' => e = .returned (.int .i64 (wrap64 (q * st))) ∧ Drawn0 w w' := by
  have hz : (st == 0) = false := by simp; omega
  go_enter Try.func29, Try.ntmps29
  go_wp2_with (go_at_call 35; (with_reducible refine (times_floored.calls _ _ _ _ hq.out).mono ?_); rintro e w' ⟨rfl, ⟨nd, rfl⟩⟩)
  go_ret
  exact ⟨rfl, (Drawn0.refl _).step _⟩
theorem times_Floor.calls (a0 a1 r : Int) (w : World) (h : times_Floor.f a0 a1 = some r) :
    Calls Try.prog 29 #[.int .i64 a0, .int .i64 a1] w fun e w' => e = .returned (.int .i64 r) ∧ Drawn0 w w' := by
  unfold times_Floor.f at h
  by_cases hi : inI64 a0 ∧ inI64 a1
  · rw [if_pos hi] at h
    obtain ⟨hi0, hi1⟩ := hi
    by_cases h1 : a1 < 1
    · rw [if_pos h1] at h
      obtain rfl := Option.some.inj h
      exact floor_small a0 a1 w h1
    · rw [if_neg h1] at h
      have hq := Aside0.mk (floored_some a0 a1 hi0 (by omega) hi1.2)
      by_cases h2 : a0 / a1 < wrap64 (-Int.tdiv 9223372036854775808 a1)
      · rw [if_pos h2] at h
        obtain rfl := Option.some.inj h
        exact floor_low a0 a1 _ w h1 hq (decide_eq_true h2)
      · rw [if_neg h2] at h
        obtain rfl := Option.some.inj h
        exact floor_high a0 a1 _ w h1 hq (decide_eq_false h2)
  · rw [if_neg hi] at h
    cases h
end Go.Proofs.Ytnnhplakmagbbaa.HB
