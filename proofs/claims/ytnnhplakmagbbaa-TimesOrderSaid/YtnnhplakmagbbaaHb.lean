/- The machine's side of times.days and times.months: what a call of each comes to. -/
import Derived.Test.YtnnhplakmagbbaaHAx
import Derived.Outline
namespace Go.Proofs.Ytnnhplakmagbbaa.HB
open Go.RowKit Go.Proofs.YtnnhplakmagbbaaW.PrintWords Go.Proofs.YtnnhplakmagbbaaW.PrintLast Go.Proofs.YtnnhplakmagbbaaW.PrintMore
open Go.Proofs.Ytnnhplakmagbbaa.HA
set_option linter.unusedVariables false
set_option linter.unusedSimpArgs false

def leaps (y : Int) : Int := y / 4 - y / 100 + y / 400
def days (y : Int) : Int := 365 * (y - 1970) + leaps (y - 1) - 477
def isLong (y : Int) : Bool := (y % 4 == 0 && y % 100 != 0) || y % 400 == 0

theorem leaps_calls (y : Int) (w : World) (h0 : 0 ≤ y) (h1 : y ≤ 10000) :
    Calls Try.prog 39 #[.int .i64 y] w fun e w' => e = .returned (.int .i64 (leaps y)) ∧ w = w' := by
  go_enter Try.func39, Try.ntmps39
  go_wp2
  go_ret
  refine ⟨?_, rfl⟩
  unfold leaps
  simp

theorem leaps_bd (y : Int) (h0 : 0 ≤ y) (h1 : y ≤ 10000) : 0 ≤ leaps y ∧ leaps y ≤ 10000 := by unfold leaps; omega

theorem days_calls (y : Int) (w : World) (h0 : 1 ≤ y) (h1 : y ≤ 9000) :
    Calls Try.prog 32 #[.int .i64 y] w fun e w' => e = .returned (.int .i64 (days y)) ∧ w = w' := by
  have hb := leaps_bd (y - 1) (by omega) (by omega)
  go_enter Try.func32, Try.ntmps32
  go_wp2_with (go_at_call 39; refine (leaps_calls _ _ (by omega) (by omega)).mono ?_; rintro e w' ⟨rfl, rfl⟩)
  go_ret
  refine ⟨?_, rfl⟩
  have : leaps 1969 = 477 := by decide
  unfold days
  rw [this]
  rw [show wrap64 (365 * (y - 1970) + leaps (y - 1) - 477) = 365 * (y - 1970) + leaps (y - 1) - 477 from by unfold wrap64; omega]
  rfl

theorem isLong_some (y : Int) (h0 : 0 ≤ y) : times_long.f y = some (isLong y) := by
  have e4 : Int.tmod y 4 = y % 4 := Int.tmod_eq_emod_of_nonneg h0
  have e100 : Int.tmod y 100 = y % 100 := Int.tmod_eq_emod_of_nonneg h0
  have e400 : Int.tmod y 400 = y % 400 := Int.tmod_eq_emod_of_nonneg h0
  unfold times_long.f isLong
  rw [e4, e100, e400]
  by_cases a : y % 4 = 0 <;> by_cases b : y % 100 = 0 <;> by_cases c : y % 400 = 0 <;> simp [a, b, c]

theorem put12 {w : World} {g : Nat} {t : TypeId} {a0 a1 a2 a3 a4 a5 a6 a7 a8 a9 a10 a11 z0 z1 z2 z3 z4 z5 z6 z7 z8 z9 z10 z11 : Value} (h : w.heap[g]? = some (.cells #[z0, z1, z2, z3, z4, z5, z6, z7, z8, z9, z10, z11] t (0, 0))) :
    ((((((((((((w.setCell ⟨g, 0, none⟩ a0).setCell ⟨g, 1, none⟩ a1).setCell ⟨g, 2, none⟩ a2).setCell ⟨g, 3, none⟩ a3).setCell ⟨g, 4, none⟩ a4).setCell ⟨g, 5, none⟩ a5).setCell ⟨g, 6, none⟩ a6).setCell ⟨g, 7, none⟩ a7).setCell ⟨g, 8, none⟩ a8).setCell ⟨g, 9, none⟩ a9).setCell ⟨g, 10, none⟩ a10).setCell ⟨g, 11, none⟩ a11).heap[g]? = some (.cells #[a0, a1, a2, a3, a4, a5, a6, a7, a8, a9, a10, a11] t (0, 0)) := by
  refine blk_put (cs := #[a0, a1, a2, a3, a4, a5, a6, a7, a8, a9, a10, z11]) ?_ 11 _ rfl
  refine blk_put (cs := #[a0, a1, a2, a3, a4, a5, a6, a7, a8, a9, z10, z11]) ?_ 10 _ rfl
  refine blk_put (cs := #[a0, a1, a2, a3, a4, a5, a6, a7, a8, z9, z10, z11]) ?_ 9 _ rfl
  refine blk_put (cs := #[a0, a1, a2, a3, a4, a5, a6, a7, z8, z9, z10, z11]) ?_ 8 _ rfl
  refine blk_put (cs := #[a0, a1, a2, a3, a4, a5, a6, z7, z8, z9, z10, z11]) ?_ 7 _ rfl
  refine blk_put (cs := #[a0, a1, a2, a3, a4, a5, z6, z7, z8, z9, z10, z11]) ?_ 6 _ rfl
  refine blk_put (cs := #[a0, a1, a2, a3, a4, z5, z6, z7, z8, z9, z10, z11]) ?_ 5 _ rfl
  refine blk_put (cs := #[a0, a1, a2, a3, z4, z5, z6, z7, z8, z9, z10, z11]) ?_ 4 _ rfl
  refine blk_put (cs := #[a0, a1, a2, z3, z4, z5, z6, z7, z8, z9, z10, z11]) ?_ 3 _ rfl
  refine blk_put (cs := #[a0, a1, z2, z3, z4, z5, z6, z7, z8, z9, z10, z11]) ?_ 2 _ rfl
  refine blk_put (cs := #[a0, z1, z2, z3, z4, z5, z6, z7, z8, z9, z10, z11]) ?_ 1 _ rfl
  refine blk_put (cs := #[z0, z1, z2, z3, z4, z5, z6, z7, z8, z9, z10, z11]) ?_ 0 _ rfl
  exact h
theorem below12 {w W : World} {g : Nat} {a0 a1 a2 a3 a4 a5 a6 a7 a8 a9 a10 a11 : Value} (h : Below w.heap.size w W) (hg : w.heap.size ≤ g) : Below w.heap.size w ((((((((((((W.setCell ⟨g, 0, none⟩ a0).setCell ⟨g, 1, none⟩ a1).setCell ⟨g, 2, none⟩ a2).setCell ⟨g, 3, none⟩ a3).setCell ⟨g, 4, none⟩ a4).setCell ⟨g, 5, none⟩ a5).setCell ⟨g, 6, none⟩ a6).setCell ⟨g, 7, none⟩ a7).setCell ⟨g, 8, none⟩ a8).setCell ⟨g, 9, none⟩ a9).setCell ⟨g, 10, none⟩ a10).setCell ⟨g, 11, none⟩ a11) := by
  repeat (refine below_set ?_ hg)
  exact h
def feb (y : Int) : Int := if isLong y then 29 else 28
def monthRow (y : Int) : Array Value := #[.int .i64 31, .int .i64 (feb y), .int .i64 31, .int .i64 30, .int .i64 31, .int .i64 30, .int .i64 31, .int .i64 31, .int .i64 30, .int .i64 31, .int .i64 30, .int .i64 31]
set_option maxHeartbeats 1000000 in
theorem months_calls (y : Int) (w : World) (h0 : 0 ≤ y) :
    Calls Try.prog 31 #[.int .i64 y] w fun e w' => e = .returned (.agg #[.int .i64 31, .int .i64 (feb y), .int .i64 31, .int .i64 30, .int .i64 31, .int .i64 30, .int .i64 31, .int .i64 31, .int .i64 30, .int .i64 31, .int .i64 30, .int .i64 31]) ∧ Below w.heap.size w w' := by
  have hs := isLong_some y h0
  unfold feb
  cases hl : isLong y
  · rw [hl] at hs
    clear hl
    rw [if_neg (by decide)]
    go_enter Try.func31, Try.ntmps31
    go_wp2_with (go_at_call 38; refine (times_long.calls y false _ hs).mono ?_; rintro e w' ⟨rfl, ⟨nd, rfl⟩⟩)
    refine bodyPost_ret (results_cell_row rfl _ _ w.heap.size 38 #[.int .i64 31, .int .i64 28, .int .i64 31, .int .i64 30, .int .i64 31, .int .i64 30, .int .i64 31, .int .i64 31, .int .i64 30, .int .i64 31, .int .i64 30, .int .i64 31] (0, 0) _ rfl (put12 (blk_drewN (blk_alloc (blk_new _ _) _) _)) Try.underlying38 rfl (by kernel_rfl)) rfl ?_
    exact ⟨rfl, below12 (pw_below_drewN (below_alloc (below_alloc (Below.refl _ _) _) _) _) (Nat.le_refl _)⟩
  · rw [hl] at hs
    clear hl
    rw [if_pos rfl]
    go_enter Try.func31, Try.ntmps31
    go_wp2_with (go_at_call 38; refine (times_long.calls y true _ hs).mono ?_; rintro e w' ⟨rfl, ⟨nd, rfl⟩⟩)
    refine bodyPost_ret (results_cell_row rfl _ _ w.heap.size 38 #[.int .i64 31, .int .i64 29, .int .i64 31, .int .i64 30, .int .i64 31, .int .i64 30, .int .i64 31, .int .i64 31, .int .i64 30, .int .i64 31, .int .i64 30, .int .i64 31] (0, 0) _ rfl (put12 (blk_far (blk_drewN (blk_alloc (blk_new _ _) _) _) (show w.heap.size ≠ w.heap.size + 1 by omega) _)) Try.underlying38 rfl (by kernel_rfl)) rfl ?_
    exact ⟨rfl, below12 (below_set (pw_below_drewN (below_alloc (below_alloc (Below.refl _ _) _) _) _) (Nat.le_succ _)) (Nat.le_refl _)⟩
end Go.Proofs.Ytnnhplakmagbbaa.HB
