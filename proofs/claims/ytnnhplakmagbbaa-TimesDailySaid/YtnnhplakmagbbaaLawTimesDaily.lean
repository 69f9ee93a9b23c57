/- The row of the law TimesDaily: for every time the call returns true, and the argument reads behind the call as it read before; no condition. -/
import Derived.Test.YtnnhplakmagbbaaRows
import Derived.Test.YtnnhplakmagbbaaHg
import Derived.Test.YtnnhplakmagbbaaLc
import Derived.WalkKit
import Derived.ProofKit
import Derived.OpenShut
import Derived.ShutString
import Derived.ChangeOld
import Derived.Below
import Derived.SizedLaws
namespace Go.Proofs.Ytnnhplakmagbbaa.timesDaily
open Go.ChangeShapes Go.WideShapes Go.ChangeAt Go.RowKit
open Go.Proofs.YtnnhplakmagbbaaW.PrintWords Go.Proofs.YtnnhplakmagbbaaW.PrintLast Go.Proofs.YtnnhplakmagbbaaW.PrintMore
open Go.Proofs.Ytnnhplakmagbbaa.HA Go.Proofs.Ytnnhplakmagbbaa.HB Go.Proofs.Ytnnhplakmagbbaa.LA Go.Proofs.Ytnnhplakmagbbaa.HX
set_option linter.unusedVariables false
set_option linter.unusedSimpArgs false

theorem walk_late (t : Int) (w : World) (ht : 9000000000000000000 < t) : Calls Try.prog 5 #[.int .i64 t] w fun e w' => e = .returned (.bool true) ∧ Below w.heap.size w w' := by
  go_enter Try.func5, Try.ntmps5
  go_wp2_with (go_at_call 13; (with_reducible refine (alive_true _).mono ?_); rintro e w1 ⟨rfl, hb⟩; have n1 := Aside0.mk hb; clear hb)
  go_ret
  exact ⟨rfl, n1.out⟩

set_option maxHeartbeats 4000000 in
set_option maxRecDepth 100000 in
theorem walk_a (t Y M D h mi s : Int) (w : World) (ht : t ≤ 9000000000000000000) (ht0 : -9223372036854775808 ≤ t) (hM : 1 ≤ M ∧ M ≤ 12) (hD : 1 ≤ D ∧ D ≤ 31) (hY : 0 ≤ Y ∧ Y ≤ 10000)
    (h1 : times_ToDate.f t = some (Y, M, D, h, mi, s)) (h2 : times_ToDate.f (t + 86400000000000) = some (Y, M, (D + 1), h, mi, s)) :
    Calls Try.prog 5 #[.int .i64 t] w fun e w' => e = .returned (.bool true) ∧ Below w.heap.size w w' := by
  have A1 := Aside0.mk h1
  have A2 := Aside0.mk h2
  clear h1 h2
  obtain ⟨hD1, hD2⟩ := hD
  obtain ⟨hY1, hY2⟩ := hY
  obtain ⟨hM1, hM2⟩ := hM
  go_enter Try.func5, Try.ntmps5
  go_wp2_with (first
    | (go_at_call 14; first
        | ((with_reducible refine (times_ToDate.calls _ _ _ _ _ _ _ _ A1.out).mono ?_); rintro e w1 ⟨rfl, hb⟩; have n1 := Aside0.mk hb; clear hb)
        | ((with_reducible refine (times_ToDate.calls _ _ _ _ _ _ _ _ A2.out).mono ?_); rintro e w2 ⟨rfl, hb⟩; have n2 := Aside0.mk (below_step n1.out hb); clear hb n1))
    | (go_at_call 13; (with_reducible refine (alive_true _).mono ?_); rintro e w3 ⟨rfl, hb⟩; have b1 := Aside0.mk (blk_below (g := w2.heap.size) (o := .cells #[.int .i64 Y, .int .i64 M, .int .i64 D, .int .i64 h, .int .i64 mi, .int .i64 s] 23 (0, 0)) (blk_alloc (blk_new _ _) _) hb); have b2 := Aside0.mk (blk_below (g := w2.heap.size + 1) (o := .cells #[.int .i64 Y, .int .i64 M, .int .i64 (D + 1), .int .i64 h, .int .i64 mi, .int .i64 s] 23 (0, 0)) (blk_new_at _ _ _ (by simp)) hb); have n3 := Aside0.mk (below_step (w := w) (below_alloc (below_alloc n2.out _) _) hb); clear hb; have p0 : w3.cell? ⟨w2.heap.size, 0, none⟩ = some (.int .i64 Y) := (blk_cell b1.out 0).trans rfl; have q0 : w3.cell? ⟨w2.heap.size + 1, 0, none⟩ = some (.int .i64 Y) := (blk_cell b2.out 0).trans rfl; have p1 : w3.cell? ⟨w2.heap.size, 1, none⟩ = some (.int .i64 M) := (blk_cell b1.out 1).trans rfl; have q1 : w3.cell? ⟨w2.heap.size + 1, 1, none⟩ = some (.int .i64 M) := (blk_cell b2.out 1).trans rfl; have p2 : w3.cell? ⟨w2.heap.size, 2, none⟩ = some (.int .i64 D) := (blk_cell b1.out 2).trans rfl; have q2 : w3.cell? ⟨w2.heap.size + 1, 2, none⟩ = some (.int .i64 (D + 1)) := (blk_cell b2.out 2).trans rfl; have p3 : w3.cell? ⟨w2.heap.size, 3, none⟩ = some (.int .i64 h) := (blk_cell b1.out 3).trans rfl; have q3 : w3.cell? ⟨w2.heap.size + 1, 3, none⟩ = some (.int .i64 h) := (blk_cell b2.out 3).trans rfl; have p4 : w3.cell? ⟨w2.heap.size, 4, none⟩ = some (.int .i64 mi) := (blk_cell b1.out 4).trans rfl; have q4 : w3.cell? ⟨w2.heap.size + 1, 4, none⟩ = some (.int .i64 mi) := (blk_cell b2.out 4).trans rfl; have p5 : w3.cell? ⟨w2.heap.size, 5, none⟩ = some (.int .i64 s) := (blk_cell b1.out 5).trans rfl; have q5 : w3.cell? ⟨w2.heap.size + 1, 5, none⟩ = some (.int .i64 s) := (blk_cell b2.out 5).trans rfl))
  go_ret
  exact ⟨rfl, n3.out⟩

set_option maxHeartbeats 4000000 in
set_option maxRecDepth 100000 in
theorem walk_b (t Y M D h mi s : Int) (w : World) (ht : t ≤ 9000000000000000000) (ht0 : -9223372036854775808 ≤ t) (hM : 1 ≤ M ∧ M ≤ 12) (hD : 1 ≤ D ∧ D ≤ 31) (hD28 : 28 ≤ D) (hY : 0 ≤ Y ∧ Y ≤ 10000)
    (h1 : times_ToDate.f t = some (Y, M, D, h, mi, s)) (h2 : times_ToDate.f (t + 86400000000000) = some (Y, (M + 1), 1, h, mi, s)) :
    Calls Try.prog 5 #[.int .i64 t] w fun e w' => e = .returned (.bool true) ∧ Below w.heap.size w w' := by
  have A1 := Aside0.mk h1
  have A2 := Aside0.mk h2
  clear h1 h2
  obtain ⟨hD1, hD2⟩ := hD
  obtain ⟨hY1, hY2⟩ := hY
  obtain ⟨hM1, hM2⟩ := hM
  go_enter Try.func5, Try.ntmps5
  go_wp2_with (first
    | (go_at_call 14; first
        | ((with_reducible refine (times_ToDate.calls _ _ _ _ _ _ _ _ A1.out).mono ?_); rintro e w1 ⟨rfl, hb⟩; have n1 := Aside0.mk hb; clear hb)
        | ((with_reducible refine (times_ToDate.calls _ _ _ _ _ _ _ _ A2.out).mono ?_); rintro e w2 ⟨rfl, hb⟩; have n2 := Aside0.mk (below_step n1.out hb); clear hb n1))
    | (go_at_call 13; (with_reducible refine (alive_true _).mono ?_); rintro e w3 ⟨rfl, hb⟩; have b1 := Aside0.mk (blk_below (g := w2.heap.size) (o := .cells #[.int .i64 Y, .int .i64 M, .int .i64 D, .int .i64 h, .int .i64 mi, .int .i64 s] 23 (0, 0)) (blk_alloc (blk_new _ _) _) hb); have b2 := Aside0.mk (blk_below (g := w2.heap.size + 1) (o := .cells #[.int .i64 Y, .int .i64 (M + 1), .int .i64 1, .int .i64 h, .int .i64 mi, .int .i64 s] 23 (0, 0)) (blk_new_at _ _ _ (by simp)) hb); have n3 := Aside0.mk (below_step (w := w) (below_alloc (below_alloc n2.out _) _) hb); clear hb; have p0 : w3.cell? ⟨w2.heap.size, 0, none⟩ = some (.int .i64 Y) := (blk_cell b1.out 0).trans rfl; have q0 : w3.cell? ⟨w2.heap.size + 1, 0, none⟩ = some (.int .i64 Y) := (blk_cell b2.out 0).trans rfl; have p1 : w3.cell? ⟨w2.heap.size, 1, none⟩ = some (.int .i64 M) := (blk_cell b1.out 1).trans rfl; have q1 : w3.cell? ⟨w2.heap.size + 1, 1, none⟩ = some (.int .i64 (M + 1)) := (blk_cell b2.out 1).trans rfl; have p2 : w3.cell? ⟨w2.heap.size, 2, none⟩ = some (.int .i64 D) := (blk_cell b1.out 2).trans rfl; have q2 : w3.cell? ⟨w2.heap.size + 1, 2, none⟩ = some (.int .i64 1) := (blk_cell b2.out 2).trans rfl; have p3 : w3.cell? ⟨w2.heap.size, 3, none⟩ = some (.int .i64 h) := (blk_cell b1.out 3).trans rfl; have q3 : w3.cell? ⟨w2.heap.size + 1, 3, none⟩ = some (.int .i64 h) := (blk_cell b2.out 3).trans rfl; have p4 : w3.cell? ⟨w2.heap.size, 4, none⟩ = some (.int .i64 mi) := (blk_cell b1.out 4).trans rfl; have q4 : w3.cell? ⟨w2.heap.size + 1, 4, none⟩ = some (.int .i64 mi) := (blk_cell b2.out 4).trans rfl; have p5 : w3.cell? ⟨w2.heap.size, 5, none⟩ = some (.int .i64 s) := (blk_cell b1.out 5).trans rfl; have q5 : w3.cell? ⟨w2.heap.size + 1, 5, none⟩ = some (.int .i64 s) := (blk_cell b2.out 5).trans rfl))
  go_ret
  exact ⟨rfl, n3.out⟩

set_option maxHeartbeats 4000000 in
set_option maxRecDepth 100000 in
theorem walk_c (t Y D h mi s : Int) (w : World) (ht : t ≤ 9000000000000000000) (ht0 : -9223372036854775808 ≤ t) (hD : 1 ≤ D ∧ D ≤ 31) (hD28 : 28 ≤ D) (hY : 0 ≤ Y ∧ Y ≤ 10000)
    (h1 : times_ToDate.f t = some (Y, 12, D, h, mi, s)) (h2 : times_ToDate.f (t + 86400000000000) = some ((Y + 1), 1, 1, h, mi, s)) :
    Calls Try.prog 5 #[.int .i64 t] w fun e w' => e = .returned (.bool true) ∧ Below w.heap.size w w' := by
  have A1 := Aside0.mk h1
  have A2 := Aside0.mk h2
  clear h1 h2
  obtain ⟨hD1, hD2⟩ := hD
  obtain ⟨hY1, hY2⟩ := hY
  go_enter Try.func5, Try.ntmps5
  go_wp2_with (first
    | (go_at_call 14; first
        | ((with_reducible refine (times_ToDate.calls _ _ _ _ _ _ _ _ A1.out).mono ?_); rintro e w1 ⟨rfl, hb⟩; have n1 := Aside0.mk hb; clear hb)
        | ((with_reducible refine (times_ToDate.calls _ _ _ _ _ _ _ _ A2.out).mono ?_); rintro e w2 ⟨rfl, hb⟩; have n2 := Aside0.mk (below_step n1.out hb); clear hb n1))
    | (go_at_call 13; (with_reducible refine (alive_true _).mono ?_); rintro e w3 ⟨rfl, hb⟩; have b1 := Aside0.mk (blk_below (g := w2.heap.size) (o := .cells #[.int .i64 Y, .int .i64 12, .int .i64 D, .int .i64 h, .int .i64 mi, .int .i64 s] 23 (0, 0)) (blk_alloc (blk_new _ _) _) hb); have b2 := Aside0.mk (blk_below (g := w2.heap.size + 1) (o := .cells #[.int .i64 (Y + 1), .int .i64 1, .int .i64 1, .int .i64 h, .int .i64 mi, .int .i64 s] 23 (0, 0)) (blk_new_at _ _ _ (by simp)) hb); have n3 := Aside0.mk (below_step (w := w) (below_alloc (below_alloc n2.out _) _) hb); clear hb; have p0 : w3.cell? ⟨w2.heap.size, 0, none⟩ = some (.int .i64 Y) := (blk_cell b1.out 0).trans rfl; have q0 : w3.cell? ⟨w2.heap.size + 1, 0, none⟩ = some (.int .i64 (Y + 1)) := (blk_cell b2.out 0).trans rfl; have p1 : w3.cell? ⟨w2.heap.size, 1, none⟩ = some (.int .i64 12) := (blk_cell b1.out 1).trans rfl; have q1 : w3.cell? ⟨w2.heap.size + 1, 1, none⟩ = some (.int .i64 1) := (blk_cell b2.out 1).trans rfl; have p2 : w3.cell? ⟨w2.heap.size, 2, none⟩ = some (.int .i64 D) := (blk_cell b1.out 2).trans rfl; have q2 : w3.cell? ⟨w2.heap.size + 1, 2, none⟩ = some (.int .i64 1) := (blk_cell b2.out 2).trans rfl; have p3 : w3.cell? ⟨w2.heap.size, 3, none⟩ = some (.int .i64 h) := (blk_cell b1.out 3).trans rfl; have q3 : w3.cell? ⟨w2.heap.size + 1, 3, none⟩ = some (.int .i64 h) := (blk_cell b2.out 3).trans rfl; have p4 : w3.cell? ⟨w2.heap.size, 4, none⟩ = some (.int .i64 mi) := (blk_cell b1.out 4).trans rfl; have q4 : w3.cell? ⟨w2.heap.size + 1, 4, none⟩ = some (.int .i64 mi) := (blk_cell b2.out 4).trans rfl; have p5 : w3.cell? ⟨w2.heap.size, 5, none⟩ = some (.int .i64 s) := (blk_cell b1.out 5).trans rfl; have q5 : w3.cell? ⟨w2.heap.size + 1, 5, none⟩ = some (.int .i64 s) := (blk_cell b2.out 5).trans rfl))
  go_ret
  exact ⟨rfl, n3.out⟩

theorem date_of (t y : Int) (k : Nat) (ht : inI64 t) (h0 : days y ≤ dayOf t) (h1 : dayOf t < days (y + 1)) (hk : k < 12) (k0 : mcum y k ≤ dayOf t - days y) (k1 : dayOf t - days y < mcum y (k + 1)) :
    times_ToDate.f t = some (y, (k : Int) + 1, dayOf t - days y - mcum y k + 1, (t / 1000000000 - dayOf t * 86400) / 3600, (t / 1000000000 - dayOf t * 86400) / 60 % 60, (t / 1000000000 - dayOf t * 86400) % 60) := by
  have hy := year_unique (dayOf t) y h0 h1
  have hmy := mcum_year y
  have hm := month_unique y (dayOf t - days y) k (by omega) (by omega) k0 k1
  unfold times_ToDate.f
  rw [if_pos ht, ← hy, ← hm]
theorem law (t : Int) (w : World) (ht : inI64 t) : Calls Try.prog 5 #[.int .i64 t] w fun e w' => e = .returned (.bool true) ∧ Below w.heap.size w w' := by
  have ht' : -9223372036854775808 ≤ t ∧ t ≤ 9223372036854775807 := ht
  by_cases late : 9000000000000000000 < t
  · exact walk_late t w late
  have hn : -106800 ≤ dayOf t ∧ dayOf t ≤ 106800 := by unfold dayOf; omega
  have hy := yearOf_ok (dayOf t)
  have hm := monthOf_ok (yearOf (dayOf t)) (dayOf t - days (yearOf (dayOf t))) (by omega) (by rw [mcum_year]; omega)
  have hyb := days_year _ _ hn hy.1 hy.2
  have hn1 : dayOf (t + 86400000000000) = dayOf t + 1 := by unfold dayOf; omega
  have hs1 : (t + 86400000000000) / 1000000000 - dayOf (t + 86400000000000) * 86400 = t / 1000000000 - dayOf t * 86400 := by rw [hn1]; omega
  have hi1 : inI64 (t + 86400000000000) := by unfold inI64; omega
  generalize hyy : yearOf (dayOf t) = y at *
  generalize hkk : monthOf y (dayOf t - days y) = k at *
  have e1 := date_of t y k ht hy.1 hy.2 hm.1 hm.2.1 hm.2.2
  have hml := mlen_bd y (k + 1)
  have hms : mcum y (k + 1) = mcum y k + mlen y (k + 1) := rfl
  have hmy := mcum_year y
  have hk12 := mcum_mono y (k + 1) 12 (by omega)
  by_cases a : dayOf t - days y + 1 < mcum y (k + 1)
  · have e2 := date_of (t + 86400000000000) y k hi1 (by omega) (by omega) hm.1 (by omega) (by omega)
    rw [hs1, hn1, show dayOf t + 1 - days y - mcum y k + 1 = dayOf t - days y - mcum y k + 1 + 1 by omega] at e2
    exact walk_a t y (k + 1) (dayOf t - days y - mcum y k + 1) _ _ _ w (by omega) (by omega) (by omega) (by omega) (by omega) e1 e2
  · by_cases b : k + 1 < 12
    · have hms2 : mcum y (k + 1 + 1) = mcum y (k + 1) + mlen y ((k + 1 : Nat) + 1) := rfl
      have hml2 := mlen_bd y ((k + 1 : Nat) + 1)
      have hk122 := mcum_mono y (k + 1 + 1) 12 (by omega)
      have e2 := date_of (t + 86400000000000) y (k + 1) hi1 (by omega) (by omega) b (by omega) (by omega)
      rw [hs1, hn1, show dayOf t + 1 - days y - mcum y (k + 1) + 1 = 1 by omega, show (((k + 1 : Nat) : Int) + 1) = (k : Int) + 1 + 1 by omega] at e2
      exact walk_b t y (k + 1) (dayOf t - days y - mcum y k + 1) _ _ _ w (by omega) (by omega) (by omega) (by omega) (by omega) (by omega) e1 e2
    · have hk11 : k = 11 := by omega
      subst hk11
      have e12 : mcum y (11 + 1) = mcum y 12 := rfl
      have hly := days_lt (y + 1) (y + 1 + 1) (by omega)
      have hml3 := mlen_bd (y + 1) 1
      have hms3 : mcum (y + 1) (0 + 1) = mcum (y + 1) 0 + mlen (y + 1) ((0 : Nat) + 1) := rfl
      have z : mcum (y + 1) 0 = 0 := rfl
      have e2 := date_of (t + 86400000000000) (y + 1) 0 hi1 (by omega) (by omega) (by omega) (by omega) (by simp only [hms3, z]; simp; omega)
      rw [hs1, hn1, z, show dayOf t + 1 - days (y + 1) - 0 + 1 = 1 by omega] at e2
      exact walk_c t y (dayOf t - days y - mcum y 11 + 1) _ _ _ w (by omega) (by omega) (by omega) (by omega) (by omega) e1 e2

theorem own : ownKnob Try.prog.godebug = none := by kernel_rfl
set_option maxRecDepth 100000 in
theorem lifted (os : Os) (started : os.Started) (H : Type) (enc : TypeId × Value → H) :
    ReturnsInHanded {} Try.checked os 5 .any (Rows.timesDailySpec.pre6 enc Try.prog Try.f5 Rows.timesDailyRow.domain false) (Rows.timesDailySpec.post enc Try.prog Try.f5 false true false false) := by
  refine returnsInHanded_of_change_sized (C := Try.checked) own started (by kernel_rfl) Try.func5
    (ChangeSpec.witness6 (enc := enc) (C := Try.checked) false ⟨#[], #[.int .i64 0], []⟩ 8 (by kernel_rfl) (by kernel_rfl) (by kernel_rfl) (by kernel_rfl)) ?_
  intro W base args ds gs before hval0 hW hcnd hsz0 _
  have hval : ∀ (j : Nat) t v, Try.f5.params[j]? = some t → args[j]? = some v → Value.okWide Try.prog W .any base t v := hval0
  have hW' := hW
  obtain ⟨p, q, hA0, hV, rfl, hfz, hnd⟩ := hW
  have hA : DataW.TrodAll enc Try.prog W 0 (fun _ => true) true Try.f5.params.toList args.toList ds p := hA0
  rw [Try.params5] at hA hval
  obtain ⟨v0, vs0, d0, ds0, p0, q0, hargs, rfl, rfl, h0, r0⟩ := trodAll_cons hA
  obtain ⟨rfl, rfl, rfl⟩ := trodAll_nil r0
  obtain rfl : args = #[v0] := by cases args; simp_all
  obtain ⟨rfl, rfl⟩ := trodVars_none hV
  obtain ⟨a0, rfl, rfl, rfl, w0⟩ := open_int Try.underlying2 (hval 0 2 v0 rfl rfl) h0
  clear hA0 hval0 hsz0
  refine (law a0 W (in64 w0)).mono fun e W' ⟨he, bel⟩ => ?_
  subst he
  exact ⟨_, rfl, _, _, _, [], _, [], hW', trodAll_mk1 (shut_bool Try.underlying4 _), (trodAll_cons_mk (shut_int Try.underlying2 w0) trodAll_mk0), rfl, bel.frame _, fun h => by cases h⟩
theorem over : Rows.timesDailyRow.holds Try.pinned (OpenSpec.ofChange Rows.timesDailySpec) :=
  OpenClaim.holds_of_wide 5 Try.f5 rfl rfl rfl rfl rfl rfl rfl ⟨rfl, rfl, rfl, rfl, rfl⟩ rfl rfl rfl rfl rfl (by kernel_rfl) Try.func5 (by kernel_rfl)
    (of_decide_eq_true (by kernel_rfl)) (by unfold Func.isWrapper; first | (rw [if_pos (by decide +kernel)]; kernel_rfl) | (rw [if_neg (by decide +kernel)]; exact ⟨rfl, rfl⟩))
    (fun os started H enc _ => lifted os started H enc)
theorem proved : Rows.TimesDailySaid := over
#print axioms proved
end Go.Proofs.Ytnnhplakmagbbaa.timesDaily
namespace Go.Proofs.Ytnnhplakmagbbaa
/-- The row, under a short name, for the claim. -/
theorem timesDaily_holds : Rows.TimesDailySaid := timesDaily.proved
end Go.Proofs.Ytnnhplakmagbbaa
