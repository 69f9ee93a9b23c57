/- The machine's side of times.FromDate: what a call comes to. -/
import Derived.Test.YtnnhplakmagbbaaHb
import Derived.Outline
import Derived.Deep.DeepCutAuto
import Derived.Deep.QuietTactic
import Derived.BigQuiet
namespace Go.Proofs.Ytnnhplakmagbbaa.HB
open Go.RowKit Go.Proofs.YtnnhplakmagbbaaW.PrintWords Go.Proofs.YtnnhplakmagbbaaW.PrintLast Go.Proofs.YtnnhplakmagbbaaW.PrintMore
open Go.Proofs.Ytnnhplakmagbbaa.HA
set_option linter.unusedVariables false
set_option linter.unusedSimpArgs false

theorem in_yes (n a b : Int) (h : a ≤ n ∧ n ≤ b) : times_in.f n a b = some true := by
  unfold times_in.f; rw [if_pos h.1]; simp [h.2]
theorem in_no (n a b : Int) (h : ¬ (a ≤ n ∧ n ≤ b)) : times_in.f n a b = some false := by
  unfold times_in.f
  by_cases c : n ≥ a
  · rw [if_pos c]; have : ¬ n ≤ b := fun d => h ⟨c, d⟩
    simp [this]
  · rw [if_neg c]

set_option maxHeartbeats 4000000 in
set_option maxRecDepth 100000 in
theorem fromDate_bad0 (Y M D h mi s : Int) (w : World)  (c0 : ¬ (1700 ≤ Y ∧ Y ≤ 2250)) :
    Calls Try.prog 11 #[.agg #[.int .i64 Y, .int .i64 M, .int .i64 D, .int .i64 h, .int .i64 mi, .int .i64 s]] w fun e w' => e = .returned (.tuple #[.int .i64 0, .bool false]) ∧ Below w.heap.size w w' := by
  have h0 := Aside0.mk (in_no _ _ _ c0)
  clear c0
  go_enter Try.func11, Try.ntmps11
  go_wp2_with (go_at_call 30; first
      | ((with_reducible refine (times_in.calls _ _ _ _ _ h0.out).mono ?_); rintro e w' ⟨rfl, ⟨nd, rfl⟩⟩))
  go_ret2
  exact ⟨rfl, by repeat (first | exact Below.refl _ _ | apply below_alloc | apply pw_below_drewN)⟩

set_option maxHeartbeats 4000000 in
set_option maxRecDepth 100000 in
theorem fromDate_bad1 (Y M D h mi s : Int) (w : World) (c0 : 1700 ≤ Y ∧ Y ≤ 2250) (c1 : ¬ (1 ≤ M ∧ M ≤ 12)) :
    Calls Try.prog 11 #[.agg #[.int .i64 Y, .int .i64 M, .int .i64 D, .int .i64 h, .int .i64 mi, .int .i64 s]] w fun e w' => e = .returned (.tuple #[.int .i64 0, .bool false]) ∧ Below w.heap.size w w' := by
  have h0 := Aside0.mk (in_yes _ _ _ c0)
  have h1 := Aside0.mk (in_no _ _ _ c1)
  clear c0 c1
  go_enter Try.func11, Try.ntmps11
  go_wp2_with (go_at_call 30; first
      | ((with_reducible refine (times_in.calls _ _ _ _ _ h0.out).mono ?_); rintro e w' ⟨rfl, ⟨nd, rfl⟩⟩)
      | ((with_reducible refine (times_in.calls _ _ _ _ _ h1.out).mono ?_); rintro e w' ⟨rfl, ⟨nd, rfl⟩⟩))
  go_ret2
  exact ⟨rfl, by repeat (first | exact Below.refl _ _ | apply below_alloc | apply pw_below_drewN)⟩

set_option maxHeartbeats 4000000 in
set_option maxRecDepth 100000 in
theorem fromDate_bad2 (Y M D h mi s : Int) (w : World) (c0 : 1700 ≤ Y ∧ Y ≤ 2250) (c1 : 1 ≤ M ∧ M ≤ 12) (c2 : ¬ (0 ≤ h ∧ h ≤ 23)) :
    Calls Try.prog 11 #[.agg #[.int .i64 Y, .int .i64 M, .int .i64 D, .int .i64 h, .int .i64 mi, .int .i64 s]] w fun e w' => e = .returned (.tuple #[.int .i64 0, .bool false]) ∧ Below w.heap.size w w' := by
  have h0 := Aside0.mk (in_yes _ _ _ c0)
  have h1 := Aside0.mk (in_yes _ _ _ c1)
  have h2 := Aside0.mk (in_no _ _ _ c2)
  clear c0 c1 c2
  go_enter Try.func11, Try.ntmps11
  go_wp2_with (go_at_call 30; first
      | ((with_reducible refine (times_in.calls _ _ _ _ _ h0.out).mono ?_); rintro e w' ⟨rfl, ⟨nd, rfl⟩⟩)
      | ((with_reducible refine (times_in.calls _ _ _ _ _ h1.out).mono ?_); rintro e w' ⟨rfl, ⟨nd, rfl⟩⟩)
      | ((with_reducible refine (times_in.calls _ _ _ _ _ h2.out).mono ?_); rintro e w' ⟨rfl, ⟨nd, rfl⟩⟩))
  go_ret2
  exact ⟨rfl, by repeat (first | exact Below.refl _ _ | apply below_alloc | apply pw_below_drewN)⟩

set_option maxHeartbeats 4000000 in
set_option maxRecDepth 100000 in
theorem fromDate_bad3 (Y M D h mi s : Int) (w : World) (c0 : 1700 ≤ Y ∧ Y ≤ 2250) (c1 : 1 ≤ M ∧ M ≤ 12) (c2 : 0 ≤ h ∧ h ≤ 23) (c3 : ¬ (0 ≤ mi ∧ mi ≤ 59)) :
    Calls Try.prog 11 #[.agg #[.int .i64 Y, .int .i64 M, .int .i64 D, .int .i64 h, .int .i64 mi, .int .i64 s]] w fun e w' => e = .returned (.tuple #[.int .i64 0, .bool false]) ∧ Below w.heap.size w w' := by
  have h0 := Aside0.mk (in_yes _ _ _ c0)
  have h1 := Aside0.mk (in_yes _ _ _ c1)
  have h2 := Aside0.mk (in_yes _ _ _ c2)
  have h3 := Aside0.mk (in_no _ _ _ c3)
  clear c0 c1 c2 c3
  go_enter Try.func11, Try.ntmps11
  go_wp2_with (go_at_call 30; first
      | ((with_reducible refine (times_in.calls _ _ _ _ _ h0.out).mono ?_); rintro e w' ⟨rfl, ⟨nd, rfl⟩⟩)
      | ((with_reducible refine (times_in.calls _ _ _ _ _ h1.out).mono ?_); rintro e w' ⟨rfl, ⟨nd, rfl⟩⟩)
      | ((with_reducible refine (times_in.calls _ _ _ _ _ h2.out).mono ?_); rintro e w' ⟨rfl, ⟨nd, rfl⟩⟩)
      | ((with_reducible refine (times_in.calls _ _ _ _ _ h3.out).mono ?_); rintro e w' ⟨rfl, ⟨nd, rfl⟩⟩))
  go_ret2
  exact ⟨rfl, by repeat (first | exact Below.refl _ _ | apply below_alloc | apply pw_below_drewN)⟩

set_option maxHeartbeats 4000000 in
set_option maxRecDepth 100000 in
theorem fromDate_bad4 (Y M D h mi s : Int) (w : World) (c0 : 1700 ≤ Y ∧ Y ≤ 2250) (c1 : 1 ≤ M ∧ M ≤ 12) (c2 : 0 ≤ h ∧ h ≤ 23) (c3 : 0 ≤ mi ∧ mi ≤ 59) (c4 : ¬ (0 ≤ s ∧ s ≤ 59)) :
    Calls Try.prog 11 #[.agg #[.int .i64 Y, .int .i64 M, .int .i64 D, .int .i64 h, .int .i64 mi, .int .i64 s]] w fun e w' => e = .returned (.tuple #[.int .i64 0, .bool false]) ∧ Below w.heap.size w w' := by
  have h0 := Aside0.mk (in_yes _ _ _ c0)
  have h1 := Aside0.mk (in_yes _ _ _ c1)
  have h2 := Aside0.mk (in_yes _ _ _ c2)
  have h3 := Aside0.mk (in_yes _ _ _ c3)
  have h4 := Aside0.mk (in_no _ _ _ c4)
  clear c0 c1 c2 c3 c4
  go_enter Try.func11, Try.ntmps11
  go_wp2_with (go_at_call 30; first
      | ((with_reducible refine (times_in.calls _ _ _ _ _ h0.out).mono ?_); rintro e w' ⟨rfl, ⟨nd, rfl⟩⟩)
      | ((with_reducible refine (times_in.calls _ _ _ _ _ h1.out).mono ?_); rintro e w' ⟨rfl, ⟨nd, rfl⟩⟩)
      | ((with_reducible refine (times_in.calls _ _ _ _ _ h2.out).mono ?_); rintro e w' ⟨rfl, ⟨nd, rfl⟩⟩)
      | ((with_reducible refine (times_in.calls _ _ _ _ _ h3.out).mono ?_); rintro e w' ⟨rfl, ⟨nd, rfl⟩⟩)
      | ((with_reducible refine (times_in.calls _ _ _ _ _ h4.out).mono ?_); rintro e w' ⟨rfl, ⟨nd, rfl⟩⟩))
  go_ret2
  exact ⟨rfl, by repeat (first | exact Below.refl _ _ | apply below_alloc | apply pw_below_drewN)⟩

theorem Calls.quiet_drawn {P : Program} {f : FuncId} {args : Array Value} {w : World} {n : Nat} {v : Value} (h : Calls P f args (w.drewN n) fun e w' => e = .returned v ∧ Drawn0 (w.drewN n) w') : Calls P f args (w.drewN n) fun e w'' => e = .returned v ∧ ∃ m, w'' = w.drewN m :=
  h.mono fun _ _ ⟨he, ⟨m, hm⟩⟩ => ⟨he, n + m, by rw [hm, World.drewN_drewN]⟩

theorem quiet_add_left {P : Program} {f : FuncId} {args : Array Value} {w : World} {a n : Nat} {v : Value}
    (h : Calls P f args (w.drewN (a + n)) fun e w' => e = .returned v ∧ w.drewN (a + n) = w') :
    Calls P f args (w.drewN (a + n)) fun e w'' => e = .returned v ∧ ∃ m, w'' = w.drewN (a + m) :=
  h.mono fun _ _ ⟨he, hm⟩ => ⟨he, n, hm.symm⟩
theorem days_bd (y : Int) (h0 : 1 ≤ y) (h1 : y ≤ 9000) : -4000000 ≤ days y ∧ days y ≤ 4000000 := by
  have := leaps_bd (y - 1) (by omega) (by omega)
  unfold days; omega

theorem slice_months (g : Nat) (m : Int) (h0 : 0 ≤ m) (h1 : m ≤ 12) (W : World) :
    (Instr.sliceAt 38 (.pointer (some ⟨g, 0, none⟩)) none (some (.int .i64 m)) none).run Try.prog W = .ok (.slice (some ⟨g, 0, none⟩) m.toNat 12) W := by
  have ht : Try.prog.underlying 38 = some (.array (Try.prog.arrayLen 38) (Try.prog.elem 38)) := by kernel_rfl
  have hal : Try.prog.arrayLen 38 = 12 := by kernel_rfl
  have hs : (sizeOf (Try.prog.elem 38)).run Try.prog W = .ok 1 W := by kernel_rfl
  rw [run_sliceAt_array_h W 38 _ ht .i64 m h0 (by rw [hal]; omega), hs, hal]
  simp [slicedAt, Addr.add]

def mlen (y m : Int) : Int := if m = 2 then feb y else if m = 4 ∨ m = 6 ∨ m = 9 ∨ m = 11 then 30 else 31
/-- The days of the first k months of a year. -/
def mcum (y : Int) : Nat → Int
  | 0 => 0
  | k + 1 => mcum y k + mlen y (k + 1)
theorem monthRow_at (y : Int) (k : Nat) (hk : k < 12) : (monthRow y)[k]? = some (.int .i64 (mlen y (k + 1))) := by
  have : k = 0 ∨ k = 1 ∨ k = 2 ∨ k = 3 ∨ k = 4 ∨ k = 5 ∨ k = 6 ∨ k = 7 ∨ k = 8 ∨ k = 9 ∨ k = 10 ∨ k = 11 := by omega
  unfold monthRow mlen
  rcases this with rfl | rfl | rfl | rfl | rfl | rfl | rfl | rfl | rfl | rfl | rfl | rfl <;> rfl
theorem mlen_bd (y m : Int) : 28 ≤ mlen y m ∧ mlen y m ≤ 31 := by unfold mlen feb; split <;> (try split) <;> omega
theorem mcum_bd (y : Int) (k : Nat) : 28 * (k : Int) ≤ mcum y k ∧ mcum y k ≤ 31 * (k : Int) := by
  induction k with
  | zero => simp [mcum]
  | succ k ih => have := mlen_bd y (k + 1); simp only [mcum]; omega

set_option maxHeartbeats 4000000 in
set_option maxRecDepth 100000 in
theorem fromDate_noday (Y M D h mi s : Int) (w : World) (cd : ¬ (1 ≤ D ∧ D ≤ mlen Y M)) (c0 : 1700 ≤ Y ∧ Y ≤ 2250) (c1 : 1 ≤ M ∧ M ≤ 12) (c2 : 0 ≤ h ∧ h ≤ 23) (c3 : 0 ≤ mi ∧ mi ≤ 59) (c4 : 0 ≤ s ∧ s ≤ 59) :
    Calls Try.prog 11 #[.agg #[.int .i64 Y, .int .i64 M, .int .i64 D, .int .i64 h, .int .i64 mi, .int .i64 s]] w fun e w' => e = .returned (.tuple #[.int .i64 0, .bool false]) ∧ Below w.heap.size w w' := by
  have h0 := Aside0.mk (in_yes _ _ _ c0)
  have h1 := Aside0.mk (in_yes _ _ _ c1)
  have h2 := Aside0.mk (in_yes _ _ _ c2)
  have h3 := Aside0.mk (in_yes _ _ _ c3)
  have h4 := Aside0.mk (in_yes _ _ _ c4)
  have h5 := Aside0.mk (in_no _ _ _ cd)
  clear cd
  have hY := Aside0.mk (show 0 ≤ Y by omega)
  have hM := Aside0.mk c1
  have hYY := Aside0.mk c0
  clear c0 c2 c3 c4
  go_enter Try.func11, Try.ntmps11
  go_upto_region 3 with (go_at_call 30; first
      | ((with_reducible refine (times_in.calls _ _ _ _ _ h0.out).mono ?_); rintro e w' ⟨rfl, ⟨nd, rfl⟩⟩)
      | ((with_reducible refine (times_in.calls _ _ _ _ _ h1.out).mono ?_); rintro e w' ⟨rfl, ⟨nd, rfl⟩⟩)
      | ((with_reducible refine (times_in.calls _ _ _ _ _ h2.out).mono ?_); rintro e w' ⟨rfl, ⟨nd, rfl⟩⟩)
      | ((with_reducible refine (times_in.calls _ _ _ _ _ h3.out).mono ?_); rintro e w' ⟨rfl, ⟨nd, rfl⟩⟩)
      | ((with_reducible refine (times_in.calls _ _ _ _ _ h4.out).mono ?_); rintro e w' ⟨rfl, ⟨nd, rfl⟩⟩))
  go_cut [4] (fun v4 wr => ∃ g : Nat, v4 = .pointer (some ⟨g, 0, none⟩) ∧ wr.heap[g]? = some (.cells (monthRow Y) 38 (0, 0)) ∧ wr.heap[w.heap.size]? = some (.cells #[.int .i64 Y, .int .i64 M, .int .i64 D, .int .i64 h, .int .i64 mi, .int .i64 s] 23 (0, 0)) ∧ g ≠ w.heap.size ∧ Below w.heap.size w wr)
  case first =>
    go_wp2_with (go_at_call 31; (with_reducible refine (months_calls _ _ hY.out).mono ?_); rintro e w1 ⟨rfl, hb⟩; have BK := Aside0.mk (blk_below (g := w.heap.size) (o := .cells #[.int .i64 Y, .int .i64 M, .int .i64 D, .int .i64 h, .int .i64 mi, .int .i64 s] 23 (0, 0)) (by (with_reducible repeat (first | refine blk_drewN ?_ _ | refine blk_drew ?_)); exact blk_new _ _) hb); have HB := Aside0.mk (below_step (w := w) (by repeat (first | exact Below.refl _ _ | apply below_alloc | apply pw_below_drewN)) hb); clear hb)
    go_meet
    exact ⟨_, rfl, blk_new _ _, blk_alloc BK.out _, (by have := blk_lt BK.out; omega), below_alloc HB.out _⟩
  case rest =>
    obtain ⟨g, rfl, hg, hbx, hne, hB⟩ := hcut
    have e0 : wc.cell? ⟨w.heap.size, 0, none⟩ = some (.int .i64 Y) := (blk_cell hbx 0).trans rfl
    have e1 : wc.cell? ⟨w.heap.size, 1, none⟩ = some (.int .i64 M) := (blk_cell hbx 1).trans rfl
    have e2 : wc.cell? ⟨w.heap.size, 2, none⟩ = some (.int .i64 D) := (blk_cell hbx 2).trans rfl
    have e3 : wc.cell? ⟨w.heap.size, 3, none⟩ = some (.int .i64 h) := (blk_cell hbx 3).trans rfl
    have e4 : wc.cell? ⟨w.heap.size, 4, none⟩ = some (.int .i64 mi) := (blk_cell hbx 4).trans rfl
    have e5 : wc.cell? ⟨w.heap.size, 5, none⟩ = some (.int .i64 s) := (blk_cell hbx 5).trans rfl
    obtain ⟨hM0, hM1⟩ := hM.out
    have em : wc.cell? ⟨g, M.toNat - 1, none⟩ = some (.int .i64 (mlen Y M)) := (blk_cell hg _).trans ((monthRow_at Y _ (by omega)).trans (by rw [show ((M.toNat - 1 : Nat) : Int) + 1 = M by omega]))
    have hs1 : IntKind.i64.wrap (M - 1) = M - 1 := IntWalk.i64_in _ (by omega)
    have hs2 : (0 : Int) ≤ M - 1 := by omega
    have hs3 : M - 1 < 12 := by omega
    have HG := Aside0.mk hg
    have HB := Aside0.mk hB
    clear hg hB hbx hM
    go_wp2_with fail
    go_quiet ((go_at_call 30; exact Calls.quiet_drawn (times_in.calls _ _ _ _ _ h5.out)))
    go_wp2
    go_ret2
    exact ⟨rfl, pw_below_drewN HB.out _⟩
set_option maxHeartbeats 4000000 in
set_option maxRecDepth 100000 in
theorem fromDate_good (Y M D h mi s : Int) (w : World) (cd : 1 ≤ D ∧ D ≤ mlen Y M) (c0 : 1700 ≤ Y ∧ Y ≤ 2250) (c1 : 1 ≤ M ∧ M ≤ 12) (c2 : 0 ≤ h ∧ h ≤ 23) (c3 : 0 ≤ mi ∧ mi ≤ 59) (c4 : 0 ≤ s ∧ s ≤ 59) :
    Calls Try.prog 11 #[.agg #[.int .i64 Y, .int .i64 M, .int .i64 D, .int .i64 h, .int .i64 mi, .int .i64 s]] w fun e w' => e = .returned (.tuple #[.int .i64 (wrap64 (((days Y + D - 1 + mcum Y (M.toNat - 1)) * 86400 + (3600 * h + 60 * mi + s)) * 1000000000)), .bool true]) ∧ Below w.heap.size w w' := by
  have h0 := Aside0.mk (in_yes _ _ _ c0)
  have h1 := Aside0.mk (in_yes _ _ _ c1)
  have h2 := Aside0.mk (in_yes _ _ _ c2)
  have h3 := Aside0.mk (in_yes _ _ _ c3)
  have h4 := Aside0.mk (in_yes _ _ _ c4)
  have h5 := Aside0.mk (in_yes _ _ _ cd)
  have hD := Aside0.mk (show 1 ≤ D ∧ D ≤ 31 by have := mlen_bd Y M; omega)
  clear cd
  have hH := Aside0.mk c2
  have hI := Aside0.mk c3
  have hS := Aside0.mk c4
  have hY := Aside0.mk (show 0 ≤ Y by omega)
  have hM := Aside0.mk c1
  have hYY := Aside0.mk c0
  clear c0 c2 c3 c4
  go_enter Try.func11, Try.ntmps11
  go_upto_region 3 with (go_at_call 30; first
      | ((with_reducible refine (times_in.calls _ _ _ _ _ h0.out).mono ?_); rintro e w' ⟨rfl, ⟨nd, rfl⟩⟩)
      | ((with_reducible refine (times_in.calls _ _ _ _ _ h1.out).mono ?_); rintro e w' ⟨rfl, ⟨nd, rfl⟩⟩)
      | ((with_reducible refine (times_in.calls _ _ _ _ _ h2.out).mono ?_); rintro e w' ⟨rfl, ⟨nd, rfl⟩⟩)
      | ((with_reducible refine (times_in.calls _ _ _ _ _ h3.out).mono ?_); rintro e w' ⟨rfl, ⟨nd, rfl⟩⟩)
      | ((with_reducible refine (times_in.calls _ _ _ _ _ h4.out).mono ?_); rintro e w' ⟨rfl, ⟨nd, rfl⟩⟩))
  go_cut [4] (fun v4 wr => ∃ g : Nat, v4 = .pointer (some ⟨g, 0, none⟩) ∧ wr.heap[g]? = some (.cells (monthRow Y) 38 (0, 0)) ∧ wr.heap[w.heap.size]? = some (.cells #[.int .i64 Y, .int .i64 M, .int .i64 D, .int .i64 h, .int .i64 mi, .int .i64 s] 23 (0, 0)) ∧ g ≠ w.heap.size ∧ Below w.heap.size w wr)
  case first =>
    go_wp2_with (go_at_call 31; (with_reducible refine (months_calls _ _ hY.out).mono ?_); rintro e w1 ⟨rfl, hb⟩; have BK := Aside0.mk (blk_below (g := w.heap.size) (o := .cells #[.int .i64 Y, .int .i64 M, .int .i64 D, .int .i64 h, .int .i64 mi, .int .i64 s] 23 (0, 0)) (by (with_reducible repeat (first | refine blk_drewN ?_ _ | refine blk_drew ?_)); exact blk_new _ _) hb); have HB := Aside0.mk (below_step (w := w) (by repeat (first | exact Below.refl _ _ | apply below_alloc | apply pw_below_drewN)) hb); clear hb)
    go_meet
    exact ⟨_, rfl, blk_new _ _, blk_alloc BK.out _, (by have := blk_lt BK.out; omega), below_alloc HB.out _⟩
  case rest =>
    obtain ⟨g, rfl, hg, hbx, hne, hB⟩ := hcut
    have e0 : wc.cell? ⟨w.heap.size, 0, none⟩ = some (.int .i64 Y) := (blk_cell hbx 0).trans rfl
    have e1 : wc.cell? ⟨w.heap.size, 1, none⟩ = some (.int .i64 M) := (blk_cell hbx 1).trans rfl
    have e2 : wc.cell? ⟨w.heap.size, 2, none⟩ = some (.int .i64 D) := (blk_cell hbx 2).trans rfl
    have e3 : wc.cell? ⟨w.heap.size, 3, none⟩ = some (.int .i64 h) := (blk_cell hbx 3).trans rfl
    have e4 : wc.cell? ⟨w.heap.size, 4, none⟩ = some (.int .i64 mi) := (blk_cell hbx 4).trans rfl
    have e5 : wc.cell? ⟨w.heap.size, 5, none⟩ = some (.int .i64 s) := (blk_cell hbx 5).trans rfl
    obtain ⟨hM0, hM1⟩ := hM.out
    have em : wc.cell? ⟨g, M.toNat - 1, none⟩ = some (.int .i64 (mlen Y M)) := (blk_cell hg _).trans ((monthRow_at Y _ (by omega)).trans (by rw [show ((M.toNat - 1 : Nat) : Int) + 1 = M by omega]))
    have hs1 : IntKind.i64.wrap (M - 1) = M - 1 := IntWalk.i64_in _ (by omega)
    have hs2 : (0 : Int) ≤ M - 1 := by omega
    have hs3 : M - 1 < 12 := by omega
    have HG := Aside0.mk hg
    have HB := Aside0.mk hB
    clear hg hB hbx hM
    go_wp2_with fail
    go_quiet ((go_at_call 30; exact Calls.quiet_drawn (times_in.calls _ _ _ _ _ h5.out)))
    go_wp2_with fail
    have hdb := days_bd Y (by have := hYY.out; omega) (by have := hYY.out; omega)
    obtain ⟨hD0, hD1⟩ := hD.out
    have hs4 : IntKind.i64.wrap (days Y + D) = days Y + D := IntWalk.i64_in _ (by omega)
    have hs5 : IntKind.i64.wrap (days Y + D - 1) = days Y + D - 1 := IntWalk.i64_in _ (by omega)
    go_quiet ((go_at_call 32; exact quiet_add_left (days_calls _ _ (by have := hYY.out; omega) (by have := hYY.out; omega))))
    clear hs4 hs5
    obtain ⟨hh0, hh1⟩ := hH.out
    obtain ⟨hi0, hi1⟩ := hI.out
    obtain ⟨hss0, hss1⟩ := hS.out
    have hsm := slice_months g (M - 1) (by omega) (by omega)
    go_wp2_with fail
    go_loop [5, 7, 60] (fun n v7 i => ∃ k : Nat, k ≤ M.toNat - 1 ∧ i = .int .i64 k ∧ n = .int .i64 (days Y + D - 1 + mcum Y k)) (fun _ _ i => M.toNat - 1 - (intOf i).toNat)
    case atStart => exact ⟨0, Nat.zero_le _, rfl, by simp [mcum]⟩
    case round =>
      obtain ⟨k, hk, rfl, rfl⟩ := hrel
      have hmb := mcum_bd Y k
      have hsucc : mcum Y (k + 1) = mcum Y k + mlen Y (k + 1) := rfl
      have hmb2 := mlen_bd Y (k + 1)
      by_cases hlt : k < M.toNat - 1
      · have hck : wc.cell? ⟨g, k, none⟩ = some (.int .i64 (mlen Y (k + 1))) := (blk_cell HG.out _).trans (monthRow_at Y _ (by omega))
        have HS := Aside0.mk hsucc
        clear hsucc em
        go_wp2
        go_round
        case rel => exact ⟨k + 1, by omega, by go_num, by rw [HS.out]; go_num⟩
        case measure => simp [intOf]; omega
      · have hk2 : k = M.toNat - 1 := by omega
        have HK := Aside0.mk hk2
        clear hk2 hsucc em
        go_wp2
        go_ret2
        rw [← HK.out]
        exact ⟨rfl, pw_below_drewN HB.out _⟩
end Go.Proofs.Ytnnhplakmagbbaa.HB
