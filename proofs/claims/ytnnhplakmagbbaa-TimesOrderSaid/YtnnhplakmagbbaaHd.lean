/- The machine's side of times.ToDate: what a call comes to. -/
import Derived.Test.YtnnhplakmagbbaaHc
namespace Go.Proofs.Ytnnhplakmagbbaa.HB
open Go.RowKit Go.Proofs.YtnnhplakmagbbaaW.PrintWords Go.Proofs.YtnnhplakmagbbaaW.PrintLast Go.Proofs.YtnnhplakmagbbaaW.PrintMore
open Go.Proofs.Ytnnhplakmagbbaa.HA
set_option linter.unusedVariables false
set_option linter.unusedSimpArgs false

theorem floored_some (t st : Int) (ht : -9223372036854775808 ≤ t ∧ t ≤ 9223372036854775807) (h1 : 1 ≤ st) (h2 : st ≤ 9223372036854775807) : times_floored.f t st = some (t / st) := by
  unfold times_floored.f
  rw [if_neg (by omega)]
  have hd : t / st * st + t % st = t := Int.ediv_mul_add_emod t st
  have hm0 := Int.emod_nonneg t (show st ≠ 0 by omega)
  have hm1 := Int.emod_lt_of_pos t (show 0 < st by omega)
  have bd : -9223372036854775808 ≤ t / st ∧ t / st ≤ 9223372036854775807 := by
    constructor
    · exact Int.le_ediv_of_mul_le (by omega) (by
        have : (-9223372036854775808 : Int) * st ≤ -9223372036854775808 := by omega
        omega)
    · by_cases h : 0 ≤ t
      · have := Int.ediv_le_self st h; omega
      · have := Int.ediv_nonpos_of_nonpos_of_neg (show t ≤ 0 by omega) (show 0 < st by omega); omega
  by_cases h : Int.tmod t st < 0
  · rw [if_pos h]
    have hn : t < 0 := by
      by_cases c : 0 ≤ t
      · have := Int.tmod_nonneg st c; omega
      · omega
    have e : Int.tdiv t st = t / st + 1 := by
      rw [Int.tdiv_eq_ediv]
      have nd : ¬ st ∣ t := by
        intro d
        have : Int.tmod t st = 0 := Int.tmod_eq_zero_of_dvd d
        omega
      rw [if_neg (by simp [nd]; omega)]
      have : Int.sign st = 1 := Int.sign_eq_one_of_pos (by omega)
      rw [this]
    rw [e]
    have hneg : t / st < 0 := Int.ediv_neg_of_neg_of_pos hn (by omega)
    have w1 : wrap64 (t / st + 1) = t / st + 1 := by unfold wrap64; omega
    rw [w1]
    have w2 : wrap64 (t / st + 1 - 1) = t / st := by unfold wrap64; omega
    rw [w2]
  · rw [if_neg h]
    have e : Int.tdiv t st = t / st := by
      by_cases c : 0 ≤ t
      · exact Int.tdiv_eq_ediv_of_nonneg c
      · rw [Int.tdiv_eq_ediv]
        have d : st ∣ t := by
          have h3 : Int.tmod t st ≤ 0 := by
            have := Int.tmod_nonneg st (show 0 ≤ -t by omega)
            rw [Int.neg_tmod] at this
            omega
          exact Int.dvd_of_tmod_eq_zero (by omega)
        rw [if_pos (Or.inr d)]; omega
    rw [e]
    have w1 : wrap64 (t / st) = t / st := by unfold wrap64; omega
    rw [w1]

theorem days_lt (a b : Int) (h : a < b) : days a < days b := by unfold days leaps; omega
theorem days_guess (n : Int) (h : 0 ≤ n) : days (1970 + n / 366) ≤ n := by unfold days leaps; omega
theorem days_guess' (q : Int) (h : 0 ≤ q) : days (1969 - q) ≤ -365 * q - 365 := by unfold days leaps; omega
theorem days_year (n y : Int) (hn : -106800 ≤ n ∧ n ≤ 106800) (h0 : days y ≤ n) (h1 : n < days (y + 1)) : 1600 ≤ y ∧ y ≤ 2300 := by
  unfold days leaps at *; omega
theorem guess_le (n y y0 : Int) (h : days y0 ≤ n) (h1 : n < days (y + 1)) : y0 ≤ y := by
  by_cases c : y0 ≤ y
  · exact c
  · by_cases e : y0 = y + 1
    · subst e; omega
    · have := days_lt (y + 1) y0 (by omega); omega
theorem month_ix_0 (y : Int) (W : World) : (Instr.index 38 (.agg #[.int .i64 31, .int .i64 (feb y), .int .i64 31, .int .i64 30, .int .i64 31, .int .i64 30, .int .i64 31, .int .i64 31, .int .i64 30, .int .i64 31, .int .i64 30, .int .i64 31]) (.int .i64 0)).run Try.prog W = .ok (.int .i64 31) W := by kernel_rfl
theorem month_ix_1 (y : Int) (W : World) : (Instr.index 38 (.agg #[.int .i64 31, .int .i64 (feb y), .int .i64 31, .int .i64 30, .int .i64 31, .int .i64 30, .int .i64 31, .int .i64 31, .int .i64 30, .int .i64 31, .int .i64 30, .int .i64 31]) (.int .i64 1)).run Try.prog W = .ok (.int .i64 (feb y)) W := by kernel_rfl
theorem month_ix_2 (y : Int) (W : World) : (Instr.index 38 (.agg #[.int .i64 31, .int .i64 (feb y), .int .i64 31, .int .i64 30, .int .i64 31, .int .i64 30, .int .i64 31, .int .i64 31, .int .i64 30, .int .i64 31, .int .i64 30, .int .i64 31]) (.int .i64 2)).run Try.prog W = .ok (.int .i64 31) W := by kernel_rfl
theorem month_ix_3 (y : Int) (W : World) : (Instr.index 38 (.agg #[.int .i64 31, .int .i64 (feb y), .int .i64 31, .int .i64 30, .int .i64 31, .int .i64 30, .int .i64 31, .int .i64 31, .int .i64 30, .int .i64 31, .int .i64 30, .int .i64 31]) (.int .i64 3)).run Try.prog W = .ok (.int .i64 30) W := by kernel_rfl
theorem month_ix_4 (y : Int) (W : World) : (Instr.index 38 (.agg #[.int .i64 31, .int .i64 (feb y), .int .i64 31, .int .i64 30, .int .i64 31, .int .i64 30, .int .i64 31, .int .i64 31, .int .i64 30, .int .i64 31, .int .i64 30, .int .i64 31]) (.int .i64 4)).run Try.prog W = .ok (.int .i64 31) W := by kernel_rfl
theorem month_ix_5 (y : Int) (W : World) : (Instr.index 38 (.agg #[.int .i64 31, .int .i64 (feb y), .int .i64 31, .int .i64 30, .int .i64 31, .int .i64 30, .int .i64 31, .int .i64 31, .int .i64 30, .int .i64 31, .int .i64 30, .int .i64 31]) (.int .i64 5)).run Try.prog W = .ok (.int .i64 30) W := by kernel_rfl
theorem month_ix_6 (y : Int) (W : World) : (Instr.index 38 (.agg #[.int .i64 31, .int .i64 (feb y), .int .i64 31, .int .i64 30, .int .i64 31, .int .i64 30, .int .i64 31, .int .i64 31, .int .i64 30, .int .i64 31, .int .i64 30, .int .i64 31]) (.int .i64 6)).run Try.prog W = .ok (.int .i64 31) W := by kernel_rfl
theorem month_ix_7 (y : Int) (W : World) : (Instr.index 38 (.agg #[.int .i64 31, .int .i64 (feb y), .int .i64 31, .int .i64 30, .int .i64 31, .int .i64 30, .int .i64 31, .int .i64 31, .int .i64 30, .int .i64 31, .int .i64 30, .int .i64 31]) (.int .i64 7)).run Try.prog W = .ok (.int .i64 31) W := by kernel_rfl
theorem month_ix_8 (y : Int) (W : World) : (Instr.index 38 (.agg #[.int .i64 31, .int .i64 (feb y), .int .i64 31, .int .i64 30, .int .i64 31, .int .i64 30, .int .i64 31, .int .i64 31, .int .i64 30, .int .i64 31, .int .i64 30, .int .i64 31]) (.int .i64 8)).run Try.prog W = .ok (.int .i64 30) W := by kernel_rfl
theorem month_ix_9 (y : Int) (W : World) : (Instr.index 38 (.agg #[.int .i64 31, .int .i64 (feb y), .int .i64 31, .int .i64 30, .int .i64 31, .int .i64 30, .int .i64 31, .int .i64 31, .int .i64 30, .int .i64 31, .int .i64 30, .int .i64 31]) (.int .i64 9)).run Try.prog W = .ok (.int .i64 31) W := by kernel_rfl
theorem month_ix_10 (y : Int) (W : World) : (Instr.index 38 (.agg #[.int .i64 31, .int .i64 (feb y), .int .i64 31, .int .i64 30, .int .i64 31, .int .i64 30, .int .i64 31, .int .i64 31, .int .i64 30, .int .i64 31, .int .i64 30, .int .i64 31]) (.int .i64 10)).run Try.prog W = .ok (.int .i64 30) W := by kernel_rfl
theorem month_ix_11 (y : Int) (W : World) : (Instr.index 38 (.agg #[.int .i64 31, .int .i64 (feb y), .int .i64 31, .int .i64 30, .int .i64 31, .int .i64 30, .int .i64 31, .int .i64 31, .int .i64 30, .int .i64 31, .int .i64 30, .int .i64 31]) (.int .i64 11)).run Try.prog W = .ok (.int .i64 31) W := by kernel_rfl
theorem month_index (y : Int) (k : Nat) (hk : k < 12) (W : World) : (Instr.index 38 (.agg #[.int .i64 31, .int .i64 (feb y), .int .i64 31, .int .i64 30, .int .i64 31, .int .i64 30, .int .i64 31, .int .i64 31, .int .i64 30, .int .i64 31, .int .i64 30, .int .i64 31]) (.int .i64 k)).run Try.prog W = .ok (.int .i64 (mlen y (k + 1))) W := by
  have : k = 0 ∨ k = 1 ∨ k = 2 ∨ k = 3 ∨ k = 4 ∨ k = 5 ∨ k = 6 ∨ k = 7 ∨ k = 8 ∨ k = 9 ∨ k = 10 ∨ k = 11 := by omega
  rcases this with rfl | rfl | rfl | rfl | rfl | rfl | rfl | rfl | rfl | rfl | rfl | rfl
  · exact month_ix_0 y W
  · exact month_ix_1 y W
  · exact month_ix_2 y W
  · exact month_ix_3 y W
  · exact month_ix_4 y W
  · exact month_ix_5 y W
  · exact month_ix_6 y W
  · exact month_ix_7 y W
  · exact month_ix_8 y W
  · exact month_ix_9 y W
  · exact month_ix_10 y W
  · exact month_ix_11 y W

theorem neg_year (n : Int) (h : n < 0) (hb : -106800 ≤ n) : wrap64 (wrap64 (1970 + n.tdiv 365) - 1) = 1969 - (-n) / 365 := by
  have e : n.tdiv 365 = -((-n) / 365) := by
    rw [← Int.tdiv_eq_ediv_of_nonneg (show 0 ≤ -n by omega), Int.neg_tdiv]; omega
  rw [e]
  have w1 : wrap64 (1970 + -(-n / 365)) = 1970 - (-n) / 365 := by unfold wrap64; omega
  rw [w1]; unfold wrap64; omega
theorem pos_year (n : Int) (h : 0 ≤ n) (hb : n ≤ 106800) : wrap64 (1970 + n.tdiv 366) = 1970 + n / 366 := by
  rw [Int.tdiv_eq_ediv_of_nonneg h]; unfold wrap64; omega

theorem mcum_mono (y : Int) (a b : Nat) (h : a ≤ b) : mcum y a ≤ mcum y b := by
  induction b with
  | zero => have : a = 0 := by omega
            subst this; exact Int.le_refl _
  | succ b ih =>
    by_cases e : a = b + 1
    · subst e; exact Int.le_refl _
    · have := ih (by omega); have := mlen_bd y (b + 1); simp only [mcum]; omega
theorem blk_new_at (W : World) (o : Obj) (g : Nat) (h : W.heap.size = g) : (W.alloc o).heap[g]? = some o := h ▸ blk_new W o

def dateRow (a b c d e f : Int) : Obj := .cells #[.int .i64 a, .int .i64 b, .int .i64 c, .int .i64 d, .int .i64 e, .int .i64 f] 23 (0, 0)
set_option maxHeartbeats 4000000 in
set_option maxRecDepth 100000 in
theorem toDate_walk (t s n y : Int) (k : Nat) (w : World) (ht : -9223372036854775808 ≤ t ∧ t ≤ 9223372036854775807) (hs : times_floored.f t 1000000000 = some s) (hn : times_floored.f s 86400 = some n)
    (hsb : -9300000000 ≤ s ∧ s ≤ 9300000000) (hnb : -106800 ≤ n ∧ n ≤ 106800) (hr : 0 ≤ s - n * 86400 ∧ s - n * 86400 < 86400) (hy0 : days y ≤ n) (hy1 : n < days (y + 1)) (hk : k < 12) (hk0 : mcum y k ≤ n - days y) (hk1 : n - days y < mcum y (k + 1)) :
    Calls Try.prog 14 #[.int .i64 t] w fun e w' => e = .returned (.agg #[.int .i64 y, .int .i64 (k + 1), .int .i64 (n - days y - mcum y k + 1), .int .i64 ((s - n * 86400) / 3600), .int .i64 ((s - n * 86400) / 60 % 60), .int .i64 ((s - n * 86400) % 60)]) ∧ Below w.heap.size w w' := by
  have hyb := days_year n y hnb hy0 hy1
  have HS := Aside0.mk hs
  have HN := Aside0.mk hn
  have HY := Aside0.mk (And.intro hy0 hy1)
  have HYB := Aside0.mk hyb
  have HK := Aside0.mk (And.intro hk (And.intro hk0 hk1))
  have HNB := Aside0.mk hnb
  clear hs hn hy0 hy1 hk hk0 hk1 hyb ht
  go_enter Try.func14, Try.ntmps14
  go_upto_if 29 with (go_at_call 35; first
    | ((with_reducible refine (times_floored.calls _ _ _ _ HS.out).mono ?_); rintro e w' ⟨rfl, ⟨nd, rfl⟩⟩)
    | ((with_reducible refine (times_floored.calls _ _ _ _ HN.out).mono ?_); rintro e w' ⟨rfl, ⟨nd, rfl⟩⟩))
  go_cut [6] (fun v6 wr => v6 = .pointer (some ⟨w.heap.size + 1, 0, none⟩) ∧ ∃ y0 : Int, y0 ≤ y ∧ 1600 ≤ y0 ∧ wr.heap[w.heap.size + 1]? = some (dateRow y0 0 0 ((s - n * 86400) / 3600) ((s - n * 86400) / 60 % 60) ((s - n * 86400) % 60)) ∧ wr.heap[w.heap.size]? = some (dateRow 0 0 0 0 0 0) ∧ Below w.heap.size w wr)
  case first =>
    by_cases hneg : n < 0
    · go_wp2
      go_meet
      obtain ⟨h0, h1⟩ := HY.out
      have hnb := HNB.out
      rw [neg_year n hneg hnb.1]
      refine ⟨rfl, _, guess_le n y _ ?_ h1, ?_, blk_new_at _ _ _ (by simp), blk_alloc (blk_drewN (blk_new _ _) _) _, below_alloc (pw_below_drewN (below_alloc (Below.refl _ _) _) _) _⟩
      · have := days_guess' ((-n) / 365) (by omega)
        omega
      · omega
    · go_wp2
      go_meet
      obtain ⟨h0, h1⟩ := HY.out
      have hnb := HNB.out
      rw [pos_year n (by omega) hnb.2]
      exact ⟨rfl, _, guess_le n y _ (days_guess n (by omega)) h1, by omega, blk_new_at _ _ _ (by simp), blk_alloc (blk_drewN (blk_new _ _) _) _, below_alloc (pw_below_drewN (below_alloc (Below.refl _ _) _) _) _⟩
  case rest =>
    obtain ⟨rfl, y0, hy0, hy16, hg2, hg1, hB⟩ := hcut
    have HG2 := Aside0.mk hg2
    have HG1 := Aside0.mk hg1
    have HB := Aside0.mk hB
    clear hg2 hg1 hB
    go_wp2_with fail
    go_loopg [36] (y - y0).toNat (fun gk v36 wr => ∃ y1 : Int, Aside0 ((y - y1).toNat ≤ gk) ∧ y1 ≤ y ∧ 1600 ≤ y1 ∧ Aside0 (wr.heap[w.heap.size + 1]? = some (dateRow y1 0 0 ((s - n * 86400) / 3600) ((s - n * 86400) / 60 % 60) ((s - n * 86400) % 60))) ∧ Aside0 (wr.heap[w.heap.size]? = some (dateRow 0 0 0 0 0 0)) ∧ Aside0 (Below w.heap.size w wr))
    case atStart => exact ⟨y0, ⟨Nat.le_refl _⟩, hy0, hy16, HG2, HG1, HB⟩
    case round =>
      clear HG2 HG1 HB hy0 hy16
      obtain ⟨y1, hgk, hy1, hy16, HG2, HG1, HB⟩ := hrel
      have hYB := HYB.out
      have f0 := blk_frozen HG2.out 0
      have c0 : wr.cell? ⟨w.heap.size + 1, 0, none⟩ = some (.int .i64 y1) := (blk_cell HG2.out 0).trans rfl
      by_cases hlt : y1 < y
      · have hd : days (y1 + 1) ≤ n := by
          have := HY.out.1
          by_cases e : y1 + 1 = y
          · rw [e]; exact this
          · have := days_lt (y1 + 1) y (by omega); omega
        go_wp2_with (go_at_call 32; refine (days_calls _ _ (by omega) (by omega)).mono ?_; rintro e w' ⟨rfl, rfl⟩)
        go_roundg (y - (y1 + 1)).toNat
        case measure => have := hgk.out; omega
        case rel => exact ⟨y1 + 1, ⟨Nat.le_refl _⟩, by omega, by omega, ⟨blk_put HG2.out 0 _ rfl⟩, ⟨blk_far HG1.out (show w.heap.size ≠ w.heap.size + 1 by omega) _⟩, ⟨below_set HB.out (Nat.le_succ _)⟩⟩
      · have hye : y1 = y := by omega
        subst hye
        have hd : n < days (y1 + 1) := HY.out.2
        have hlo : days y1 ≤ n := HY.out.1
        have hhi : n - days y1 ≤ 400 := by have := HK.out; have := mcum_bd y1 (k + 1); omega
        go_wp2_with (first
          | (go_at_call 32; refine (days_calls _ _ (by omega) (by omega)).mono ?_; rintro e w' ⟨rfl, rfl⟩)
          | (go_at_call 31; (with_reducible refine (months_calls _ _ (by omega)).mono ?_); rintro e w1 ⟨rfl, hb⟩; have n2 := Aside0.mk (blk_below HG2.out hb); have n1 := Aside0.mk (blk_below HG1.out hb); have nb := Aside0.mk (below_step HB.out hb); clear hb HG2 HG1 HB))
        have hhk : k < 12 := HK.out.1
        go_loop [4, 7, 8, 53] (fun v4 v7 v8 v53 => ∃ j : Nat, j ≤ k ∧ v53 = .int .i64 j ∧ v4 = .int .i64 (n - days y1 - mcum y1 j)) (fun _ _ _ i => 12 - (intOf i).toNat)
        case atStart => exact ⟨0, Nat.zero_le _, rfl, by simp [mcum]⟩
        case round =>
          obtain ⟨j, hj, rfl, rfl⟩ := hrel
          have hmb := mcum_bd y1 j
          have hsucc := Aside0.mk (show mcum y1 (j + 1) = mcum y1 j + mlen y1 (j + 1) from rfl)
          have hmb2 := mlen_bd y1 (j + 1)
          have hj12 : j < 12 := by omega
          have hix := month_index y1 j hj12
          by_cases hlt : j < k
          · have hge : mlen y1 (j + 1) ≤ n - days y1 - mcum y1 j := by
              have h1 := HK.out.2.1
              have h2 := mcum_mono y1 (j + 1) k (by omega)
              have := hsucc.out
              omega
            go_wp2
            go_round
            case rel => exact ⟨j + 1, by omega, by go_num, by rw [hsucc.out]; go_num⟩
            case measure => simp [intOf]; omega
          · have hjk : j = k := by omega
            subst hjk
            have hge : n - days y1 - mcum y1 j < mlen y1 (j + 1) := by
              have h1 := HK.out.2.2
              have := hsucc.out
              omega
            have f1 := blk_frozen n2.out 1
            have f2 := blk_frozen n2.out 2
            have c0 : w1.cell? ⟨w.heap.size + 1, 0, none⟩ = some (.int .i64 y1) := (blk_cell n2.out 0).trans rfl
            have c1 : w1.cell? ⟨w.heap.size + 1, 1, none⟩ = some (.int .i64 0) := (blk_cell n2.out 1).trans rfl
            have c2 : w1.cell? ⟨w.heap.size + 1, 2, none⟩ = some (.int .i64 0) := (blk_cell n2.out 2).trans rfl
            have c3 : w1.cell? ⟨w.heap.size + 1, 3, none⟩ = some (.int .i64 ((s - n * 86400) / 3600)) := (blk_cell n2.out 3).trans rfl
            have c4 : w1.cell? ⟨w.heap.size + 1, 4, none⟩ = some (.int .i64 ((s - n * 86400) / 60 % 60)) := (blk_cell n2.out 4).trans rfl
            have c5 : w1.cell? ⟨w.heap.size + 1, 5, none⟩ = some (.int .i64 ((s - n * 86400) % 60)) := (blk_cell n2.out 5).trans rfl
            have z0 : w1.cell? ⟨w.heap.size, 0, none⟩ = some (.int .i64 0) := (blk_cell n1.out 0).trans rfl
            have g0 := blk_frozen n1.out 0
            have z1 : w1.cell? ⟨w.heap.size, 1, none⟩ = some (.int .i64 0) := (blk_cell n1.out 1).trans rfl
            have g1 := blk_frozen n1.out 1
            have z2 : w1.cell? ⟨w.heap.size, 2, none⟩ = some (.int .i64 0) := (blk_cell n1.out 2).trans rfl
            have g2 := blk_frozen n1.out 2
            have z3 : w1.cell? ⟨w.heap.size, 3, none⟩ = some (.int .i64 0) := (blk_cell n1.out 3).trans rfl
            have g3 := blk_frozen n1.out 3
            have z4 : w1.cell? ⟨w.heap.size, 4, none⟩ = some (.int .i64 0) := (blk_cell n1.out 4).trans rfl
            have g4 := blk_frozen n1.out 4
            have z5 : w1.cell? ⟨w.heap.size, 5, none⟩ = some (.int .i64 0) := (blk_cell n1.out 5).trans rfl
            have g5 := blk_frozen n1.out 5
            go_wp2
            refine bodyPost_ret (results_cell_row rfl _ _ w.heap.size 23 #[.int .i64 y1, .int .i64 (j + 1), .int .i64 (n - days y1 - mcum y1 j + 1), .int .i64 ((s - n * 86400) / 3600), .int .i64 ((s - n * 86400) / 60 % 60), .int .i64 ((s - n * 86400) % 60)] (0, 0) _ rfl ?hblk Try.underlying23 rfl (by kernel_rfl)) rfl ?_
            case hblk =>
              refine blk_put (cs := #[.int .i64 y1, .int .i64 (j + 1), .int .i64 (n - days y1 - mcum y1 j + 1), .int .i64 ((s - n * 86400) / 3600), .int .i64 ((s - n * 86400) / 60 % 60), .int .i64 0]) ?_ 5 _ rfl
              refine blk_put (cs := #[.int .i64 y1, .int .i64 (j + 1), .int .i64 (n - days y1 - mcum y1 j + 1), .int .i64 ((s - n * 86400) / 3600), .int .i64 0, .int .i64 0]) ?_ 4 _ rfl
              refine blk_put (cs := #[.int .i64 y1, .int .i64 (j + 1), .int .i64 (n - days y1 - mcum y1 j + 1), .int .i64 0, .int .i64 0, .int .i64 0]) ?_ 3 _ rfl
              refine blk_put (cs := #[.int .i64 y1, .int .i64 (j + 1), .int .i64 0, .int .i64 0, .int .i64 0, .int .i64 0]) ?_ 2 _ rfl
              refine blk_put (cs := #[.int .i64 y1, .int .i64 0, .int .i64 0, .int .i64 0, .int .i64 0, .int .i64 0]) ?_ 1 _ rfl
              refine blk_put (cs := #[.int .i64 0, .int .i64 0, .int .i64 0, .int .i64 0, .int .i64 0, .int .i64 0]) ?_ 0 _ rfl
              refine blk_far ?_ (show w.heap.size ≠ w.heap.size + 1 by omega) _
              refine blk_far ?_ (show w.heap.size ≠ w.heap.size + 1 by omega) _
              exact n1.out
            refine ⟨rfl, ?_⟩
            repeat (refine below_set ?_ (Nat.le_refl _))
            exact below_set (below_set nb.out (Nat.le_succ _)) (Nat.le_succ _)
end Go.Proofs.Ytnnhplakmagbbaa.HB
