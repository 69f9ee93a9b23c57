/- The row of the law TimesOrder: for every two times the call returns true, and the arguments read behind the call as they read before; no condition. -/
import Derived.Test.YtnnhplakmagbbaaRows
import Derived.Test.YtnnhplakmagbbaaHg
import Derived.Test.YtnnhplakmagbbaaLc
import Derived.WalkKit
import Derived.ProofKit
import Derived.OpenShut
import Derived.ShutString
import Derived.ChangeOld
import Derived.Below
import Derived.SizedLaws
import Derived.Deep.QuietTactic
import Derived.BigQuiet
import Derived.Deep.RegionHeld3
namespace Go.Proofs.Ytnnhplakmagbbaa.timesOrder
open Go.ChangeShapes Go.WideShapes Go.ChangeAt Go.RowKit
open Go.Proofs.YtnnhplakmagbbaaW.PrintWords Go.Proofs.YtnnhplakmagbbaaW.PrintLast Go.Proofs.YtnnhplakmagbbaaW.PrintMore
open Go.Proofs.Ytnnhplakmagbbaa.HA Go.Proofs.Ytnnhplakmagbbaa.HB Go.Proofs.Ytnnhplakmagbbaa.LA Go.Proofs.Ytnnhplakmagbbaa.HX
set_option linter.unusedVariables false
set_option linter.unusedSimpArgs false

theorem nt_calls (t : Int) (w : World) (ht : inI64 t) : Calls Try.prog 18 #[.int .i64 t] w fun e w' => e = .returned (.int .u64 (t / 100 + 116444736000000000)) ∧ Drawn0 w w' := by
  refine times_ToNt.calls t _ w ?_
  unfold times_ToNt.f
  rw [floored_some t 100 ht (by omega) (by omega)]
  unfold inI64 at ht
  simp only [Option.bind_some]
  rw [w64 _ (by unfold inI64; omega), IntKind.wrap_u64]
  congr 1; omega
theorem unix_calls (t : Int) (w : World) (ht : inI64 t) : Calls Try.prog 21 #[.int .i64 t] w fun e w' => e = .returned (.int .i64 (t / 1000000000)) ∧ Drawn0 w w' := by
  refine times_ToUnix.calls t _ w ?_
  unfold times_ToUnix.f
  rw [floored_some t 1000000000 ht (by omega) (by omega)]
  rfl
theorem below_und {B : Nat} {w W : World} {n : Nat} (h : Below B w (W.drewN n)) : Below B w W := ⟨h.os, h.tape, h.output, h.size, h.block⟩
/-- Part j of two dates. -/
def prt (x0 x1 x2 x3 x4 x5 : Int) (j : Nat) : Int := if j = 0 then x0 else if j = 1 then x1 else if j = 2 then x2 else if j = 3 then x3 else if j = 4 then x4 else x5
def rowC (x0 x1 x2 x3 x4 x5 y0 y1 y2 y3 y4 y5 : Int) : Array Value := #[.int .i64 x0, .int .i64 y0, .int .i64 x1, .int .i64 y1, .int .i64 x2, .int .i64 y2, .int .i64 x3, .int .i64 y3, .int .i64 x4, .int .i64 y4, .int .i64 x5, .int .i64 y5]
theorem rowC_x (x0 x1 x2 x3 x4 x5 y0 y1 y2 y3 y4 y5 : Int) (j i : Nat) (hj : j < 6) (hi : i = 2 * j) : (rowC x0 x1 x2 x3 x4 x5 y0 y1 y2 y3 y4 y5)[i]? = some (.int .i64 (prt x0 x1 x2 x3 x4 x5 j)) := by
  have : j = 0 ∨ j = 1 ∨ j = 2 ∨ j = 3 ∨ j = 4 ∨ j = 5 := by omega
  rcases this with rfl | rfl | rfl | rfl | rfl | rfl <;> (subst hi; rfl)
theorem rowC_y (x0 x1 x2 x3 x4 x5 y0 y1 y2 y3 y4 y5 : Int) (j i : Nat) (hj : j < 6) (hi : i = 2 * j) : (rowC x0 x1 x2 x3 x4 x5 y0 y1 y2 y3 y4 y5)[i + 1]? = some (.int .i64 (prt y0 y1 y2 y3 y4 y5 j)) := by
  have : j = 0 ∨ j = 1 ∨ j = 2 ∨ j = 3 ∨ j = 4 ∨ j = 5 := by omega
  rcases this with rfl | rfl | rfl | rfl | rfl | rfl <;> (subst hi; rfl)

set_option maxHeartbeats 8000000 in
set_option maxRecDepth 100000 in
theorem walk_le (t u : Int) (x0 x1 x2 x3 x4 x5 y0 y1 y2 y3 y4 y5 : Int) (J : Nat) (w : World) (hg : ¬ u < t) (ht : inI64 t) (hu : inI64 u) (hle : t ≤ u)
    (h1 : times_ToDate.f t = some (x0, x1, x2, x3, x4, x5)) (h2 : times_ToDate.f u = some (y0, y1, y2, y3, y4, y5)) (hJ : J ≤ 6)
    (hpre : ∀ j, j < J → prt x0 x1 x2 x3 x4 x5 j = prt y0 y1 y2 y3 y4 y5 j) (hlt : J < 6 → prt x0 x1 x2 x3 x4 x5 J < prt y0 y1 y2 y3 y4 y5 J ∧ t / 1000000000 < u / 1000000000) (heq : J = 6 → t / 1000000000 = u / 1000000000) :
    Calls Try.prog 7 #[.int .i64 t, .int .i64 u] w fun e w' => e = .returned (.bool true) ∧ Below w.heap.size w w' := by
  have A1 := Aside0.mk h1
  have A2 := Aside0.mk h2
  have HT := Aside0.mk ht
  have HU := Aside0.mk hu
  have HP := Aside0.mk hpre
  have HL := Aside0.mk hlt
  have HE := Aside0.mk heq
  have hNT : t / 100 + 116444736000000000 ≤ u / 100 + 116444736000000000 := by omega
  clear h1 h2 ht hu hpre hlt heq hle
  go_enter Try.func7, Try.ntmps7
  go_upto_region 4 with (go_at_call 14; first
        | ((with_reducible refine (times_ToDate.calls _ _ _ _ _ _ _ _ A1.out).mono ?_); rintro e w1 ⟨rfl, hb⟩; have n1 := Aside0.mk hb; clear hb)
        | ((with_reducible refine (times_ToDate.calls _ _ _ _ _ _ _ _ A2.out).mono ?_); rintro e w2 ⟨rfl, hb⟩; have n2 := Aside0.mk (below_step n1.out hb); clear hb n1))
  go_cut [7] (fun v7 wr => ∃ g : Nat, v7 = .pointer (some ⟨g, 0, none⟩) ∧ Aside0 (wr.heap[g]? = some (.cells (rowC x0 x1 x2 x3 x4 x5 y0 y1 y2 y3 y4 y5) 38 (0, 0))) ∧ Aside0 (Below w.heap.size w wr))
  case first =>
    go_wp2_with fail
    go_meet
    exact ⟨_, rfl, ⟨blk_new_at _ _ _ (by simp)⟩, ⟨below_alloc (below_alloc (below_alloc n2.out _) _) _⟩⟩
  case rest =>
    obtain ⟨g, rfl, HG, HB⟩ := hcut
    go_wp2_with fail
    go_loopg [8] J (fun gk v8 wr => ∃ j i : Nat, v8 = .int .i64 i ∧ Aside0 (i = 2 * j) ∧ Aside0 (gk + j = J) ∧ i ≤ 12 ∧ Aside0 (wr.heap[g]? = some (.cells (rowC x0 x1 x2 x3 x4 x5 y0 y1 y2 y3 y4 y5) 38 (0, 0))) ∧ Aside0 (Below w.heap.size w wr))
    case atStart => exact ⟨0, 0, rfl, ⟨rfl⟩, ⟨rfl⟩, by omega, HG, HB⟩
    case round =>
      clear HG HB
      obtain ⟨j, i, rfl, hi, hgk, hi12, HG, HB⟩ := hrel
      by_cases hj : j < J
      · have hi11 : i < 11 := by have := hi.out; omega
        have cx : wr.cell? ⟨g, i, none⟩ = some (.int .i64 (prt x0 x1 x2 x3 x4 x5 j)) := (blk_cell HG.out i).trans (rowC_x _ _ _ _ _ _ _ _ _ _ _ _ j i (by have := hi.out; omega) hi.out)
        have cy : wr.cell? ⟨g, i + 1, none⟩ = some (.int .i64 (prt y0 y1 y2 y3 y4 y5 j)) := (blk_cell HG.out (i + 1)).trans (rowC_y _ _ _ _ _ _ _ _ _ _ _ _ j i (by have := hi.out; omega) hi.out)
        have hb1 : (prt x0 x1 x2 x3 x4 x5 j != prt y0 y1 y2 y3 y4 y5 j) = false := by rw [HP.out j hj]; simp
        have hs1 : IntKind.i64.wrap ((i : Int) + 1) = (i : Int) + 1 := IntWalk.i64_in _ (by omega)
        have hs2 : ((i : Int) + 1).toNat = i + 1 := by omega
        have hs3 : (0 : Int) ≤ (i : Int) + 1 := by omega
        have hs4 : (i : Int) + 1 < 12 := by omega
        have hs5 : (i : Int) < 12 := by omega
        go_wp2_with fail
        go_quiet (fail)
        go_wp2
        go_roundg (gk - 1)
        case measure => have := hgk.out; omega
        case rel => exact ⟨j + 1, i + 2, by go_num, ⟨by have := hi.out; omega⟩, ⟨by have := hgk.out; omega⟩, by omega, HG, ⟨pw_below_drewN HB.out _⟩⟩
      · have hjJ : j = J := by have := hgk.out; omega
        by_cases h6 : J < 6
        · have hi11 : i < 11 := by have := hi.out; omega
          have cx : wr.cell? ⟨g, i, none⟩ = some (.int .i64 (prt x0 x1 x2 x3 x4 x5 j)) := (blk_cell HG.out i).trans (rowC_x _ _ _ _ _ _ _ _ _ _ _ _ j i (by omega) hi.out)
          have cy : wr.cell? ⟨g, i + 1, none⟩ = some (.int .i64 (prt y0 y1 y2 y3 y4 y5 j)) := (blk_cell HG.out (i + 1)).trans (rowC_y _ _ _ _ _ _ _ _ _ _ _ _ j i (by omega) hi.out)
          obtain ⟨hl1, hl2⟩ := HL.out h6
          have hjl : prt x0 x1 x2 x3 x4 x5 j < prt y0 y1 y2 y3 y4 y5 j := by rw [hjJ]; exact hl1
          have hb1 : (prt x0 x1 x2 x3 x4 x5 j != prt y0 y1 y2 y3 y4 y5 j) = true := by simp; omega
          have hs1 : IntKind.i64.wrap ((i : Int) + 1) = (i : Int) + 1 := IntWalk.i64_in _ (by omega)
          have hs2 : ((i : Int) + 1).toNat = i + 1 := by omega
          have hs3 : (0 : Int) ≤ (i : Int) + 1 := by omega
          have hs4 : (i : Int) + 1 < 12 := by omega
          have hs5 : (i : Int) < 12 := by omega
          have hd1 : decide (prt x0 x1 x2 x3 x4 x5 j < prt y0 y1 y2 y3 y4 y5 j) = true := decide_eq_true hjl
          have hd2 : decide (t / 100 + 116444736000000000 ≤ u / 100 + 116444736000000000) = true := decide_eq_true hNT
          have hd3 : decide (t / 1000000000 < u / 1000000000) = true := decide_eq_true hl2
          clear hl1 hjJ
          go_wp2_with fail
          go_quiet (fail)
          go_wp2_with fail
          rename_i nq _
          go_region_held3 (fun w' => w'.cell? ⟨g, i, none⟩ = some (.int .i64 (prt x0 x1 x2 x3 x4 x5 j)) ∧ w'.cell? ⟨g, i + 1, none⟩ = some (.int .i64 (prt y0 y1 y2 y3 y4 y5 j)) ∧ Below w.heap.size w w')
            ((go_split_ands; refine ⟨?_, ?_, ?_⟩ <;> first | assumption | exact pw_cell_below hb3 (by assumption) | exact below_step (by assumption) hb3 | exact below_drew1 (pw_below_drewN HB.out _) | exact pw_below_drewN (below_und (by assumption)) _ | (apply pw_below_drewN; assumption) | (apply below_drew1; assumption) | (simp [*]; done)))
            (first
              | (go_at_call 13; refine (alive_true _).mono ?_; rintro e w3 ⟨rfl, hb3⟩)
              | (go_at_call 18; refine (nt_calls _ _ HT.out).mono ?_; rintro e w' ⟨rfl, ⟨nd, rfl⟩⟩)
              | (go_at_call 18; refine (nt_calls _ _ HU.out).mono ?_; rintro e w' ⟨rfl, ⟨nd, rfl⟩⟩)
              | (go_at_call 21; refine (unix_calls _ _ HT.out).mono ?_; rintro e w' ⟨rfl, ⟨nd, rfl⟩⟩)
              | (go_at_call 21; refine (unix_calls _ _ HU.out).mono ?_; rintro e w' ⟨rfl, ⟨nd, rfl⟩⟩))
          go_wp2
          go_ret
          go_split_ands
          exact ⟨rfl, by assumption⟩
        · have hi12' : i = 12 := by have := hi.out; omega
          subst hi12'
          have hl2 := HE.out (by omega)
          have hd2 : decide (t / 100 + 116444736000000000 ≤ u / 100 + 116444736000000000) = true := decide_eq_true hNT
          have hd3 : (t / 1000000000 == u / 1000000000) = true := by simpa using hl2
          clear hl2
          go_wp2_with (first
              | (go_at_call 13; (with_reducible refine (alive_true _).mono ?_); rintro e w3 ⟨rfl, hb3⟩; have n3 := Aside0.mk (below_step HB.out hb3); clear hb3)
              | (go_at_call 18; first
                  | ((with_reducible refine (nt_calls t _ HT.out).mono ?_); rintro e w' ⟨rfl, ⟨nd, rfl⟩⟩)
                  | ((with_reducible refine (nt_calls u _ HU.out).mono ?_); rintro e w' ⟨rfl, ⟨nd, rfl⟩⟩))
              | (go_at_call 21; first
                  | ((with_reducible refine (unix_calls t _ HT.out).mono ?_); rintro e w' ⟨rfl, ⟨nd, rfl⟩⟩)
                  | ((with_reducible refine (unix_calls u _ HU.out).mono ?_); rintro e w' ⟨rfl, ⟨nd, rfl⟩⟩)))
          go_ret
          exact ⟨rfl, by repeat (first | exact n3.out | apply pw_below_drewN)⟩

set_option maxHeartbeats 8000000 in
set_option maxRecDepth 100000 in
theorem walk_gt (t u : Int) (x0 x1 x2 x3 x4 x5 y0 y1 y2 y3 y4 y5 : Int) (J : Nat) (w : World) (hg : t < u) (ht : inI64 t) (hu : inI64 u) (hle : t ≤ u)
    (h1 : times_ToDate.f t = some (x0, x1, x2, x3, x4, x5)) (h2 : times_ToDate.f u = some (y0, y1, y2, y3, y4, y5)) (hJ : J ≤ 6)
    (hpre : ∀ j, j < J → prt x0 x1 x2 x3 x4 x5 j = prt y0 y1 y2 y3 y4 y5 j) (hlt : J < 6 → prt x0 x1 x2 x3 x4 x5 J < prt y0 y1 y2 y3 y4 y5 J ∧ t / 1000000000 < u / 1000000000) (heq : J = 6 → t / 1000000000 = u / 1000000000) :
    Calls Try.prog 7 #[.int .i64 u, .int .i64 t] w fun e w' => e = .returned (.bool true) ∧ Below w.heap.size w w' := by
  have A1 := Aside0.mk h1
  have A2 := Aside0.mk h2
  have HT := Aside0.mk ht
  have HU := Aside0.mk hu
  have HP := Aside0.mk hpre
  have HL := Aside0.mk hlt
  have HE := Aside0.mk heq
  have hNT : t / 100 + 116444736000000000 ≤ u / 100 + 116444736000000000 := by omega
  clear h1 h2 ht hu hpre hlt heq hle
  go_enter Try.func7, Try.ntmps7
  go_upto_region 4 with (go_at_call 14; first
        | ((with_reducible refine (times_ToDate.calls _ _ _ _ _ _ _ _ A1.out).mono ?_); rintro e w1 ⟨rfl, hb⟩; have n1 := Aside0.mk hb; clear hb)
        | ((with_reducible refine (times_ToDate.calls _ _ _ _ _ _ _ _ A2.out).mono ?_); rintro e w2 ⟨rfl, hb⟩; have n2 := Aside0.mk (below_step n1.out hb); clear hb n1))
  go_cut [7] (fun v7 wr => ∃ g : Nat, v7 = .pointer (some ⟨g, 0, none⟩) ∧ Aside0 (wr.heap[g]? = some (.cells (rowC x0 x1 x2 x3 x4 x5 y0 y1 y2 y3 y4 y5) 38 (0, 0))) ∧ Aside0 (Below w.heap.size w wr))
  case first =>
    go_wp2_with fail
    go_meet
    exact ⟨_, rfl, ⟨blk_new_at _ _ _ (by simp)⟩, ⟨below_alloc (below_alloc (below_alloc n2.out _) _) _⟩⟩
  case rest =>
    obtain ⟨g, rfl, HG, HB⟩ := hcut
    go_wp2_with fail
    go_loopg [8] J (fun gk v8 wr => ∃ j i : Nat, v8 = .int .i64 i ∧ Aside0 (i = 2 * j) ∧ Aside0 (gk + j = J) ∧ i ≤ 12 ∧ Aside0 (wr.heap[g]? = some (.cells (rowC x0 x1 x2 x3 x4 x5 y0 y1 y2 y3 y4 y5) 38 (0, 0))) ∧ Aside0 (Below w.heap.size w wr))
    case atStart => exact ⟨0, 0, rfl, ⟨rfl⟩, ⟨rfl⟩, by omega, HG, HB⟩
    case round =>
      clear HG HB
      obtain ⟨j, i, rfl, hi, hgk, hi12, HG, HB⟩ := hrel
      by_cases hj : j < J
      · have hi11 : i < 11 := by have := hi.out; omega
        have cx : wr.cell? ⟨g, i, none⟩ = some (.int .i64 (prt x0 x1 x2 x3 x4 x5 j)) := (blk_cell HG.out i).trans (rowC_x _ _ _ _ _ _ _ _ _ _ _ _ j i (by have := hi.out; omega) hi.out)
        have cy : wr.cell? ⟨g, i + 1, none⟩ = some (.int .i64 (prt y0 y1 y2 y3 y4 y5 j)) := (blk_cell HG.out (i + 1)).trans (rowC_y _ _ _ _ _ _ _ _ _ _ _ _ j i (by have := hi.out; omega) hi.out)
        have hb1 : (prt x0 x1 x2 x3 x4 x5 j != prt y0 y1 y2 y3 y4 y5 j) = false := by rw [HP.out j hj]; simp
        have hs1 : IntKind.i64.wrap ((i : Int) + 1) = (i : Int) + 1 := IntWalk.i64_in _ (by omega)
        have hs2 : ((i : Int) + 1).toNat = i + 1 := by omega
        have hs3 : (0 : Int) ≤ (i : Int) + 1 := by omega
        have hs4 : (i : Int) + 1 < 12 := by omega
        have hs5 : (i : Int) < 12 := by omega
        go_wp2_with fail
        go_quiet (fail)
        go_wp2
        go_roundg (gk - 1)
        case measure => have := hgk.out; omega
        case rel => exact ⟨j + 1, i + 2, by go_num, ⟨by have := hi.out; omega⟩, ⟨by have := hgk.out; omega⟩, by omega, HG, ⟨pw_below_drewN HB.out _⟩⟩
      · have hjJ : j = J := by have := hgk.out; omega
        by_cases h6 : J < 6
        · have hi11 : i < 11 := by have := hi.out; omega
          have cx : wr.cell? ⟨g, i, none⟩ = some (.int .i64 (prt x0 x1 x2 x3 x4 x5 j)) := (blk_cell HG.out i).trans (rowC_x _ _ _ _ _ _ _ _ _ _ _ _ j i (by omega) hi.out)
          have cy : wr.cell? ⟨g, i + 1, none⟩ = some (.int .i64 (prt y0 y1 y2 y3 y4 y5 j)) := (blk_cell HG.out (i + 1)).trans (rowC_y _ _ _ _ _ _ _ _ _ _ _ _ j i (by omega) hi.out)
          obtain ⟨hl1, hl2⟩ := HL.out h6
          have hjl : prt x0 x1 x2 x3 x4 x5 j < prt y0 y1 y2 y3 y4 y5 j := by rw [hjJ]; exact hl1
          have hb1 : (prt x0 x1 x2 x3 x4 x5 j != prt y0 y1 y2 y3 y4 y5 j) = true := by simp; omega
          have hs1 : IntKind.i64.wrap ((i : Int) + 1) = (i : Int) + 1 := IntWalk.i64_in _ (by omega)
          have hs2 : ((i : Int) + 1).toNat = i + 1 := by omega
          have hs3 : (0 : Int) ≤ (i : Int) + 1 := by omega
          have hs4 : (i : Int) + 1 < 12 := by omega
          have hs5 : (i : Int) < 12 := by omega
          have hd1 : decide (prt x0 x1 x2 x3 x4 x5 j < prt y0 y1 y2 y3 y4 y5 j) = true := decide_eq_true hjl
          have hd2 : decide (t / 100 + 116444736000000000 ≤ u / 100 + 116444736000000000) = true := decide_eq_true hNT
          have hd3 : decide (t / 1000000000 < u / 1000000000) = true := decide_eq_true hl2
          clear hl1 hjJ
          go_wp2_with fail
          go_quiet (fail)
          go_wp2_with fail
          rename_i nq _
          go_region_held3 (fun w' => w'.cell? ⟨g, i, none⟩ = some (.int .i64 (prt x0 x1 x2 x3 x4 x5 j)) ∧ w'.cell? ⟨g, i + 1, none⟩ = some (.int .i64 (prt y0 y1 y2 y3 y4 y5 j)) ∧ Below w.heap.size w w')
            ((go_split_ands; refine ⟨?_, ?_, ?_⟩ <;> first | assumption | exact pw_cell_below hb3 (by assumption) | exact below_step (by assumption) hb3 | exact below_drew1 (pw_below_drewN HB.out _) | exact pw_below_drewN (below_und (by assumption)) _ | (apply pw_below_drewN; assumption) | (apply below_drew1; assumption) | (simp [*]; done)))
            (first
              | (go_at_call 13; refine (alive_true _).mono ?_; rintro e w3 ⟨rfl, hb3⟩)
              | (go_at_call 18; refine (nt_calls _ _ HT.out).mono ?_; rintro e w' ⟨rfl, ⟨nd, rfl⟩⟩)
              | (go_at_call 18; refine (nt_calls _ _ HU.out).mono ?_; rintro e w' ⟨rfl, ⟨nd, rfl⟩⟩)
              | (go_at_call 21; refine (unix_calls _ _ HT.out).mono ?_; rintro e w' ⟨rfl, ⟨nd, rfl⟩⟩)
              | (go_at_call 21; refine (unix_calls _ _ HU.out).mono ?_; rintro e w' ⟨rfl, ⟨nd, rfl⟩⟩))
          go_wp2
          go_ret
          go_split_ands
          exact ⟨rfl, by assumption⟩
        · have hi12' : i = 12 := by have := hi.out; omega
          subst hi12'
          have hl2 := HE.out (by omega)
          have hd2 : decide (t / 100 + 116444736000000000 ≤ u / 100 + 116444736000000000) = true := decide_eq_true hNT
          have hd3 : (t / 1000000000 == u / 1000000000) = true := by simpa using hl2
          clear hl2
          go_wp2_with (first
              | (go_at_call 13; (with_reducible refine (alive_true _).mono ?_); rintro e w3 ⟨rfl, hb3⟩; have n3 := Aside0.mk (below_step HB.out hb3); clear hb3)
              | (go_at_call 18; first
                  | ((with_reducible refine (nt_calls t _ HT.out).mono ?_); rintro e w' ⟨rfl, ⟨nd, rfl⟩⟩)
                  | ((with_reducible refine (nt_calls u _ HU.out).mono ?_); rintro e w' ⟨rfl, ⟨nd, rfl⟩⟩))
              | (go_at_call 21; first
                  | ((with_reducible refine (unix_calls t _ HT.out).mono ?_); rintro e w' ⟨rfl, ⟨nd, rfl⟩⟩)
                  | ((with_reducible refine (unix_calls u _ HU.out).mono ?_); rintro e w' ⟨rfl, ⟨nd, rfl⟩⟩)))
          go_ret
          exact ⟨rfl, by repeat (first | exact n3.out | apply pw_below_drewN)⟩

theorem lex_of (y1 y2 n1 n2 r1 r2 s1 s2 : Int) (m1 m2 : Nat) (a1 : days y1 ≤ n1) (a2 : n1 < days (y1 + 1)) (b1 : days y2 ≤ n2) (b2 : n2 < days (y2 + 1))
    (c1 : mcum y1 m1 ≤ n1 - days y1) (c2 : n1 - days y1 < mcum y1 (m1 + 1)) (d1 : mcum y2 m2 ≤ n2 - days y2) (d2 : n2 - days y2 < mcum y2 (m2 + 1))
    (e1 : 0 ≤ r1 ∧ r1 < 86400) (e2 : 0 ≤ r2 ∧ r2 < 86400) (f1 : s1 = n1 * 86400 + r1) (f2 : s2 = n2 * 86400 + r2) (hlt : s1 < s2) :
    ∃ J, J < 6 ∧ (∀ j, j < J → prt y1 (m1 + 1) (n1 - days y1 - mcum y1 m1 + 1) (r1 / 3600) (r1 / 60 % 60) (r1 % 60) j = prt y2 (m2 + 1) (n2 - days y2 - mcum y2 m2 + 1) (r2 / 3600) (r2 / 60 % 60) (r2 % 60) j) ∧
      prt y1 (m1 + 1) (n1 - days y1 - mcum y1 m1 + 1) (r1 / 3600) (r1 / 60 % 60) (r1 % 60) J < prt y2 (m2 + 1) (n2 - days y2 - mcum y2 m2 + 1) (r2 / 3600) (r2 / 60 % 60) (r2 % 60) J := by
  by_cases hn : n1 < n2
  · have hy : y1 ≤ y2 := guess_le n2 y2 y1 (by omega) b2
    by_cases hy1 : y1 < y2
    · exact ⟨0, by omega, fun j hj => by omega, hy1⟩
    · have hye : y1 = y2 := by omega
      subst hye
      have hm : m1 ≤ m2 := by
        by_cases c : m1 ≤ m2
        · exact c
        · have := mcum_mono y1 (m2 + 1) m1 (by omega); omega
      by_cases hm1 : m1 < m2
      · refine ⟨1, by omega, fun j hj => ?_, ?_⟩
        · have : j = 0 := by omega
          subst this; rfl
        · show (m1 : Int) + 1 < m2 + 1
          omega
      · have hme : m1 = m2 := by omega
        subst hme
        refine ⟨2, by omega, fun j hj => ?_, ?_⟩
        · have : j = 0 ∨ j = 1 := by omega
          rcases this with rfl | rfl <;> rfl
        · show n1 - days y1 - mcum y1 m1 + 1 < n2 - days y1 - mcum y1 m1 + 1
          omega
  · have hne : n1 = n2 := by omega
    subst hne
    have hy : y1 = y2 := by
      have h1 := guess_le n1 y2 y1 a1 b2
      have h2 := guess_le n1 y1 y2 b1 a2
      omega
    subst hy
    have hm : m1 = m2 := by
      by_cases c : m1 < m2
      · have := mcum_mono y1 (m1 + 1) m2 (by omega); omega
      · by_cases c2 : m2 < m1
        · have := mcum_mono y1 (m2 + 1) m1 (by omega); omega
        · omega
    subst hm
    by_cases g3 : r1 / 3600 < r2 / 3600
    · refine ⟨3, by omega, fun j hj => ?_, g3⟩
      have : j = 0 ∨ j = 1 ∨ j = 2 := by omega
      rcases this with rfl | rfl | rfl <;> rfl
    · have k3 : r1 / 3600 = r2 / 3600 := by omega
      by_cases g4 : r1 / 60 % 60 < r2 / 60 % 60
      · refine ⟨4, by omega, fun j hj => ?_, g4⟩
        have : j = 0 ∨ j = 1 ∨ j = 2 ∨ j = 3 := by omega
        rcases this with rfl | rfl | rfl | rfl <;> first | rfl | exact k3
      · have k4 : r1 / 60 % 60 = r2 / 60 % 60 := by omega
        refine ⟨5, by omega, fun j hj => ?_, ?_⟩
        · have : j = 0 ∨ j = 1 ∨ j = 2 ∨ j = 3 ∨ j = 4 := by omega
          rcases this with rfl | rfl | rfl | rfl | rfl <;> first | rfl | exact k3 | exact k4
        · show r1 % 60 < r2 % 60
          omega
theorem date_eq (t : Int) (ht : inI64 t) : times_ToDate.f t = some (yearOf (dayOf t), (monthOf (yearOf (dayOf t)) (dayOf t - days (yearOf (dayOf t))) : Int) + 1, dayOf t - days (yearOf (dayOf t)) - mcum (yearOf (dayOf t)) (monthOf (yearOf (dayOf t)) (dayOf t - days (yearOf (dayOf t)))) + 1,
      (t / 1000000000 - dayOf t * 86400) / 3600, (t / 1000000000 - dayOf t * 86400) / 60 % 60, (t / 1000000000 - dayOf t * 86400) % 60) := by
  unfold times_ToDate.f
  rw [if_pos ht]
theorem lex (t u : Int) (ht : inI64 t) (hu : inI64 u) (hle : t ≤ u) : ∃ x0 x1 x2 x3 x4 x5 y0 y1 y2 y3 y4 y5 : Int, ∃ J : Nat,
    times_ToDate.f t = some (x0, x1, x2, x3, x4, x5) ∧ times_ToDate.f u = some (y0, y1, y2, y3, y4, y5) ∧ J ≤ 6 ∧ (∀ j, j < J → prt x0 x1 x2 x3 x4 x5 j = prt y0 y1 y2 y3 y4 y5 j) ∧
      (J < 6 → prt x0 x1 x2 x3 x4 x5 J < prt y0 y1 y2 y3 y4 y5 J ∧ t / 1000000000 < u / 1000000000) ∧ (J = 6 → t / 1000000000 = u / 1000000000) := by
  by_cases hs : t / 1000000000 < u / 1000000000
  · have h1 := yearOf_ok (dayOf t)
    have h2 := yearOf_ok (dayOf u)
    have m1 := monthOf_ok (yearOf (dayOf t)) (dayOf t - days (yearOf (dayOf t))) (by omega) (by rw [mcum_year]; omega)
    have m2 := monthOf_ok (yearOf (dayOf u)) (dayOf u - days (yearOf (dayOf u))) (by omega) (by rw [mcum_year]; omega)
    obtain ⟨J, hJ, hp, hl⟩ := lex_of (yearOf (dayOf t)) (yearOf (dayOf u)) (dayOf t) (dayOf u) (t / 1000000000 - dayOf t * 86400) (u / 1000000000 - dayOf u * 86400) (t / 1000000000) (u / 1000000000) _ _
      h1.1 h1.2 h2.1 h2.2 m1.2.1 m1.2.2 m2.2.1 m2.2.2 (by unfold dayOf; omega) (by unfold dayOf; omega) (by unfold dayOf; omega) (by unfold dayOf; omega) hs
    exact ⟨_, _, _, _, _, _, _, _, _, _, _, _, J, date_eq t ht, date_eq u hu, by omega, hp, fun _ => ⟨hl, hs⟩, fun h => by omega⟩
  · have he : t / 1000000000 = u / 1000000000 := by omega
    have hd : dayOf t = dayOf u := by unfold dayOf; rw [he]
    have e1 := date_eq t ht
    rw [hd, he] at e1
    exact ⟨_, _, _, _, _, _, _, _, _, _, _, _, 6, e1, date_eq u hu, by omega, fun _ _ => rfl, fun h => by omega, fun _ => he⟩
theorem law (p q : Int) (w : World) (hp : inI64 p) (hq : inI64 q) : Calls Try.prog 7 #[.int .i64 p, .int .i64 q] w fun e w' => e = .returned (.bool true) ∧ Below w.heap.size w w' := by
  by_cases c : q < p
  · obtain ⟨x0, x1, x2, x3, x4, x5, y0, y1, y2, y3, y4, y5, J, h1, h2, hJ, hpre, hlt, heq⟩ := lex q p hq hp (by omega)
    exact walk_gt q p x0 x1 x2 x3 x4 x5 y0 y1 y2 y3 y4 y5 J w c hq hp (by omega) h1 h2 hJ hpre hlt heq
  · obtain ⟨x0, x1, x2, x3, x4, x5, y0, y1, y2, y3, y4, y5, J, h1, h2, hJ, hpre, hlt, heq⟩ := lex p q hp hq (by omega)
    exact walk_le p q x0 x1 x2 x3 x4 x5 y0 y1 y2 y3 y4 y5 J w c hp hq (by omega) h1 h2 hJ hpre hlt heq

theorem own : ownKnob Try.prog.godebug = none := by kernel_rfl
set_option maxRecDepth 100000 in
theorem lifted (os : Os) (started : os.Started) (H : Type) (enc : TypeId × Value → H) :
    ReturnsInHanded {} Try.checked os 7 .any (Rows.timesOrderSpec.pre6 enc Try.prog Try.f7 Rows.timesOrderRow.domain false) (Rows.timesOrderSpec.post enc Try.prog Try.f7 false true false false) := by
  refine returnsInHanded_of_change_sized (C := Try.checked) own started (by kernel_rfl) Try.func7
    (ChangeSpec.witness6 (enc := enc) (C := Try.checked) false ⟨#[], #[.int .i64 0, .int .i64 0], []⟩ 8 (by kernel_rfl) (by kernel_rfl) (by kernel_rfl) (by kernel_rfl)) ?_
  intro W base args ds gs before hval0 hW hcnd hsz0 _
  have hval : ∀ (j : Nat) t v, Try.f7.params[j]? = some t → args[j]? = some v → Value.okWide Try.prog W .any base t v := hval0
  have hW' := hW
  obtain ⟨p, q, hA0, hV, rfl, hfz, hnd⟩ := hW
  have hA : DataW.TrodAll enc Try.prog W 0 (fun _ => true) true Try.f7.params.toList args.toList ds p := hA0
  rw [Try.params7] at hA hval
  obtain ⟨v0, vs0, d0, ds0, p0, q0, hargs, rfl, rfl, h0, r0⟩ := trodAll_cons hA
  obtain ⟨v1, vs1, d1, ds1, p1, q1, rfl, rfl, rfl, h1, r1⟩ := trodAll_cons r0
  obtain ⟨rfl, rfl, rfl⟩ := trodAll_nil r1
  obtain rfl : args = #[v0, v1] := by cases args; simp_all
  obtain ⟨rfl, rfl⟩ := trodVars_none hV
  obtain ⟨a0, rfl, rfl, rfl, w0⟩ := open_int Try.underlying2 (hval 0 2 v0 rfl rfl) h0
  obtain ⟨a1, rfl, rfl, rfl, w1⟩ := open_int Try.underlying2 (hval 1 2 v1 rfl rfl) h1
  clear hA0 hval0 hsz0
  refine (law a0 a1 W (in64 w0) (in64 w1)).mono fun e W' ⟨he, bel⟩ => ?_
  subst he
  exact ⟨_, rfl, _, _, _, [], _, [], hW', trodAll_mk1 (shut_bool Try.underlying4 _), (trodAll_cons_mk (shut_int Try.underlying2 w0) (trodAll_cons_mk (shut_int Try.underlying2 w1) trodAll_mk0)), rfl, bel.frame _, fun h => by cases h⟩
theorem over : Rows.timesOrderRow.holds Try.pinned (OpenSpec.ofChange Rows.timesOrderSpec) :=
  OpenClaim.holds_of_wide 7 Try.f7 rfl rfl rfl rfl rfl rfl rfl ⟨rfl, rfl, rfl, rfl, rfl⟩ rfl rfl rfl rfl rfl (by kernel_rfl) Try.func7 (by kernel_rfl)
    (of_decide_eq_true (by kernel_rfl)) (by unfold Func.isWrapper; first | (rw [if_pos (by decide +kernel)]; kernel_rfl) | (rw [if_neg (by decide +kernel)]; exact ⟨rfl, rfl⟩))
    (fun os started H enc _ => lifted os started H enc)
theorem proved : Rows.TimesOrderSaid := over
#print axioms proved
end Go.Proofs.Ytnnhplakmagbbaa.timesOrder
namespace Go.Proofs.Ytnnhplakmagbbaa
/-- The row, under a short name, for the claim. -/
theorem timesOrder_holds : Rows.TimesOrderSaid := timesOrder.proved
end Go.Proofs.Ytnnhplakmagbbaa
