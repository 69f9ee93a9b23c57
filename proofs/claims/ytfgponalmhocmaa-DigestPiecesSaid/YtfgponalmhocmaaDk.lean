/- The law of pieces of layer 10: what a call comes to. -/
import Derived.Test.YtfgponalmhocmaaDj
namespace Go.Proofs.Ytfgponalmhocmaa.D
open Go.RowKit Go.Proofs.YtfgponalmhocmaaW.PrintWords Go.Proofs.YtfgponalmhocmaaW.PrintLast Go.Proofs.YtfgponalmhocmaaW.PrintMore
open Go.Proofs.Ytfgponalmhocmaa.HA Go.Proofs.Ytfgponalmhocmaa.V
set_option linter.unusedVariables false
set_option linter.unusedSimpArgs false

/-- A piece of a row of pieces. -/
theorem piece_at {w : World} {A : Option Addr} {ls : List (List Int)} (h : Kd.C (Kd.slice 5 (Kd.int .u8)) w A ls.length ls) (i : Nat) (hi : i < ls.length) :
    ∃ ad B c, A = some ad ∧ w.cell? (ad.add i) = some (.slice B (ls[i]).length c) ∧ (ls[i]).length ≤ c ∧ Kd.C (Kd.int .u8) w B (ls[i]).length ls[i] := by
  obtain ⟨ad, e, hc⟩ := h.2.2 (by omega)
  obtain ⟨cs, h1, h2, h3⟩ := hc i _ (List.getElem?_eq_getElem hi)
  obtain ⟨B, c, rfl, hl, hC⟩ := h2
  refine ⟨ad, B, c, e, ?_, hl, hC⟩
  have := h3 0 _ rfl
  have hs : (Kd.slice 5 (Kd.int IntKind.u8)).sz = 1 := rfl
  rw [hs] at this
  simpa using this

theorem below_cell {w w1 : World} {a : Addr} {v : Value} (h : w.cell? a = some v) (hb : Below w.heap.size w w1) : w1.cell? a = some v := by
  have := hb.block a.block (World.block_lt_of_cell? w a h)
  unfold World.cell? at h ⊢
  rw [this]
  exact h

set_option maxHeartbeats 2000000 in
set_option maxRecDepth 100000 in
theorem pieces_calls (A : Option Addr) (c : Nat) (ls : List (List Int)) (w : World) (hr : Kd.C (Kd.slice 5 (Kd.int .u8)) w A ls.length ls) (hc : ls.length ≤ c) (hb : ∀ l ∈ ls, ∀ x ∈ l, byteOk x) :
    Calls Try.prog 4 #[.slice A ls.length c] w fun e w' => e = .returned (.bool true) ∧ Below w.heap.size w w' := by
  have HR := Aside0.mk hr
  have HY := Aside0.mk hb
  clear hr hb
  go_enter Try.func4, Try.ntmps4
  go_upto_region 2 with (go_at_call 17; (with_reducible refine (new_calls _).mono ?_); rintro e w1 ⟨rfl, hg, hb⟩; have HG := Aside0.mk hg; have HB := Aside0.mk hb; have hgl := blk_lt hg; clear hg hb)
  by_cases h60 : 60 < ls.length
  · have k1 : (60 : Int) < (ls.length : Int) := by omega
    go_wp2_with (first | (go_at_call 14; (with_reducible refine (alive10_calls _).mono ?_); rintro e w2 ⟨rfl, hb1⟩; have HB1 := Aside0.mk (below_step HB.out hb1); clear hb1) | fail)
    go_ret
    exact ⟨by first | rfl | simp, HB1.out⟩
  · have k1 : ¬ (60 : Int) < (ls.length : Int) := by omega
    go_upto_block 0 with fail
    have HG0 : Aside0 (∃ st wt m, w1.heap[w.heap.size]? = some (.cells (hrow st wt (m : Nat) (([] : List Int).length : Int)) 49 (0, 0)) ∧ Fed [] st wt m) := ⟨_, _, 0, HG.out, Fed.start⟩
    have HL : Aside0 (∀ i, (ls.take i).flatten.length = (ls.take i).flatten.length) := ⟨fun _ => rfl⟩
    go_wp2_with fail
    go_loopg [4, 22] ls.length (fun gk v4 v22 wr => ∃ i : Nat, ∃ all : List Int, ∃ A4 c4, v22 = .int .i64 i ∧ v4 = .slice A4 all.length c4 ∧ Aside0 (gk + i = ls.length) ∧ i ≤ ls.length ∧ Aside0 (∀ x ∈ all, byteOk x) ∧ all.length ≤ 2000 * i ∧ Aside0 (Kd.R (Kd.int .u8) 5 wr w1.heap.size (fun _ => True) (.slice A4 all.length c4) all) ∧ Aside0 (∃ st wt m, wr.heap[w.heap.size]? = some (.cells (hrow st wt (m : Nat) (all.length : Int)) 49 (0, 0)) ∧ Fed all st wt m) ∧ Aside0 (Below w.heap.size w wr) ∧ Aside0 (w1.heap.size ≤ wr.heap.size))
    case atStart => exact ⟨0, [], none, 0, rfl, rfl, ⟨rfl⟩, by omega, ⟨by simp⟩, by simp, ⟨Kd.R_nil _ _ _ _ _⟩, HG0, HB, ⟨Nat.le_refl _⟩⟩
    case round =>
      clear HG HG0 HB HL
      obtain ⟨i, all, A4, c4, rfl, rfl, hgk, hi, HYA, hal, HO, HG, HB, hsz⟩ := hrel
      obtain ⟨st, wt, m, hg, hf⟩ := HG.out
      have HG2 := Aside0.mk hg
      have HF2 := Aside0.mk hf
      clear hg hf HG
      by_cases hil : i < ls.length
      · obtain ⟨ad, B, cB, rfl, cell, hcB, hCB⟩ := piece_at HR.out i hil
        have hBw0 : Aside0 (0 < (ls[i]).length → ∀ ad, B = some ad → ad.block ≠ w.heap.size) := ⟨fun h ad e => by have := C_block hCB h e; omega⟩
        have hCw := Aside0.mk hCB
        replace cell := below_cell cell HB.out
        replace hCB := Kd.C_below hCB HB.out
        have hby : Aside0 (∀ x ∈ ls[i], byteOk x) := ⟨HY.out _ (List.getElem_mem hil)⟩
        have hfl : (ls.take (i + 1)).flatten = (ls.take (i + 1)).flatten := rfl
        clear hfl
        generalize ls[i] = l at cell hcB hCB hby hBw0 hCw
        have i1 : (i : Int) < (ls.length : Int) := by omega
        replace hCB := Aside0.mk hCB
        by_cases hl2 : 2000 < l.length
        · have i2 : (2000 : Int) < (l.length : Int) := by omega
          go_wp2_with (first | (go_at_call 14; (with_reducible refine (alive10_calls _).mono ?_); rintro e w2 ⟨rfl, hb1⟩; have HB1 := Aside0.mk (below_step HB.out hb1); clear hb1) | fail)
          go_ret
          exact ⟨by first | rfl | simp, HB1.out⟩
        · have i2 : ¬ (2000 : Int) < (l.length : Int) := by omega
          have ha0 := Aside0.mk (show (0 : Int) ≤ (all.length : Int) ∧ (all.length : Int) + l.length < 18446744073709551616 by omega)
          go_upto_region 11 with (go_at_call 18; (with_reducible refine (write_calls w.heap.size all st wt m _ B cB l _ HG2.out HF2.out hCB.out hcB hBw0.out hby.out ha0.out).mono ?_); rintro e w3 ⟨rfl, hw, hbt⟩)
          obtain ⟨st3, wt3, m3, hg3, hf3⟩ := hw
          have hlen : (all.length : Int) + (l.length : Int) = ((all ++ l).length : Int) := by simp
          rw [hlen] at hg3
          have HG3 := Aside0.mk hg3
          have HF3 := Aside0.mk hf3
          have HO3 := Aside0.mk (Kd.R_mono (Kd.R_step (Kd.R_bound HO.out) (fun k hk hlt => hbt.block k hlt (by have := hk.2.1; omega))) (fun _ _ => trivial))
          have HB3 := Aside0.mk (below_but HB.out (Nat.le_refl _) (by have := HB.out.size; omega) hbt)
          have hs3 := Aside0.mk (Nat.le_trans hsz.out hbt.size)
          have HC4 : Aside0 (Kd.C (Kd.int .u8) w3 B l.length l) := ⟨Kd.C_below hCw.out HB3.out⟩
          clear hg3 hf3 hbt HG2 HF2 HO HB hsz hlen
          have hM := Aside0.mk (show (all.length + l.length) * 1 ≤ 140737488355328 by omega)
          have hbb := Aside0.mk (show ∀ x ∈ all ++ l, byteOk x from fun x hx => (List.mem_append.1 hx).elim (HYA.out x) (hby.out x))
          have hll := Aside0.mk (show (all ++ l).length = all.length + l.length by simp)
          have heq := fun W => eq_u8s (dig (all ++ l)) (dig (all ++ l)) (dig_len _) (dig_len _) W
          go_wp2_with (first
            | (refine Kd.R_append_rows (Kd.int .u8) (w0 := w3) w1.heap.size rfl (.tmp 33) (.tmp 34) 22 5 (.int .u8 0) 1 rfl Try.underlying22 info5 rfl (by decide) (by decide) _ all l _ _ _ (fun _ => True) (fun _ => False) rfl rfl HO3.out HC4.out (fun _ _ h => h) (fun _ h => h.elim) (fun _ _ => trivial) (Below.refl _ _) hs3.out hM.out ?_; intro v1 w4 ho hb hg hat; obtain ⟨Ax, cx, hx⟩ := Kd.R_slice ho; subst hx; rw [hll.out] at ho; have HO4 := Aside0.mk ho; have HG4 := Aside0.mk ((hb.block _ hgl).trans HG3.out); have HB4 := Aside0.mk (below_weaken HB3.out (Nat.le_of_lt hgl) hb); have hs4 := Aside0.mk (Nat.le_trans hs3.out hb.size); clear ho hb hg hat)
            | (go_at_call 19; (with_reducible refine (sum_calls _ (all ++ l) st3 wt3 m3 _ HG4.out HF3.out (by rw [hll.out]; omega)).mono ?_); rintro e w5 ⟨rfl, hb5⟩; have HO5 := Aside0.mk (Kd.R_below HO4.out hb5); have HG5 := Aside0.mk (blk_below HG4.out hb5); have HB5 := Aside0.mk (below_step HB4.out hb5); have hs5 := Aside0.mk (Nat.le_trans hs4.out hb5.size); clear hb5)
            | (go_at_call 16; have hrs := refsum_calls Ax cx (all ++ l) w5 (Kd.R_reads' (n := (all ++ l).length) (by rw [hll.out]; exact HO5.out)).2.2 (Kd.R_reads' (n := (all ++ l).length) (by rw [hll.out]; exact HO5.out)).2.1 hbb.out (by rw [hll.out]; omega); rw [hll.out] at hrs; (with_reducible refine hrs.mono ?_); rintro e w6 ⟨rfl, hb6⟩; have HO6 := Aside0.mk (Kd.R_below HO5.out hb6); have HG6 := Aside0.mk (blk_below HG5.out hb6); have HB6 := Aside0.mk (below_step HB5.out hb6); have hs6 := Aside0.mk (Nat.le_trans hs5.out hb6.size); clear hb6)
            | fail)
          go_roundg (gk - 1)
          case measure => have := hgk.out; omega
          case rel => exact ⟨i + 1, all ++ l, Ax, cx, by go_num, by rw [hll.out], ⟨by have := hgk.out; omega⟩, by omega, hbb, by rw [hll.out]; omega, ⟨by rw [hll.out]; exact HO6.out⟩, ⟨st3, wt3, m3, HG6.out, HF3.out⟩, HB6, hs6⟩
      · have i1 : ¬ (i : Int) < (ls.length : Int) := by omega
        have i2 : decide ((i : Int) < (ls.length : Int)) = false := by simp; omega
        have heq := fun W => eq_u8s (dig all) (dig all) (dig_len _) (dig_len _) W
        have hall : all.length < 200000 := by omega
        go_wp2_with (first
          | (go_at_call 14; (with_reducible refine (alive10_calls _).mono ?_); rintro e w4 ⟨rfl, hb4⟩; have HO4 := Aside0.mk (Kd.R_below HO.out hb4); have HG4 := Aside0.mk (blk_below HG2.out hb4); have HB4 := Aside0.mk (below_step HB.out hb4); clear hb4)
          | (go_at_call 19; (with_reducible refine (sum_calls _ all st wt m _ HG4.out HF2.out (by omega)).mono ?_); rintro e w5 ⟨rfl, hb5⟩; have HO5 := Aside0.mk (Kd.R_below HO4.out hb5); have HB5 := Aside0.mk (below_step HB4.out hb5); clear hb5)
          | (go_at_call 16; (with_reducible refine (refsum_calls A4 c4 all w5 (Kd.R_reads' HO5.out).2.2 (Kd.R_reads' HO5.out).2.1 HYA.out (by omega)).mono ?_); rintro e w6 ⟨rfl, hb6⟩; have HB6 := Aside0.mk (below_step HB5.out hb6); clear hb6)
          | fail)
        go_ret
        exact ⟨by first | rfl | simp, HB6.out⟩
end Go.Proofs.Ytfgponalmhocmaa.D
