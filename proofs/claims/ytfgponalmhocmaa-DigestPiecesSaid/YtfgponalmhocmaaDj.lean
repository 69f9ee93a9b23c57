/- The law of keeping of layer 10: what a call comes to. -/
import Derived.Test.YtfgponalmhocmaaDi
namespace Go.Proofs.Ytfgponalmhocmaa.D
open Go.RowKit Go.Proofs.YtfgponalmhocmaaW.PrintWords Go.Proofs.YtfgponalmhocmaaW.PrintLast Go.Proofs.YtfgponalmhocmaaW.PrintMore
open Go.Proofs.Ytfgponalmhocmaa.HA Go.Proofs.Ytfgponalmhocmaa.V
set_option linter.unusedVariables false
set_option linter.unusedSimpArgs false

theorem R_lit0 (W : World) (b : Nat) (hb : b ≤ W.heap.size) : Kd.R (Kd.int .u8) 5 (W.alloc (.cells #[] 5)) b (fun _ => True) (.slice (some ⟨W.heap.size, 0, none⟩) 0 0) [] :=
  ⟨fun _ _ => trivial, [], ⟨rfl, .inr ⟨W.heap.size, 0, #[], rfl, hb, blk_new _ _, Nat.le_refl _, by decide, rfl, rfl⟩⟩, Reps.none _ _⟩
/-- A row of the call's own: its cells. -/
theorem R_cur {w : World} {b : Nat} {ok : Nat → Prop} {A : Option Addr} {c : Nat} {l : List Int} (h : Kd.R (Kd.int .u8) 5 w b ok (.slice A l.length c) l) (hl : 0 < l.length) :
    ∃ gx cur, A = some ⟨gx, 0, none⟩ ∧ b ≤ gx ∧ w.heap[gx]? = some (.cells cur 5 (0, 0)) ∧ ∀ i, i < l.length → ∃ z, cur[i]? = some (.int .u8 z) := by
  obtain ⟨h0, inner, ⟨h1, h2⟩, hr⟩ := h
  rcases h2 with ⟨e, hn⟩ | ⟨gx, cap, cur, e, hb, hh, hn, hm, hsz, htk⟩
  · omega
  · cases e
    refine ⟨gx, cur, rfl, hb, hh, fun i hi => ?_⟩
    have hC := (Kd.R_reads' (h := ⟨h0, inner, ⟨h1, .inr ⟨gx, c, cur, rfl, hb, hh, hn, hm, hsz, htk⟩⟩, hr⟩)).2.2
    obtain ⟨ad, hAd, hL⟩ := lies_of_C hC
    have := hAd hl
    cases this
    have h3 := hL i hi
    have e2 : (⟨gx, 0, none⟩ : Addr).add i = ⟨gx, i, none⟩ := by unfold Addr.add; split <;> simp_all
    rw [e2, blk_cell hh i] at h3
    exact ⟨_, h3⟩

set_option maxHeartbeats 2000000 in
set_option maxRecDepth 100000 in
theorem keeps_calls (A0 : Option Addr) (c0 : Nat) (l0 : List Int) (A1 : Option Addr) (c1 : Nat) (l1 : List Int) (w : World) (hr0 : Kd.C (Kd.int .u8) w A0 l0.length l0) (hc0 : l0.length ≤ c0) (hr1 : Kd.C (Kd.int .u8) w A1 l1.length l1) (hc1 : l1.length ≤ c1)
    (hb0 : ∀ x ∈ l0, byteOk x) (hb1 : ∀ x ∈ l1, byteOk x) (hs : l0.length + l1.length + 200 < 140737488355328) :
    Calls Try.prog 6 #[.slice A0 l0.length c0, .slice A1 l1.length c1] w fun e w' => e = .returned (.bool true) ∧ Below w.heap.size w w' := by
  have HR0 := Aside0.mk hr0
  have HR1 := Aside0.mk hr1
  have HY0 := Aside0.mk hb0
  have HY1 := Aside0.mk hb1
  clear hr0 hr1 hb0 hb1
  go_enter Try.func6, Try.ntmps6
  go_upto_region 4 with (go_at_call 17; (with_reducible refine (new_calls _).mono ?_); rintro e w1 ⟨rfl, hg, hb⟩; have HG := Aside0.mk hg; have HB := Aside0.mk hb; have hgl := blk_lt hg; clear hg hb)
  have HR0a := Aside0.mk (Kd.C_below (Kd.C_below HR0.out HB.out) (below_alloc (Below.refl _ _) (.cells #[] 5)))
  have HLIT := Aside0.mk (R_lit0 w1 w1.heap.size (Nat.le_refl _))
  have hLM := Aside0.mk (show (([] : List Int).length + l0.length) * 1 ≤ 140737488355328 by simp; omega)
  go_cut [6] (fun v6 wr => ∃ A c, v6 = .slice A l0.length c ∧ Aside0 (Kd.R (Kd.int .u8) 5 wr w1.heap.size (fun _ => True) (.slice A l0.length c) l0) ∧ Aside0 (Below w1.heap.size w1 wr))
  case first =>
    go_wp2_with (first
      | (refine Kd.R_append_rows (Kd.int .u8) (w0 := w1) w1.heap.size rfl (.tmp 11) (.tmp 12) 22 5 (.int .u8 0) 1 rfl Try.underlying22 info5 rfl (by decide) (by decide) _ [] l0 _ _ _ (fun _ => True) (fun _ => False) rfl rfl HLIT.out HR0a.out (fun _ _ h => h) (fun _ h => h.elim) (fun _ _ => trivial) (below_alloc (Below.refl _ _) _) (by simp) hLM.out ?_; intro v1 w2 ho hb hg hat; rw [List.nil_append] at ho; obtain ⟨Ax, cx, hx⟩ := Kd.R_slice ho; subst hx; have HO := Aside0.mk ho; have HB2 := Aside0.mk hb; clear ho hb hg hat)
      | fail)
    go_meet
    exact ⟨Ax, cx, rfl, HO, HB2⟩
  case rest =>
    obtain ⟨A, c, rfl, HO, HB2⟩ := hcut
    have HG2 := Aside0.mk (blk_below HG.out HB2.out)
    have HBw := Aside0.mk (below_step HB.out HB2.out)
    have hs2 := HB2.out.size
    have hC := Kd.R_reads' HO.out
    have hcl := hC.2.1
    have HC2 := Aside0.mk hC.2.2
    have hAg : Aside0 (0 < l0.length → ∀ ad, A = some ad → ad.block ≠ w.heap.size) := ⟨fun _ ad e => by
      subst e
      have := ((Kd.R_bound HO.out).1 ad.block rfl).2.1
      omega⟩
    have HO2 := Aside0.mk (Kd.R_bound HO.out)
    clear hC HR0a HLIT hLM HO
    have ha0 := Aside0.mk (show (0 : Int) ≤ 0 ∧ (0 : Int) + l0.length < 18446744073709551616 by omega)
    go_upto_region 6 with (go_at_call 18; (with_reducible refine (write_calls w.heap.size [] _ _ 0 0 A c l0 _ HG2.out Fed.start HC2.out hcl hAg.out HY0.out ha0.out).mono ?_); rintro e w3 ⟨rfl, hw, hbt⟩)
    obtain ⟨st, wt, m, hg3, hf3⟩ := hw
    rw [Int.zero_add] at hg3
    rw [List.nil_append] at hf3
    have HG3 := Aside0.mk hg3
    have HF3 := Aside0.mk hf3
    have HO3 := Aside0.mk (Kd.R_step HO2.out (fun k hk hlt => hbt.block k hlt (by have := hk.2.1; omega)))
    have HB3 := Aside0.mk (below_but HBw.out (Nat.le_refl _) (by omega) hbt)
    have hs3 := hbt.size
    have HR03 := Aside0.mk (Kd.C_below HR0.out HB3.out)
    have HR13 := Aside0.mk (Kd.C_below HR1.out HB3.out)
    have t1 : (convert 22 9 (.slice A l0.length c)).run Try.prog w3 = .ok (.string (strOfNums l0)) w3 := Kd.C_string Try.underlying22 Try.underlying5 Try.underlying9 (Kd.R_reads' HO3.out).2.2
    have t2 : (convert 22 9 (.slice A0 l0.length c0)).run Try.prog w3 = .ok (.string (strOfNums l0)) w3 := Kd.C_string Try.underlying22 Try.underlying5 Try.underlying9 HR03.out
    clear hg3 hf3 hbt HG2 HO2 HBw HC2 hAg HB HB2 HG
    go_upto_region 8 with fail
    obtain ⟨gx, hAx, hgx, hcx⟩ : ∃ gx, (0 < l0.length → A = some ⟨gx, 0, none⟩) ∧ w1.heap.size ≤ gx ∧ (0 < l0.length → ∃ cur, w3.heap[gx]? = some (.cells cur 5 (0, 0)) ∧ ∀ i, i < l0.length → ∃ z, cur[i]? = some (.int .u8 z)) := by
      by_cases h0 : 0 < l0.length
      · obtain ⟨gx, cur, e, hb, hh, hz⟩ := R_cur HO3.out h0
        exact ⟨gx, fun _ => e, hb, fun _ => ⟨cur, hh, hz⟩⟩
      · exact ⟨w1.heap.size, fun h => absurd h h0, Nat.le_refl _, fun h => absurd h h0⟩
    have HAX := Aside0.mk hAx
    have HCX := Aside0.mk hcx
    clear hAx hcx t1 t2 HO3 HR03
    have hlb : l0.length < 140737488355328 := by omega
    go_upto_block 0 with fail
    generalize hn : l0.length = n at *
    go_cut [] (fun wr => Aside0 (wr.heap[w.heap.size]? = some (.cells (hrow st wt m n) 49 (0, 0))) ∧ Aside0 (Below w.heap.size w wr) ∧ Aside0 (w1.heap.size ≤ wr.heap.size))
    case first =>
      go_wp2_with fail
      go_loopg [24] n (fun gk v24 wr => ∃ i : Nat, v24 = .int .i64 i ∧ Aside0 (gk + i = n) ∧ i ≤ n ∧ Aside0 (0 < n → ∃ cur, wr.heap[gx]? = some (.cells cur 5 (0, 0)) ∧ ∀ i, i < n → ∃ z, cur[i]? = some (.int .u8 z)) ∧ Aside0 (wr.heap[w.heap.size]? = some (.cells (hrow st wt m n) 49 (0, 0))) ∧ Aside0 (Below w.heap.size w wr) ∧ Aside0 (w1.heap.size ≤ wr.heap.size))
      case atStart => exact ⟨0, rfl, ⟨rfl⟩, by omega, HCX, HG3, HB3, ⟨by omega⟩⟩
      case round =>
        clear HCX HG3 HB3
        obtain ⟨i, rfl, hgk, hi, HCX, HG, HB, hsz⟩ := hrel
        by_cases hil : i < n
        · have e := HAX.out (by omega)
          subst e
          obtain ⟨cur, hcur, hz⟩ := HCX.out (by omega)
          obtain ⟨z, hz1⟩ := hz i hil
          have HCU := Aside0.mk hcur
          have HZ := Aside0.mk hz
          clear hcur hz HCX
          have i1 : (i : Int) < (n : Int) := by omega
          have sp : IntKind.i64.wrap ((i : Int) + 1) = (i : Int) + 1 := IntWalk.i64_in _ (by omega)
          have cX : wr.cell? ⟨gx, i, none⟩ = some (.int .u8 z) := (blk_cell HCU.out i).trans hz1
          have fX := blk_frozen HCU.out i
          clear hz1
          go_wp2_with fail
          go_roundg (gk - 1)
          case measure => have := hgk.out; omega
          case rel =>
            refine ⟨i + 1, by go_num, ⟨by have := hgk.out; omega⟩, by omega, ⟨fun _ => ⟨_, blk_put HCU.out i _ rfl, fun j hj => ?_⟩⟩, ⟨blk_far HG.out (by simp; omega) _⟩, ⟨below_set HB.out (by omega)⟩, ⟨by simpa [World.setCell] using hsz.out⟩⟩
            obtain ⟨zj, hzj⟩ := HZ.out j hj
            by_cases hji : i = j
            · subst hji
              exact ⟨_, Array.getElem?_setIfInBounds_self_of_lt (Array.getElem?_eq_some_iff.1 hzj).1⟩
            · exact ⟨zj, by rw [Array.getElem?_setIfInBounds_ne hji]; exact hzj⟩
        · have i1 : ¬ (i : Int) < (n : Int) := by omega
          have i2 : decide ((i : Int) < (n : Int)) = false := by simp; omega
          go_wp2_with fail
          go_meet
          exact ⟨HG, HB, hsz⟩
    case rest =>
      clear HCX HG3 HB3 HAX
      obtain ⟨HG, HB, hsz⟩ := hcut
      subst hn
      have HR1c := Aside0.mk (Kd.C_below HR1.out HB.out)
      have hA1 : Aside0 (0 < l1.length → ∀ ad, A1 = some ad → ad.block ≠ w.heap.size) := ⟨fun h ad e => by have := C_block HR1.out h e; omega⟩
      have ha1 := Aside0.mk (show (0 : Int) ≤ (l0.length : Int) ∧ (l0.length : Int) + l1.length < 18446744073709551616 by omega)
      go_upto_region 14 with (go_at_call 18; (with_reducible refine (write_calls w.heap.size l0 _ _ m _ A1 c1 l1 _ HG.out HF3.out HR1c.out hc1 hA1.out HY1.out ha1.out).mono ?_); rintro e w5 ⟨rfl, hw, hbt⟩)
      obtain ⟨st5, wt5, m5, hg5, hf5⟩ := hw
      have hlen : (l0.length : Int) + (l1.length : Int) = ((l0 ++ l1).length : Int) := by simp
      rw [hlen] at hg5
      have HG5 := Aside0.mk hg5
      have HF5 := Aside0.mk hf5
      have HB5 := Aside0.mk (below_but HB.out (Nat.le_refl _) (by have := HB.out.size; omega) hbt)
      clear hg5 hf5 hbt HG HB HR1c hlen HF3
      have heq := fun W => eq_u8s (dig (l0 ++ l1)) (dig (l0 ++ l1)) (dig_len _) (dig_len _) W
      have hbb := Aside0.mk (show ∀ x ∈ l0 ++ l1, byteOk x from fun x hx => (List.mem_append.1 hx).elim (HY0.out x) (HY1.out x))
      have hll := Aside0.mk (show (l0 ++ l1).length = l0.length + l1.length by simp)
      have hM1 := Aside0.mk (show (([] : List Int).length + l0.length) * 1 ≤ 140737488355328 by simp; omega)
      have hM2 := Aside0.mk (show (l0.length + l1.length) * 1 ≤ 140737488355328 by omega)
      go_wp2_with (first
        | (go_at_call 14; (with_reducible refine (alive10_calls _).mono ?_); rintro e w6 ⟨rfl, hb6⟩; have HG6 := Aside0.mk (blk_below HG5.out hb6); have HB6 := Aside0.mk (below_step HB5.out hb6); clear hb6)
        | (go_at_call 19; (with_reducible refine (sum_calls _ (l0 ++ l1) st5 wt5 m5 _ HG6.out HF5.out (by rw [hll.out]; omega)).mono ?_); rintro e w7 ⟨rfl, hb7⟩; have HB7 := Aside0.mk (below_step HB6.out hb7); have HR07 := Aside0.mk (Kd.C_below (Kd.C_below HR0.out HB7.out) (below_alloc (Below.refl _ _) (.cells #[] 5))); have HR17 := Aside0.mk (Kd.C_below HR1.out HB7.out); have HLIT := Aside0.mk (R_lit0 w7 w7.heap.size (Nat.le_refl _)); clear hb7)
        | (refine wpList_step (fun K hK => ?_); refine Kd.R_append_rows_step (Kd.int .u8) (w0 := w7) w7.heap.size ?wa (.tmp 43) (.tmp 44) 22 5 (.int .u8 0) 1 rfl Try.underlying22 info5 rfl (by decide) (by decide) _ [] l0 _ _ _ (fun _ => True) (fun _ => False) rfl rfl HLIT.out HR07.out (fun _ _ h => h) (fun _ h => h.elim) (fun _ _ => trivial) (below_alloc (Below.refl _ _) _) (by simp) hM1.out ?_; (case wa => first | rfl | (go_simp; done)); intro v1 w8 ho hb hg hat; refine hK _ _ ?_; clear hK K; rw [List.nil_append] at ho; obtain ⟨Ax, cx, hx⟩ := Kd.R_slice ho; subst hx; have HO8 := Aside0.mk ho; have HB8 := Aside0.mk hb; have HR18 := Aside0.mk (Kd.C_below HR17.out hb); clear ho hb hg hat)
        | (refine wpList_step (fun K hK => ?_); refine Kd.R_append_rows_step (Kd.int .u8) (w0 := w7) w7.heap.size ?wa (.tmp 45) (.tmp 46) 22 5 (.int .u8 0) 1 rfl Try.underlying22 info5 rfl (by decide) (by decide) _ l0 l1 _ _ _ (fun _ => True) (fun _ => False) rfl rfl HO8.out HR18.out (fun _ _ h => h) (fun _ h => h.elim) (fun _ _ => trivial) HB8.out HB8.out.size hM2.out ?_; (case wa => first | rfl | (go_simp; done)); intro v2 w9 ho hb hg hat; refine hK _ _ ?_; clear hK K; obtain ⟨Ay, cy, hx⟩ := Kd.R_slice ho; subst hx; have HO9 := Aside0.mk (Kd.R_reads' ho).2.2; have hcy := (Kd.R_reads' ho).2.1; have HB9 := Aside0.mk (below_step HB7.out hb); clear ho hb hg hat)
        | (go_at_call 16; have hrs := refsum_calls Ay cy (l0 ++ l1) w9 HO9.out hcy hbb.out (by rw [hll.out]; omega); rw [hll.out] at hrs; (with_reducible refine hrs.mono ?_); rintro e w10 ⟨rfl, hb10⟩; have HB10 := Aside0.mk (below_step HB9.out hb10); clear hb10)
        | fail)
      go_ret
      exact ⟨by simp, HB10.out⟩
end Go.Proofs.Ytfgponalmhocmaa.D
