/- The machine's side of the reference's key: what a call comes to. -/
import Derived.Test.YtfgponalmhocmaaEf
namespace Go.Proofs.Ytfgponalmhocmaa.D
open Go.RowKit Go.Proofs.YtfgponalmhocmaaW.PrintWords Go.Proofs.YtfgponalmhocmaaW.PrintLast Go.Proofs.YtfgponalmhocmaaW.PrintMore
open Go.Proofs.Ytfgponalmhocmaa.HA Go.Proofs.Ytfgponalmhocmaa.V
set_option linter.unusedVariables false
set_option linter.unusedSimpArgs false

theorem refmac20 (A0 : Option Addr) (c0 : Nat) (l0 : List Int) (A1 : Option Addr) (c1 : Nat) (l1 : List Int) (w : World) (hC0 : Kd.C (Kd.int .u8) w A0 l0.length l0) (hc0 : l0.length ≤ c0) (hb0 : ∀ x ∈ l0, byteOk x)
    (hC1 : Kd.C (Kd.int .u8) w A1 20 l1) (h20 : l1.length = 20) (hc1 : 20 ≤ c1) (hb1 : ∀ x ∈ l1, byteOk x) (hs0 : l0.length + 200 < 140737488355328) :
    Calls Try.prog 22 #[.slice A0 l0.length c0, .slice A1 20 c1] w fun e w' => e = .returned (.agg (u8s (hm l0 l1)).toArray) ∧ Below w.heap.size w w' := by
  have := refmac_calls A0 c0 l0 A1 c1 l1 w hC0 hc0 hb0 (by rw [h20]; exact hC1) (by omega) hb1 hs0 (by omega)
  rw [h20] at this
  exact this

set_option maxHeartbeats 4000000 in
set_option maxRecDepth 100000 in
theorem refkey_calls (A0 : Option Addr) (c0 : Nat) (l0 : List Int) (A1 : Option Addr) (c1 : Nat) (l1 : List Int) (rounds : Int) (r L : Nat) (w : World) (hrr : rounds = (r : Int) + 1) (hC0 : Kd.C (Kd.int .u8) w A0 l0.length l0) (hc0 : l0.length ≤ c0) (hb0 : ∀ x ∈ l0, byteOk x)
    (hC1 : Kd.C (Kd.int .u8) w A1 l1.length l1) (hc1 : l1.length ≤ c1) (hb1 : ∀ x ∈ l1, byteOk x) (hs0 : l0.length + 200 < 140737488355328) (hs1 : l1.length + 304 < 140737488355328) (hr : r + 1 ≤ 5000) (hL : L ≤ 1000) :
    Calls Try.prog 25 #[.slice A0 l0.length c0, .slice A1 l1.length c1, .int .i64 rounds, .int .i64 (L : Int)] w (KeyV (pkey l0 l1 r L) w) := by
  have HC0 := Aside0.mk hC0
  have HC1 := Aside0.mk hC1
  have HY0 := Aside0.mk hb0
  have HY1 := Aside0.mk hb1
  clear hC0 hC1 hb0 hb1
  have hz24 := zero24'
  have k1 : ¬ rounds < 1 := by omega
  have k2 : ¬ (5000 : Int) < rounds := by omega
  have k3 : ¬ (L : Int) < 0 := by omega
  have k4 : ¬ (1000 : Int) < (L : Int) := by omega
  go_enter Try.func25, Try.ntmps25
  have HRR := Aside0.mk hrr
  clear hrr
  have hs00 := Aside0.mk hs0
  go_upto_block 0 with fail
  go_cut [10] (fun v12 wr => ∃ A c, v12 = .slice A (20 * ((L + 19) / 20)) c ∧ Aside0 (Kd.R (Kd.int .u8) 5 wr w.heap.size (fun _ => True) (.slice A (20 * ((L + 19) / 20)) c) (blocks l0 l1 r ((L + 19) / 20))) ∧ Aside0 (Below w.heap.size w wr))
  case first =>
    go_wp2_with fail
    go_loopg [10, 11] ((L + 19) / 20) (fun gk v12 v13 wr => ∃ n A c, v12 = .slice A (20 * n) c ∧ v13 = .int .i64 ((n : Int) + 1) ∧ Aside0 (gk + n = (L + 19) / 20) ∧ n ≤ (L + 19) / 20 ∧ Aside0 (Kd.R (Kd.int .u8) 5 wr w.heap.size (fun _ => True) (.slice A (20 * n) c) (blocks l0 l1 r n)) ∧ Aside0 (Below w.heap.size w wr))
    case atStart => exact ⟨0, none, 0, rfl, rfl, ⟨rfl⟩, by omega, ⟨Kd.R_nil _ _ _ _ _⟩, ⟨Below.refl _ _⟩⟩
    case round =>
      obtain ⟨n, A, c, rfl, rfl, hgk, hn, HO, HB⟩ := hrel
      by_cases hnl : n < (L + 19) / 20
      · have i1 : ((20 * n : Nat) : Int) < (L : Int) := by omega
        have i2 : 20 * (n : Int) < (L : Int) := by omega
        have HC1r := Aside0.mk (Kd.C_below HC1.out HB.out)
        have hM0 : Aside0 ((([] : List Int).length + l1.length) * 1 ≤ 140737488355328) := ⟨by simp; omega⟩
        have hM1 : Aside0 ((l1.length + 4) * 1 ≤ 140737488355328) := ⟨by omega⟩
        have hnum : Aside0 (num l1 (n + 1) = l1 ++ [0, 0, ((n : Int) + 1) / 256, ((n : Int) + 1) % 256]) := ⟨by unfold num; rw [show (((n + 1 : Nat) : Int) / 256) % 256 = ((n : Int) + 1) / 256 by omega, show ((n + 1 : Nat) : Int) % 256 = ((n : Int) + 1) % 256 by omega]⟩
        have HC0r := Aside0.mk (Kd.C_below HC0.out HB.out)
        have hs20 : Aside0 (∀ T, T.length = 20 → (Try.prog.info? 24).map (·.size) = some (u8s T).toArray.size) := ⟨fun T h => by rw [List.size_toArray, u8s_len, h]; kernel_rfl⟩
        have hFl : Aside0 ((num l1 (n + 1)).length + 300 < 140737488355328) := ⟨by rw [num_len]; omega⟩
        have hFb := Aside0.mk (num_byte l1 (n + 1) HY1.out)
        have hFl2 := Aside0.mk (num_len l1 (n + 1))
        go_upto_region 10 with (first
          | (refine Kd.R_append_rows (Kd.int .u8) (w0 := wr) wr.heap.size rfl (.tmp 37) (.tmp 38) 22 5 (.int .u8 0) 1 rfl Try.underlying22 info5 rfl (by decide) (by decide) _ [] l1 _ _ _ (fun _ => True) (fun _ => False) rfl rfl (R_litB wr wr.heap.size (Nat.le_refl _)) (Kd.C_below HC1r.out (below_alloc (Below.refl _ _) _)) (fun _ _ h => h) (fun _ h => h.elim) (fun _ _ => trivial) (below_alloc (Below.refl _ _) _) (by simp) hM0.out ?_; intro v1 w5 ho hb hg hat; rw [List.nil_append] at ho; obtain ⟨A5, c5, hx⟩ := Kd.R_slice ho; subst hx; have HO5 := Aside0.mk ho; have HB5 := Aside0.mk hb; clear ho hb hg hat)
          | (refine Kd.R_append_rows (Kd.int .u8) (w0 := wr) wr.heap.size rfl (.tmp 41) (.tmp 48) 22 5 (.int .u8 0) 1 rfl Try.underlying22 info5 rfl (by decide) (by decide) _ l1 [0, 0, ((n : Int) + 1) / 256, ((n : Int) + 1) % 256] _ 4 4 (fun _ => True) (fun _ => False) rfl rfl (Kd.R_alloc HO5.out _) (C_four _ _ _ _ _ _ (blk_new _ _)) (fun _ _ h => h) (fun _ h => h.elim) (fun _ _ => trivial) (below_alloc HB5.out _) (by have := HB5.out.size; simp; omega) hM1.out ?_; intro v1 w6 ho hb hg hat; rw [← hnum.out] at ho; obtain ⟨A6, c6, hx⟩ := Kd.R_slice ho; subst hx; have hc6 := (Kd.R_reads' ho).2.1; have HC6 := Aside0.mk (Kd.R_reads' ho).2.2; have HB6 := Aside0.mk hb; have HC06 := Aside0.mk (Kd.C_below HC0r.out hb); clear ho hb hg hat)
          | (go_at_call 22; (with_reducible refine (refmac_calls A0 c0 l0 A6 c6 (num l1 (n + 1)) _ HC06.out hc0 HY0.out HC6.out hc6 hFb.out hs00.out hFl.out).mono ?_); rintro e w7 ⟨rfl, hb7⟩; have HB7 := Aside0.mk (below_step HB6.out hb7); clear hb7)
          | (refine wpList_store_row rfl 24 _ _ rfl w7.heap.size _ rfl rfl 24 _ (blk_new _ _) (hs20.out _ (hm_len _ _)) (by rw [List.size_toArray, List.size_toArray, u8s_len, u8s_len, hm_len]; rfl) (all_one (u8s_one _)) ?_)
          | (refine wpList_load_row rfl 24 _ rfl w7.heap.size rfl 24 _ (0, 0) _ (setRow_heap _ _ _ _ _ _ (blk_new _ _)) Try.underlying24 rfl (hs20.out _ (hm_len _ _)) ?_)
          | (refine wpList_store_row rfl 24 _ _ rfl (w7.heap.size + 1) _ rfl rfl 24 _ (blk_new_at _ _ _ (by rw [setRow_size]; simp)) (hs20.out _ (hm_len _ _)) (by rw [List.size_toArray, List.size_toArray, u8s_len, u8s_len, hm_len]; rfl) (all_one (u8s_one _)) ?_)
          | fail)
        generalize hF : num l1 (n + 1) = F at *
        replace hF := Aside0.mk hF
        clear HC1r hM0 hM1 hnum HO5 HB5
        generalize hw8 : World.setRow _ _ _ = w8
        have hsU : wr.heap.size ≤ w7.heap.size := HB7.out.size
        generalize hU : w7.heap.size = U at hsU ⊢
        have HU8 : Aside0 (w8.heap[U]? = some (.cells (u8s (uu l0 F 0)).toArray 24 (0, 0))) := ⟨by subst hU; rw [← hw8, setRow_other _ _ _ _ (by omega)]; exact blk_alloc (setRow_heap _ _ _ _ _ _ (blk_new _ _)) _⟩
        have HT8 : Aside0 (w8.heap[U + 1]? = some (.cells (u8s (tt l0 F 0)).toArray 24 (0, 0))) := ⟨by subst hU; rw [← hw8]; exact setRow_heap _ _ _ _ _ _ (blk_new_at _ _ _ (by rw [setRow_size]; simp))⟩
        have HB8 : Aside0 (Below wr.heap.size wr w8) := ⟨by subst hU; rw [← hw8]; exact below_setRow (below_alloc (below_setRow (below_alloc HB7.out _) hsU _) _) (by omega) _⟩
        clear hw8 hU HC6 HB6 HB7
        obtain ⟨wo, rfl⟩ : ∃ wo : World, wo = wr := ⟨_, rfl⟩
        obtain ⟨gO, hgO⟩ : ∃ x, x = gk := ⟨_, rfl⟩
        have hgk : Aside0 (gO + n = (L + 19) / 20) := ⟨by rw [hgO]; exact hgk.out⟩
        replace hgO := Aside0.mk hgO
        have hrb : (1 : Int) ≤ rounds := by omega
        go_upto_block 2 with fail
        go_cut [] (fun wq => Aside0 (wq.heap[U + 1]? = some (.cells (u8s (tt l0 F r)).toArray 24 (0, 0))) ∧ Aside0 (Below wo.heap.size wo wq))
        case first =>
          go_wp2_with fail
          go_loopg [15] r (fun gq v59 wq => ∃ j : Nat, v59 = .int .i64 ((j : Int) + 1) ∧ Aside0 (gq + j = r) ∧ j ≤ r ∧ Aside0 (wq.heap[U]? = some (.cells (u8s (uu l0 F j)).toArray 24 (0, 0))) ∧ Aside0 (wq.heap[U + 1]? = some (.cells (u8s (tt l0 F j)).toArray 24 (0, 0))) ∧ Aside0 (Below wo.heap.size wo wq))
          case atStart => exact ⟨0, rfl, ⟨rfl⟩, by omega, HU8, HT8, HB8⟩
          case round =>
            clear HU8 HT8 HB8
            obtain ⟨j, rfl, hgq, hj, HU, HT, HBq⟩ := hrel
            by_cases hjl : j < r
            · have j1 : (j : Int) + 1 < rounds := by have := HRR.out; omega
              have hul := Aside0.mk (uu_len l0 F j)
              have hub := Aside0.mk (uu_byte l0 F j)
              have hxs := Aside0.mk (fun i => xz_step (tt l0 F j) (uu l0 F (j + 1)) i (tt_len _ _ _) (uu_len _ _ _))
              have hxg := Aside0.mk (fun i => xz_get (tt l0 F j) (uu l0 F (j + 1)) i (tt_len _ _ _) (uu_len _ _ _))
              have hxm := Aside0.mk (fun i => xz_mid_len (tt l0 F j) (uu l0 F (j + 1)) i (tt_len _ _ _) (uu_len _ _ _))
              have hxl := Aside0.mk (xz_len (tt l0 F j) (uu l0 F (j + 1)) (tt_len _ _ _) (uu_len _ _ _))
              have htl := Aside0.mk (tt_len l0 F j)
              have hul2 := Aside0.mk (uu_len l0 F (j + 1))
              have huu : Aside0 (hm l0 (uu l0 F j) = uu l0 F (j + 1)) := ⟨rfl⟩
              have htt : Aside0 (tt l0 F (j + 1) = xz (tt l0 F j) (uu l0 F (j + 1))) := ⟨rfl⟩
              have HCq : Aside0 (Kd.C (Kd.int .u8) wr (some ⟨U, 0, none⟩) 20 (uu l0 F j)) := ⟨by have := C_rowT HU.out (by rw [hul.out]; decide); rw [hul.out] at this; exact this⟩
              have HC0q := Aside0.mk (Kd.C_below HC0r.out HBq.out)
              have hsu := blk_lt HU.out
              have hst := blk_lt HT.out
              go_upto_block 4 with (first
                | (go_at_call 22; (with_reducible refine (refmac20 A0 c0 l0 _ 20 (uu l0 F j) _ HC0q.out hc0 HY0.out HCq.out hul.out (Nat.le_refl _) hub.out hs00.out).mono ?_); rintro e w11 ⟨rfl, hb11⟩; have HU11 := Aside0.mk (blk_below HU.out hb11); have HT11 := Aside0.mk (blk_below HT.out hb11); have HB11 := Aside0.mk (below_step HBq.out hb11); clear hb11)
                | (refine wpList_store_row rfl 24 _ _ rfl U _ rfl rfl 24 _ HU11.out (hs20.out _ (hm_len _ _)) (by rw [List.size_toArray, List.size_toArray, u8s_len, u8s_len, hm_len, hul.out]) (all_one (u8s_one _)) ?_)
                | fail)
              rw [huu.out]
              generalize hw12 : World.setRow _ _ _ = w12
              have HU12 : Aside0 (w12.heap[U]? = some (.cells (u8s (uu l0 F (j + 1))).toArray 24 (0, 0))) := ⟨by rw [← hw12]; exact setRow_heap _ _ _ _ _ _ HU11.out⟩
              have HT12 : Aside0 (w12.heap[U + 1]? = some (.cells (u8s (tt l0 F j)).toArray 24 (0, 0))) := ⟨by rw [← hw12, setRow_other _ _ _ _ (by omega)]; exact HT11.out⟩
              have HB12 : Aside0 (Below wo.heap.size wo w12) := ⟨by rw [← hw12]; exact below_setRow HB11.out hsU _⟩
              clear hw12 HU HT HBq HU11 HT11 HB11 HCq HC0q
              obtain ⟨gM, hgM⟩ : ∃ x, x = gk := ⟨_, rfl⟩
              have hgq : Aside0 (gM + j = r) := ⟨by rw [hgM]; exact hgq.out⟩
              replace hgM := Aside0.mk hgM
              generalize hT0 : tt l0 F j = t0 at *
              generalize hU0 : uu l0 F (j + 1) = u1 at *
              generalize hX0 : xz t0 u1 = x1 at *
              replace hT0 := Aside0.mk hT0
              replace hU0 := Aside0.mk hU0
              replace hX0 := Aside0.mk hX0
              go_wp2_with fail
              go_loopg [16] 20 (fun gp v65 wp => ∃ k : Nat, v65 = .int .i64 k ∧ Aside0 (gp + k = 20) ∧ k ≤ 20 ∧ Aside0 (wp.heap[U]? = some (.cells (u8s u1).toArray 24 (0, 0))) ∧ Aside0 (wp.heap[U + 1]? = some (.cells (u8s (x1.take k ++ t0.drop k)).toArray 24 (0, 0))) ∧ Aside0 (Below wo.heap.size wo wp))
              case atStart => exact ⟨0, rfl, ⟨rfl⟩, by omega, HU12, ⟨by rw [List.take_zero, List.drop_zero, List.nil_append]; exact HT12.out⟩, HB12⟩
              case round =>
                clear HU12 HT12 HB12
                obtain ⟨k, rfl, hgp, hk, HU, HT, HBp⟩ := hrel
                by_cases hkl : k < 20
                · have kk1 : (k : Int) < 20 := by omega
                  have kk0 : (0 : Int) ≤ (k : Int) := by omega
                  have cT : wr.cell? ⟨U + 1, k, none⟩ = some (.int .u8 (t0.getD k 0)) := (blk_cell HT.out k).trans ((u8_get _ _ (by rw [hxm.out k (by omega)]; exact hkl)).trans (by rw [hxg.out k hkl]))
                  have cU : wr.cell? ⟨U, k, none⟩ = some (.int .u8 (u1.getD k 0)) := (blk_cell HU.out k).trans (u8_get _ _ (by rw [hul2.out]; exact hkl))
                  have fT := blk_frozen HT.out k
                  have hstp := Aside0.mk (hxs.out k hkl)
                  generalize t0.getD k 0 = ya at cT hstp
                  generalize u1.getD k 0 = yb at cU hstp
                  go_upto_region 17 with fail
                  go_still_tail 9, (by kernel_rfl)
                  change wpList _ _ _ _ _ wr.drew
                  generalize hwd : wr.drew = w13
                  have HU13 : Aside0 (w13.heap[U]? = some (.cells (u8s u1).toArray 24 (0, 0))) := ⟨by rw [← hwd]; exact HU.out⟩
                  have HT13 : Aside0 (w13.heap[U + 1]? = some (.cells (u8s (x1.take k ++ t0.drop k)).toArray 24 (0, 0))) := ⟨by rw [← hwd]; exact HT.out⟩
                  have HB13 : Aside0 (Below wo.heap.size wo w13) := ⟨by rw [← hwd]; exact below_drew HBp.out⟩
                  have cT3 : w13.cell? ⟨U + 1, k, none⟩ = some (.int .u8 ya) := by rw [← hwd]; exact cT
                  have fT3 := blk_frozen HT13.out k
                  clear hwd cT cU fT HU HT HBp
                  go_wp2_with fail
                  go_roundg (gk - 1)
                  case measure => have := hgp.out; omega
                  case rel =>
                    refine ⟨k + 1, by go_num, ⟨by have := hgp.out; omega⟩, by omega, ⟨blk_far HU13.out (by simp) _⟩, ⟨?_⟩, ⟨below_set HB13.out (by omega)⟩⟩
                    refine blk_put HT13.out _ _ ?_
                    rw [u8_set, hstp.out]
                · have hke := Aside0.mk (show k = 20 by omega)
                  have kk1 : ¬ (k : Int) < 20 := by omega
                  go_wp2_with fail
                  go_roundg (gM - 1)
                  case measure => have := hgq.out; have := hgM.out; omega
                  case rel =>
                    refine ⟨j + 1, by go_num, ⟨by have := hgq.out; omega⟩, by omega, ⟨by rw [hU0.out]; exact HU.out⟩, ⟨?_⟩, HBp⟩
                    rw [htt.out]
                    have := HT.out
                    rw [hke.out, List.take_of_length_le (by rw [hxl.out]; exact Nat.le_refl _), List.drop_of_length_le (by rw [htl.out]; exact Nat.le_refl _), List.append_nil] at this
                    exact this
            · have hje := Aside0.mk (show j = r by omega)
              have j1 : ¬ (j : Int) + 1 < rounds := by have := HRR.out; omega
              go_wp2_with fail
              go_meet
              exact ⟨by rw [← hje.out]; exact HT, HBq⟩
        case rest =>
          clear HU8 HT8 HB8
          obtain ⟨HT, HBq⟩ := hcut
          have htl := Aside0.mk (tt_len l0 F r)
          have hnx : Aside0 (blocks l0 l1 r (n + 1) = blocks l0 l1 r n ++ tt l0 F r) := ⟨by rw [← hF.out]; rfl⟩
          have hbl := Aside0.mk (blocks_len l0 l1 r n)
          have hbl2 := Aside0.mk (blocks_len l0 l1 r (n + 1))
          generalize tt l0 F r = t0 at HT htl hnx
          have HOc := Aside0.mk (Kd.R_below HO.out HBq.out)
          have HBc := Aside0.mk (below_step HB.out HBq.out)
          have HCt : Aside0 (Kd.C (Kd.int .u8) wc (some ⟨U + 1, 0, none⟩) 20 t0) := ⟨by have := C_rowT HT.out (by rw [htl.out]; decide); rw [htl.out] at this; exact this⟩
          have hM2 : Aside0 (((blocks l0 l1 r n).length + 20) * 1 ≤ 140737488355328) := ⟨by rw [hbl.out]; omega⟩
          go_wp2_with (first
            | (refine Kd.R_append_rows (Kd.int .u8) (w0 := w) w.heap.size rfl (.tmp 73) (.tmp 74) 22 5 (.int .u8 0) 1 rfl Try.underlying22 info5 rfl (by decide) (by decide) _ (blocks l0 l1 r n) t0 _ 20 20 (fun _ => True) (fun _ => False) rfl rfl HOc.out HCt.out (fun _ _ h => h) (fun _ h => h.elim) (fun _ _ => trivial) HBc.out HBc.out.size hM2.out ?_; intro v1 w15 ho hb hg hat; rw [← hnx.out] at ho; obtain ⟨A15, c15, hx⟩ := Kd.R_slice ho; subst hx; have HO15 := Aside0.mk ho; have HB15 := Aside0.mk hb; clear ho hb hg hat)
            | fail)
          go_roundg (gO - 1)
          case measure => have := hgk.out; have := hgO.out; omega
          case rel =>
            refine ⟨n + 1, A15, c15, by rw [hbl2.out], by go_num, ⟨by have := hgk.out; omega⟩, by omega, ⟨?_⟩, HB15⟩
            have := HO15.out
            rw [hbl2.out] at this
            exact this
      · have hne := Aside0.mk (show n = (L + 19) / 20 by omega)
        have i1 : ¬ ((20 * n : Nat) : Int) < (L : Int) := by omega
        have i2 : ¬ 20 * (n : Int) < (L : Int) := by omega
        go_wp2_with fail
        go_meet
        exact ⟨A, c, by rw [← hne.out], by rw [← hne.out]; exact HO, HB⟩
  case rest =>
    obtain ⟨A, c, rfl, HO, HB⟩ := hcut
    have hbl := Aside0.mk (blocks_len l0 l1 r ((L + 19) / 20))
    have hpk : Aside0 (pkey l0 l1 r L = (blocks l0 l1 r ((L + 19) / 20)).take L) := ⟨rfl⟩
    have hpl := Aside0.mk (pkey_len l0 l1 r L)
    have hLm : L ≤ 20 * ((L + 19) / 20) := by omega
    generalize 20 * ((L + 19) / 20) = m at *
    generalize blocks l0 l1 r ((L + 19) / 20) = bs at *
    have hr := Kd.R_reads' HO.out
    have HR := Aside0.mk hr.2.2
    have hmc := hr.2.1
    clear hr
    have s1 : (0 : Int) ≤ (L : Int) := by omega
    have s2 : (L : Int) ≤ (c : Int) := by omega
    have HPL : Aside0 (Kd.C (Kd.int .u8) wc A (pkey l0 l1 r L).length (pkey l0 l1 r L)) := ⟨by rw [hpk.out]; exact Kd.C_take HR.out (by rw [hbl.out]; exact hLm)⟩
    have hfin : Aside0 (KeyV (pkey l0 l1 r L) w (.returned (.tuple #[.slice A L c, .bool true])) wc) := ⟨⟨A, c, by rw [hpl.out], by rw [hpl.out]; omega, HPL.out, HB.out⟩⟩
    rcases A with _ | ad
    · obtain ⟨e1, e2⟩ := R_none0 HO.out
      subst e1
      subst e2
      obtain rfl : L = 0 := by omega
      go_wp2_with fail
      go_ret2
      exact hfin.out
    · go_wp2_with fail
      go_ret2
      exact hfin.out
end Go.Proofs.Ytfgponalmhocmaa.D
