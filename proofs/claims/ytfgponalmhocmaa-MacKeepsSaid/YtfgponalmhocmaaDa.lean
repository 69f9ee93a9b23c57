/- The machine's side of digest.words: what a call comes to. -/
import Derived.Test.YtfgponalmhocmaaHAx
import Derived.Test.YtfgponalmhocmaaBa
import Derived.Outline
import Derived.Deep.DeepCutAuto
import Derived.Deep.QuietTactic
import Derived.BigQuiet
import Derived.StillTailTactics
import Derived.Deep.RegionHeld3
import Derived.Laws.CopyOwn
namespace Go.Proofs.Ytfgponalmhocmaa.D
open Go.RowKit Go.Proofs.YtfgponalmhocmaaW.PrintWords Go.Proofs.YtfgponalmhocmaaW.PrintLast Go.Proofs.YtfgponalmhocmaaW.PrintMore
open Go.Proofs.Ytfgponalmhocmaa.HA Go.Proofs.Ytfgponalmhocmaa.V
set_option linter.unusedVariables false
set_option linter.unusedSimpArgs false

theorem hbd_get (wt : List Int) (h : ∀ x ∈ wt, byteOk x) (i : Nat) : 0 ≤ wt.getD i 0 ∧ wt.getD i 0 < 256 := by
  by_cases c : i < wt.length
  · have e : wt.getD i 0 = wt[i] := by simp [List.getD, List.getElem?_eq_getElem c]
    rw [e]; exact h _ (List.getElem_mem c)
  · have e : wt.getD i 0 = 0 := by simp [List.getD, List.getElem?_eq_none (show wt.length ≤ i by omega)]
    rw [e]; omega
theorem pow_le_3 (k : Nat) (h : k < 4) : (256 : Int) ^ k ≤ 256 ^ 3 := by
  rcases (show k = 0 ∨ k = 1 ∨ k = 2 ∨ k = 3 by omega) with rfl | rfl | rfl | rfl <;> decide
theorem app_zero (l : List Int) (t n : Nat) (h : l.length = t) : (l ++ List.replicate n 0).getD t 0 = 0 := by
  subst h
  simp only [List.getD_eq_getElem?_getD, List.getElem?_append_right (Nat.le_refl _), Nat.sub_self]
  cases n <;> simp [List.replicate_succ]
theorem zero58 (W : World) : (zeroValue 58).run Try.prog W = .ok (.agg (u32s (List.replicate 80 0)).toArray) W := by kernel_rfl
theorem zero24 (W : World) : (zeroValue 24).run Try.prog W = .ok (.agg (u8s (List.replicate 20 0)).toArray) W := by kernel_rfl
theorem rot_calls (x n : Int) (w : World) (h0 : 0 ≤ n) (h1 : n < 32) : Calls Try.prog 36 #[.int .u32 x, .int .i64 n] w fun e w' => e = .returned (.int .u32 (rot x n)) ∧ Drawn0 w w' := by
  refine bits_RotateLeft32.calls x n _ w ?_
  unfold bits_RotateLeft32.f rot
  have e1 : IntKind.u64.wrap n = n := by rw [IntKind.wrap_u64]; omega
  have e2 : Go.bits .and .u64 n 31 = n := by
    rw [u64_and _ _ (by omega) (by omega) (by omega) (by omega)]
    obtain ⟨k, rfl⟩ := Int.eq_ofNat_of_zero_le h0
    have : ((31 : Int)).toNat = 31 := rfl
    rw [this, Int.toNat_natCast, nat_mask5]
    omega
  have e3 : IntKind.u64.wrap (32 - n) = 32 - n := by rw [IntKind.wrap_u64]; omega
  rw [e1, e2, e3, if_pos h0, if_pos (by omega)]

theorem rot_still (x : Int) (w : World) : Calls Try.prog 36 #[.int .u32 x, .int .i64 1] w fun e w' => e = .returned (.int .u32 (rot x 1)) ∧ w' = w := by
  have e2 : Go.bits .and .u64 1 31 = 1 := by decide +kernel
  go_enter Try.func36, Try.ntmps36
  go_wp2_with fail
  go_ret
  refine ⟨?_, rfl⟩
  congr 2

set_option maxHeartbeats 4000000 in
set_option maxRecDepth 100000 in
theorem words_calls (g : Nat) (st wt : List Int) (m a : Int) (w : World) (H : w.heap[g]? = some (.cells (hrow st wt m a) 49 (0, 0))) (h5 : st.length = 5) (h64 : wt.length = 64) (hb : ∀ x ∈ wt, byteOk x) :
    Calls Try.prog 34 #[.pointer (some ⟨g, 5, none⟩)] w fun e w' => e = .returned (.agg (u32s (wds wt 80)).toArray) ∧ Below w.heap.size w w' := by
  have HG := Aside0.mk H
  have hgl := blk_lt H
  have HBY := Aside0.mk hb
  have HL5 := Aside0.mk h5
  have HL64 := Aside0.mk h64
  clear H hb h5 h64
  have hz := zero58
  go_enter Try.func34, Try.ntmps34
  go_upto_region 1 with fail
  go_cut [3] (fun v3 wr => v3 = .pointer (some ⟨w.heap.size + 1, 0, none⟩) ∧ Aside0 (wr.heap[w.heap.size + 1]? = some (.cells (u32s (List.replicate 80 0)).toArray 58 (0, 0))) ∧ Aside0 (wr.heap[w.heap.size]? = some (.cells (u32s (List.replicate 80 0)).toArray 58 (0, 0))) ∧ Aside0 (wr.heap[g]? = some (.cells (hrow st wt m a) 49 (0, 0))) ∧ Aside0 (Below w.heap.size w wr))
  case first =>
    go_wp2_with fail
    go_meet
    exact ⟨rfl, ⟨blk_new_at _ _ _ (by simp)⟩, ⟨blk_alloc (blk_new _ _) _⟩, ⟨blk_alloc (blk_alloc HG.out _) _⟩, ⟨below_alloc (below_alloc (Below.refl _ _) _) _⟩⟩
  case rest =>
    obtain ⟨rfl, HW, HR, HG, HB⟩ := hcut
    go_upto_block 0 with fail
    go_cut [7] (fun v7 wr => Aside0 (wr.heap[w.heap.size + 1]? = some (.cells (u32s (wds wt 16 ++ List.replicate 64 0)).toArray 58 (0, 0))) ∧ Aside0 (wr.heap[w.heap.size]? = some (.cells (u32s (List.replicate 80 0)).toArray 58 (0, 0))) ∧ Aside0 (wr.heap[g]? = some (.cells (hrow st wt m a) 49 (0, 0))) ∧ Aside0 (Below w.heap.size w wr))
    case first =>
      go_wp2_with fail
      go_loopg [7] 16 (fun gk v7 wr => ∃ t : Nat, v7 = .int .i64 t ∧ Aside0 (gk + t = 16) ∧ t ≤ 16 ∧ Aside0 (wr.heap[w.heap.size + 1]? = some (.cells (u32s (wds wt t ++ List.replicate (80 - t) 0)).toArray 58 (0, 0))) ∧ Aside0 (wr.heap[w.heap.size]? = some (.cells (u32s (List.replicate 80 0)).toArray 58 (0, 0))) ∧ Aside0 (wr.heap[g]? = some (.cells (hrow st wt m a) 49 (0, 0))) ∧ Aside0 (Below w.heap.size w wr))
      case atStart => exact ⟨0, rfl, ⟨rfl⟩, by omega, HW, HR, HG, HB⟩
      case round =>
        clear HW HR HG HB
        obtain ⟨t, rfl, hgk, ht, HW, HR, HG, HB⟩ := hrel
        by_cases htl : t < 16
        · obtain ⟨gO, hgO⟩ : ∃ x, x = gk := ⟨_, rfl⟩
          have hgk : Aside0 (gO + t = 16) := ⟨by rw [hgO]; exact hgk.out⟩
          have hgO := Aside0.mk hgO
          have hd16 : decide ((t : Int) < 16) = true := by simp; omega
          go_wp2_with fail
          go_loopg [10] 4 (fun gq v10 wq => ∃ k : Nat, v10 = .int .i64 k ∧ Aside0 (gq + k = 4) ∧ k ≤ 4 ∧ Aside0 (wq.heap[w.heap.size + 1]? = some (.cells (u32s (wds wt t ++ hpart wt t k :: List.replicate (79 - t) 0)).toArray 58 (0, 0))) ∧ Aside0 (wq.heap[w.heap.size]? = some (.cells (u32s (List.replicate 80 0)).toArray 58 (0, 0))) ∧ Aside0 (wq.heap[g]? = some (.cells (hrow st wt m a) 49 (0, 0))) ∧ Aside0 (Below w.heap.size w wq))
          case atStart => exact ⟨0, rfl, ⟨rfl⟩, by omega, ⟨by rw [show hpart wt t 0 :: List.replicate (79 - t) 0 = List.replicate (80 - t) 0 by rw [show 80 - t = (79 - t) + 1 by omega, List.replicate_succ]; rfl]; exact HW.out⟩, HR, HG, HB⟩
          case round =>
            clear HW HR HG HB
            obtain ⟨k, rfl, hgq, hk, HW, HR, HG, HB⟩ := hrel
            by_cases hkl : k < 4
            · have hp := hpart_bd wt HBY.out t k
              have cW : wr.cell? ⟨w.heap.size + 1, t, none⟩ = some (.int .u32 (hpart wt t k)) := (blk_cell HW.out t).trans ((u32_get _ t (by simp [wds_len])).trans (by simp [wds_len]))
              have cG : wr.cell? ⟨g, 5 + (4 * t + k), none⟩ = some (.int .u8 (wt.getD (4 * t + k) 0)) := (blk_cell HG.out _).trans (hrow_wt st wt m a HL5.out _ _ rfl (by have := HL64.out; omega))
              have fW := blk_frozen HW.out t
              have hs1 : IntKind.i64.wrap (4 * (t : Int)) = 4 * (t : Int) := IntWalk.i64_in _ (by omega)
              have hs2 : IntKind.i64.wrap (4 * (t : Int) + (k : Int)) = 4 * (t : Int) + (k : Int) := IntWalk.i64_in _ (by omega)
              have hs3 : (4 * (t : Int) + (k : Int)).toNat = 4 * t + k := by omega
              have hs4 : (0 : Int) ≤ 4 * (t : Int) + (k : Int) := by omega
              have hs5 : 4 * (t : Int) + (k : Int) < 64 := by omega
              have hs6 : (t : Int) < 80 := by omega
              have hs7 : (0 : Int) ≤ (t : Int) := by omega
              have hs8 : ((t : Int)).toNat = t := by omega
              go_wp2_with fail
              go_still_tail 16, (by kernel_rfl)
              change wpList _ _ _ _ _ wr.drew
              generalize hwd : wr.drew = w2
              have HW2 : Aside0 (w2.heap[w.heap.size + 1]? = some (.cells (u32s (wds wt t ++ hpart wt t k :: List.replicate (79 - t) 0)).toArray 58 (0, 0))) := ⟨by rw [← hwd]; exact HW.out⟩
              have HR2 : Aside0 (w2.heap[w.heap.size]? = some (.cells (u32s (List.replicate 80 0)).toArray 58 (0, 0))) := ⟨by rw [← hwd]; exact HR.out⟩
              have HG2 : Aside0 (w2.heap[g]? = some (.cells (hrow st wt m a) 49 (0, 0))) := ⟨by rw [← hwd]; exact HG.out⟩
              have HB2 : Aside0 (Below w.heap.size w w2) := ⟨by rw [← hwd]; exact below_drew HB.out⟩
              have cW2 : w2.cell? ⟨w.heap.size + 1, t, none⟩ = some (.int .u32 (hpart wt t k)) := by rw [← hwd]; exact cW
              have cG2 : w2.cell? ⟨g, 5 + (4 * t + k), none⟩ = some (.int .u8 (wt.getD (4 * t + k) 0)) := by rw [← hwd]; exact cG
              have fW2 := blk_frozen HW2.out t
              clear hwd HW HR HG HB cW cG fW
              go_wp2_with fail
              go_roundg (gk - 1)
              case measure => have := hgq.out; omega
              case rel =>
                refine ⟨k + 1, by go_num, ⟨by have := hgq.out; omega⟩, by omega, ⟨?_⟩, ⟨blk_far HR2.out (by simp) _⟩, ⟨blk_far HG2.out (by simp; omega) _⟩, ⟨below_set HB2.out (by omega)⟩⟩
                have hbb : 0 ≤ wt.getD (4 * t + k) 0 ∧ wt.getD (4 * t + k) 0 < 256 := hbd_get wt HBY.out _
                have hpX : hpart wt t k < 16777216 := by
                  have h4 : (256 : Int) ^ k ≤ 256 ^ 3 := pow_le_3 k (by omega)
                  have : (256 : Int) ^ 3 = 16777216 := rfl
                  omega
                refine blk_put HW2.out t _ ?_
                rw [u32_set]
                congr 1
                have e0 : wt[4 * t + k]?.getD 0 = wt.getD (4 * t + k) 0 := by simp [List.getD]
                rw [e0, show wt.getD (4 * t + k) 0 % 4294967296 = wt.getD (4 * t + k) 0 by omega, or_byte _ _ ⟨hp.1, hpX⟩ hbb]
                rw [List.set_append_right _ _ (by rw [wds_len]; omega), wds_len, Nat.sub_self]
                rfl
            · have hk4 := Aside0.mk (show k = 4 by omega)
              go_wp2_with fail
              go_roundg (gO - 1)
              case measure => have := hgk.out; have := hgO.out; omega
              case rel => exact ⟨t + 1, by go_num, ⟨by have := hgk.out; omega⟩, by omega, ⟨by rw [show wds wt (t + 1) ++ List.replicate (80 - (t + 1)) 0 = wds wt t ++ hpart wt t k :: List.replicate (79 - t) 0 by rw [hk4.out, hpart_four wt (wds wt t) t htl]; simp [wds]]; exact HW.out⟩, HR, HG, HB⟩
        · have ht16 := Aside0.mk (show t = 16 by omega)
          go_wp2_with fail
          go_meet
          exact ⟨⟨by have := HW.out; rw [ht16.out] at this; exact this⟩, HR, HG, HB⟩
    case rest =>
      obtain ⟨HW, HR, HG, HB⟩ := hcut
      go_upto_block 4 with fail
      go_cut [6] (fun v6 wr => Aside0 (wr.heap[w.heap.size + 1]? = some (.cells (u32s (wds wt 80)).toArray 58 (0, 0))) ∧ Aside0 (wr.heap[w.heap.size]? = some (.cells (u32s (List.replicate 80 0)).toArray 58 (0, 0))) ∧ Aside0 (wr.heap[g]? = some (.cells (hrow st wt m a) 49 (0, 0))) ∧ Aside0 (Below w.heap.size w wr))
      case first =>
        go_wp2_with fail
        go_loopg [6] 80 (fun gk v6 wr => ∃ t : Nat, v6 = .int .i64 t ∧ Aside0 (gk + t = 96) ∧ t ≤ 80 ∧ 16 ≤ t ∧ Aside0 (wr.heap[w.heap.size + 1]? = some (.cells (u32s (wds wt t ++ List.replicate (80 - t) 0)).toArray 58 (0, 0))) ∧ Aside0 (wr.heap[w.heap.size]? = some (.cells (u32s (List.replicate 80 0)).toArray 58 (0, 0))) ∧ Aside0 (wr.heap[g]? = some (.cells (hrow st wt m a) 49 (0, 0))) ∧ Aside0 (Below w.heap.size w wr))
        case atStart => exact ⟨16, rfl, ⟨rfl⟩, by omega, by omega, HW, HR, HG, HB⟩
        case round =>
          clear HW HR HG HB
          obtain ⟨t, rfl, hgk, ht, ht16, HW, HR, HG, HB⟩ := hrel
          by_cases htl : t < 80
          · have cW (i : Nat) (hi : i < t) : wr.cell? ⟨w.heap.size + 1, i, none⟩ = some (.int .u32 ((wds wt t).getD i 0)) := (blk_cell HW.out i).trans ((u32_get _ i (by simp [wds_len]; omega)).trans (by simp [List.getD, List.getElem?_append_left (show i < (wds wt t).length by rw [wds_len]; omega)]))
            have c3 := cW (t - 3) (by omega)
            have c8 := cW (t - 8) (by omega)
            have c14 := cW (t - 14) (by omega)
            have c16 := cW (t - 16) (by omega)
            clear cW
            have fW := blk_frozen HW.out t
            have s3 : IntKind.i64.wrap ((t : Int) - 3) = (t : Int) - 3 := IntWalk.i64_in _ (by omega)
            have s8 : IntKind.i64.wrap ((t : Int) - 8) = (t : Int) - 8 := IntWalk.i64_in _ (by omega)
            have s14 : IntKind.i64.wrap ((t : Int) - 14) = (t : Int) - 14 := IntWalk.i64_in _ (by omega)
            have s16 : IntKind.i64.wrap ((t : Int) - 16) = (t : Int) - 16 := IntWalk.i64_in _ (by omega)
            have n3 : ((t : Int) - 3).toNat = t - 3 := by omega
            have n8 : ((t : Int) - 8).toNat = t - 8 := by omega
            have n14 : ((t : Int) - 14).toNat = t - 14 := by omega
            have n16 : ((t : Int) - 16).toNat = t - 16 := by omega
            have p3 : (0 : Int) ≤ (t : Int) - 3 := by omega
            have p8 : (0 : Int) ≤ (t : Int) - 8 := by omega
            have p14 : (0 : Int) ≤ (t : Int) - 14 := by omega
            have p16 : (0 : Int) ≤ (t : Int) - 16 := by omega
            have q3 : (t : Int) - 3 < 80 := by omega
            have q8 : (t : Int) - 8 < 80 := by omega
            have q14 : (t : Int) - 14 < 80 := by omega
            have q16 : (t : Int) - 16 < 80 := by omega
            have r3 : (3 : Int) ≤ (t : Int) := by omega
            have r8 : (8 : Int) ≤ (t : Int) := by omega
            have r14 : (14 : Int) ≤ (t : Int) := by omega
            have r16 : (16 : Int) ≤ (t : Int) := by omega
            have qt : (t : Int) < 80 := by omega
            have nt : ((t : Int)).toNat = t := by omega
            go_upto_region 14 with fail
            refine wp_region_still_tail 21 (by kernel_rfl) (by kernel_rfl) ?_
            simp only [List.take_succ_cons, List.take_zero, List.drop_succ_cons, List.drop_zero]
            repeat still_step
            still_call (rot_still _ _)
            refine wpStill_nil ?_
            change wpList _ _ _ _ _ wr.drew
            generalize hwd : wr.drew = w2
            have HW2 : Aside0 (w2.heap[w.heap.size + 1]? = some (.cells (u32s (wds wt t ++ List.replicate (80 - t) 0)).toArray 58 (0, 0))) := ⟨by rw [← hwd]; exact HW.out⟩
            have HR2 : Aside0 (w2.heap[w.heap.size]? = some (.cells (u32s (List.replicate 80 0)).toArray 58 (0, 0))) := ⟨by rw [← hwd]; exact HR.out⟩
            have HG2 : Aside0 (w2.heap[g]? = some (.cells (hrow st wt m a) 49 (0, 0))) := ⟨by rw [← hwd]; exact HG.out⟩
            have HB2 : Aside0 (Below w.heap.size w w2) := ⟨by rw [← hwd]; exact below_drew HB.out⟩
            have cW2 : w2.cell? ⟨w.heap.size + 1, t, none⟩ = some (.int .u32 0) := (blk_cell HW2.out t).trans ((u32_get _ t (by simp [wds_len]; omega)).trans (by rw [app_zero _ _ _ (wds_len wt t)]))
            have fW2 := blk_frozen HW2.out t
            have sp : IntKind.i64.wrap ((t : Int) + 1) = (t : Int) + 1 := IntWalk.i64_in _ (by omega)
            clear hwd HW HR HG HB c3 c8 c14 c16 fW
            go_wp2_with fail
            go_roundg (gk - 1)
            case measure => have := hgk.out; omega
            case rel =>
              refine ⟨t + 1, by go_num, ⟨by have := hgk.out; omega⟩, by omega, by omega, ⟨?_⟩, ⟨blk_far HR2.out (by simp) _⟩, ⟨blk_far HG2.out (by simp; omega) _⟩, ⟨below_set HB2.out (by omega)⟩⟩
              refine blk_put HW2.out t _ ?_
              rw [u32_set]
              congr 1
              rw [List.set_append_right _ _ (by rw [wds_len]; omega), wds_len, Nat.sub_self, show 80 - t = (80 - (t + 1)) + 1 by omega, List.replicate_succ]
              simp only [wds, List.set_cons_zero, List.append_assoc, List.singleton_append]
              congr 2
              simp only [wd, if_neg (show ¬ t < 16 by omega)]
              simp only [List.append_assoc, List.singleton_append, List.getD_eq_getElem?_getD]
          · have ht80 := Aside0.mk (show t = 80 by omega)
            go_wp2_with fail
            go_meet
            exact ⟨⟨by have := HW.out; rw [ht80.out] at this; simpa using this⟩, HR, HG, HB⟩
      case rest =>
        obtain ⟨HW, HR, HG, HB⟩ := hcut
        go_upto_region 15 with fail
        have hsz : (u32s (wds wt 80)).toArray.size = 80 := by simp [u32s_len, wds_len]
        go_wp2_with (first | (refine wpList_load_row rfl 58 _ rfl (w.heap.size + 1) rfl 58 _ (0, 0) _ HW.out Try.underlying58 rfl (by rw [hsz]; kernel_rfl) ?_) | (refine wpList_store_row rfl 58 _ _ rfl w.heap.size _ rfl rfl 58 _ HR.out (by rw [hsz]; kernel_rfl) (by rw [hsz]; simp [u32s_len]) (all_one (u32s_one _)) ?_) | fail)
        have HR2 : Aside0 ((wc.setRow w.heap.size (u32s (wds wt 80)).toArray).heap[w.heap.size]? = some (.cells (u32s (wds wt 80)).toArray 58 (0, 0))) := ⟨setRow_heap _ _ _ _ _ _ HR.out⟩
        have HB2 : Aside0 (Below w.heap.size w (wc.setRow w.heap.size (u32s (wds wt 80)).toArray)) := ⟨below_setRow HB.out (Nat.le_refl _) _⟩
        exact bodyPost_ret (results_cell_row rfl _ _ w.heap.size 58 _ (0, 0) _ rfl HR2.out Try.underlying58 rfl (by rw [hsz]; kernel_rfl)) rfl ⟨rfl, HB2.out⟩
end Go.Proofs.Ytfgponalmhocmaa.D
