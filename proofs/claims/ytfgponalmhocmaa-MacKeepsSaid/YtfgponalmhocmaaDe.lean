/- The machine's side of digest.Sum and of the reference's block: what a call comes to. -/
import Derived.Test.YtfgponalmhocmaaDd
import Derived.Test.YtfgponalmhocmaaVc
namespace Go.Proofs.Ytfgponalmhocmaa.D
open Go.RowKit Go.Proofs.YtfgponalmhocmaaW.PrintWords Go.Proofs.YtfgponalmhocmaaW.PrintLast Go.Proofs.YtfgponalmhocmaaW.PrintMore
open Go.Proofs.Ytfgponalmhocmaa.HA Go.Proofs.Ytfgponalmhocmaa.V
set_option linter.unusedVariables false
set_option linter.unusedSimpArgs false

theorem C_block {w : World} {A : Option Addr} {l : List Int} {ad : Addr} (h : Kd.C (Kd.int .u8) w A l.length l) (hl : 0 < l.length) (e : A = some ad) : ad.block < w.heap.size := by
  obtain ⟨ad', h1, h2⟩ := lies_of_C h
  have := h1 hl
  rw [e] at this
  cases this
  exact h2.block_lt hl

set_option maxHeartbeats 2000000 in
set_option maxRecDepth 100000 in
theorem digest_calls (A : Option Addr) (c : Nat) (l : List Int) (w : World) (hC : Kd.C (Kd.int .u8) w A l.length l) (hc : l.length ≤ c) (hb : ∀ x ∈ l, byteOk x) (hs : l.length < 2305843009213693000) :
    Calls Try.prog 15 #[.slice A l.length c] w fun e w' => e = .returned (.agg (u8s (dig l)).toArray) ∧ Below w.heap.size w w' := by
  have HC := Aside0.mk hC
  have HBY := Aside0.mk hb
  have HS := Aside0.mk hs
  clear hC hb hs
  have hz24 := zero24'
  go_enter Try.func15, Try.ntmps15
  go_upto_region 1 with fail
  generalize hw1 : w.alloc _ = w1
  have HR1 : Aside0 (w1.heap[w.heap.size]? = some (.cells (u8s z20).toArray 24 (0, 0))) := ⟨by rw [← hw1]; exact blk_new _ _⟩
  have HB1 : Aside0 (Below w.heap.size w w1) := ⟨by rw [← hw1]; exact below_alloc (Below.refl _ _) _⟩
  have hs1 : w1.heap.size = w.heap.size + 1 := by rw [← hw1]; simp
  clear hw1
  go_upto_region 2 with (go_at_call 17; (with_reducible refine (new_calls _).mono ?_); rintro e w2 ⟨rfl, hg, hb⟩)
  rw [hs1] at hg
  have HG2 := Aside0.mk hg
  have HR2 := Aside0.mk (blk_below HR1.out hb)
  have HB2 := Aside0.mk (below_then HB1.out (by omega) hb)
  have hgl := blk_lt hg
  clear hg hb HR1 HB1
  have hbl := Aside0.mk (below_weaken (Below.refl _ _) (Nat.le_refl _) HB2.out)
  have HC2 : Aside0 (Kd.C (Kd.int .u8) w2 A l.length l) := ⟨Kd.C_below HC.out HB2.out⟩
  have HA2 : Aside0 (0 < l.length → ∀ ad, A = some ad → ad.block ≠ w.heap.size + 1) := ⟨fun h ad e => by have := C_block HC.out h e; omega⟩
  have ha0 := Aside0.mk (show (0 : Int) ≤ 0 ∧ (0 : Int) + l.length < 18446744073709551616 by have := HS.out; omega)
  go_upto_region 3 with (go_at_call 18; (with_reducible refine (write_calls _ [] _ _ 0 0 _ _ _ _ HG2.out Fed.start HC2.out hc HA2.out HBY.out ha0.out).mono ?_); rintro e w3 ⟨rfl, hw, hbt⟩)
  obtain ⟨st, wt, m, hg3, hf3⟩ := hw
  rw [Int.zero_add] at hg3
  rw [List.nil_append] at hf3
  have HG3 := Aside0.mk hg3
  have HF3 := Aside0.mk hf3
  have HR3 := Aside0.mk (blk_but HR2.out hbt (by omega))
  have HB3 := Aside0.mk (below_but HB2.out (by omega) (by omega) hbt)
  have hsz3 := Nat.le_trans (Nat.le_of_lt hgl) hbt.size
  clear hg3 hf3 hbt HR2 HB2 HG2 hbl hgl
  have hsz20 : (u8s (dig l)).toArray.size = 20 := by simp [u8s_len, dig_len]
  go_wp2_with (first
    | (go_at_call 19; (with_reducible refine (sum_calls _ l st wt m _ HG3.out HF3.out HS.out).mono ?_); rintro e w4 ⟨rfl, hb4⟩; have HR4 := Aside0.mk (blk_below HR3.out hb4); have HB4 := Aside0.mk (below_then HB3.out (by omega) hb4); clear hb4)
    | (refine wpList_store_row rfl 24 _ _ rfl w.heap.size _ rfl rfl 24 _ HR4.out (by rw [hsz20]; kernel_rfl) (by rw [hsz20]; kernel_rfl) (all_one (u8s_one _)) ?_)
    | fail)
  have HR5 := Aside0.mk (setRow_heap _ _ _ (u8s (dig l)).toArray _ _ HR4.out)
  have HB5 := Aside0.mk (below_setRow HB4.out (Nat.le_refl _) (u8s (dig l)).toArray)
  exact bodyPost_ret (results_cell_row rfl _ _ w.heap.size 24 _ (0, 0) _ rfl HR5.out Try.underlying24 rfl (by rw [hsz20]; kernel_rfl)) rfl ⟨rfl, HB5.out⟩
end Go.Proofs.Ytfgponalmhocmaa.D
