/- The machine's side of mac's sum with a key: what a call comes to. -/
import Derived.Test.YtfgponalmhocmaaDe
import Derived.Test.YtfgponalmhocmaaVe
import Derived.Laws.IdiomCopy
namespace Go.Proofs.Ytfgponalmhocmaa.D
open Go.RowKit Go.Proofs.YtfgponalmhocmaaW.PrintWords Go.Proofs.YtfgponalmhocmaaW.PrintLast Go.Proofs.YtfgponalmhocmaaW.PrintMore
open Go.Proofs.Ytfgponalmhocmaa.HA Go.Proofs.Ytfgponalmhocmaa.V
set_option linter.unusedVariables false
set_option linter.unusedSimpArgs false

theorem C_rowT {w : World} {g : Nat} {l : List Int} {t : TypeId} {fr : Nat × Nat} (h : w.heap[g]? = some (.cells (u8s l).toArray t fr)) (hl : l.length ≤ 9223372036854775807) : Kd.C (Kd.int .u8) w (some ⟨g, 0, none⟩) l.length l := by
  refine ⟨rfl, hl, fun _ => ⟨_, rfl, fun j p hj => ⟨[.int .u8 p], rfl, rfl, fun i u hu => ?_⟩⟩⟩
  have hi : i = 0 := by have := (List.getElem?_eq_some_iff.1 hu).1; simp at this; omega
  subst hi
  simp at hu
  subst hu
  have hjl : j < l.length := (List.getElem?_eq_some_iff.1 hj).1
  have e : (⟨g, 0, none⟩ : Addr).add (j * (Kd.int IntKind.u8).sz + 0) = ⟨g, j, none⟩ := by
    show (⟨g, 0, none⟩ : Addr).add (j * 1 + 0) = _
    unfold Addr.add
    split <;> simp_all
  rw [e]
  refine (cell_of_row w g j _ t fr h).trans ((u8_get l j hjl).trans ?_)
  rw [List.getD_eq_getElem?_getD, hj]
  rfl
/-- Bytes copied into a row. -/
theorem copy_u8 {w : World} {g : Nat} {t : TypeId} {cur l : List Int} {A : Option Addr} {c dl dc o : Nat} (hg : w.heap[g]? = some (.cells (u8s cur).toArray t (0, 0))) (hC : Kd.C (Kd.int .u8) w A l.length l) (hd : l.length ≤ dl) (hf : o + l.length ≤ cur.length) :
    (Builtin.copy_ #[22, 22] 3 #[.slice (some ⟨g, o, none⟩) dl dc, .slice A l.length c]).run Try.prog w = .ok (goInt l.length) (w.setRow g (u8s (lay cur o l)).toArray) := by
  have e : ((u8s cur).toArray.toList.take o ++ u8s l ++ (u8s cur).toArray.toList.drop (o + (u8s l).length)).toArray = (u8s (lay cur o l)).toArray := by
    simp [lay, u8s]
  by_cases h0 : l.length = 0
  · have hl : l = [] := List.length_eq_zero_iff.1 h0
    subst hl
    have h1 := run_copy_none (P := Try.prog) w 22 22 3 5 (some ⟨g, o, none⟩) A dl dc 0 c Try.underlying22 (by kernel_rfl) (by simp)
    have h2 : lay cur o [] = cur := by simp [lay]
    rw [h2, setRow_self w g _ t (0, 0) hg]
    exact h1
  · obtain ⟨ad, hAd, hL⟩ := lies_of_C hC
    have hA := hAd (by omega)
    subst hA
    have h1 := run_copy_row (P := Try.prog) w 22 22 3 5 g o dl dc ad l.length c _ t (u8s l) Try.underlying22 (by kernel_rfl) hg (by rw [u8s_len]; exact (Nat.min_eq_left hd).symm)
      (by
        intro j v hj
        have hj2 : j < l.length := by
          have := (List.getElem?_eq_some_iff.1 hj).1
          rwa [u8s_len] at this
        rw [hL j hj2]
        have e2 : (u8s l)[j]? = some (.int .u8 (l.getD j 0)) := by simp [u8s, hj2]
        rw [e2] at hj
        exact hj)
      (by rw [List.size_toArray, u8s_len, u8s_len]; exact hf) (u8s_one _)
    rw [e, u8s_len] at h1
    exact h1
theorem zero46' (W : World) : (zeroValue 46).run Try.prog W = .ok (.agg (u8s z64).toArray) W := by kernel_rfl

set_option maxHeartbeats 2000000 in
set_option maxRecDepth 100000 in
theorem padded_calls (A : Option Addr) (c : Nat) (l : List Int) (w : World) (hC : Kd.C (Kd.int .u8) w A l.length l) (hc : l.length ≤ c) (hb : ∀ x ∈ l, byteOk x) (hs : l.length < 2305843009213693000) :
    Calls Try.prog 37 #[.slice A l.length c] w fun e w' => e = .returned (.agg (u8s (kpad l)).toArray) ∧ Below w.heap.size w w' := by
  have HC := Aside0.mk hC
  have HBY := Aside0.mk hb
  have HS := Aside0.mk hs
  clear hC hb
  have hz24 := zero24'
  have hz46 := zero46'
  have hsz64 : Aside0 ((u8s (kpad l)).toArray.size = 64) := ⟨by simp [u8s_len, kpad_len]⟩
  have hk := kcut_le l
  go_enter Try.func37, Try.ntmps37
  go_upto_if 7 with fail
  generalize hw1 : World.alloc _ _ = w1
  have HR1 : Aside0 (w1.heap[w.heap.size]? = some (.cells (u8s z64).toArray 46 (0, 0))) := ⟨by rw [← hw1]; exact blk_alloc (blk_new _ _) _⟩
  have HK1 : Aside0 (w1.heap[w.heap.size + 1]? = some (.cells (u8s z64).toArray 46 (0, 0))) := ⟨by rw [← hw1]; exact blk_new_at _ _ _ (by simp)⟩
  have HB1 : Aside0 (Below w.heap.size w w1) := ⟨by rw [← hw1]; exact below_alloc (below_alloc (Below.refl _ _) _) _⟩
  have hs1 : w.heap.size + 2 ≤ w1.heap.size := by rw [← hw1]; simp
  clear hw1
  have HC1 := Aside0.mk (Kd.C_below HC.out HB1.out)
  go_cut [0] (fun v0 wr => ∃ A' c', v0 = .slice A' (kcut l).length c' ∧ Aside0 (Kd.C (Kd.int .u8) wr A' (kcut l).length (kcut l)) ∧ Aside0 (wr.heap[w.heap.size]? = some (.cells (u8s z64).toArray 46 (0, 0))) ∧ Aside0 (wr.heap[w.heap.size + 1]? = some (.cells (u8s z64).toArray 46 (0, 0))) ∧ Aside0 (Below w.heap.size w wr))
  case first =>
    by_cases h64 : 64 < l.length
    · have k1 : (64 : Int) < (l.length : Int) := by omega
      have hd := Aside0.mk (show kcut l = dig l by unfold kcut; rw [if_pos h64])
      have hdl := Aside0.mk (dig_len l)
      have hsz20 : Aside0 ((u8s (dig l)).toArray.size = 20) := ⟨by simp [u8s_len, dig_len]⟩
      go_wp2_with (first
        | (go_at_call 15; (with_reducible refine (digest_calls _ _ l _ HC1.out hc HBY.out HS.out).mono ?_); rintro e w2 ⟨rfl, hb2⟩; have HR2 := Aside0.mk (blk_below HR1.out hb2); have HK2 := Aside0.mk (blk_below HK1.out hb2); have HB2 := Aside0.mk (below_then HB1.out (Nat.le_trans (Nat.le_add_right _ 2) hs1) hb2); clear hb2)
        | (refine wpList_store_row rfl 24 _ _ rfl w2.heap.size _ rfl rfl 24 _ (blk_new _ _) (by rw [hsz20.out]; kernel_rfl) (by rw [hsz20.out]; kernel_rfl) (all_one (u8s_one _)) ?_)
        | fail)
      have h2 := HB2.out.size
      have hr := blk_lt HR2.out
      have hk := blk_lt HK2.out
      go_meet
      rw [hd.out]
      refine ⟨some ⟨w2.heap.size, 0, none⟩, 20, by rw [hdl.out], ⟨C_rowT (setRow_heap _ _ _ _ _ _ (blk_new w2 (.cells (u8s z20).toArray 24))) (by rw [hdl.out]; decide)⟩, ⟨?_⟩, ⟨?_⟩, ⟨below_setRow (below_alloc HB2.out _) h2 _⟩⟩
      · rw [setRow_other _ _ _ _ (by omega)]; exact blk_alloc HR2.out _
      · rw [setRow_other _ _ _ _ (by omega)]; exact blk_alloc HK2.out _
    · have k1 : ¬ (64 : Int) < (l.length : Int) := by omega
      have hd := Aside0.mk (show kcut l = l by unfold kcut; rw [if_neg h64])
      go_wp2_with fail
      go_meet
      rw [hd.out]
      exact ⟨A, c, rfl, HC1, HR1, HK1, HB1⟩
  case rest =>
    clear HR1 HK1 HB1 HC1 HC
    obtain ⟨A', c', rfl, HC, HR, HK, HB⟩ := hcut
    have hcp := copy_u8 (w := wc) (g := w.heap.size + 1) (dl := 64) (dc := 64) (o := 0) (c := c') HK.out HC.out hk (by simp [z64]; omega)
    have hlz : Aside0 (lay z64 0 (kcut l) = kpad l) := ⟨lay_zero l⟩
    rw [hlz.out] at hcp
    go_upto_region 6 with fail
    have HK2 := Aside0.mk (setRow_heap _ _ _ (u8s (kpad l)).toArray _ _ HK.out)
    have HR2 : Aside0 ((wc.setRow (w.heap.size + 1) (u8s (kpad l)).toArray).heap[w.heap.size]? = some (.cells (u8s z64).toArray 46 (0, 0))) := ⟨by rw [setRow_other _ _ _ _ (by omega)]; exact HR.out⟩
    have HB2 := Aside0.mk (below_setRow HB.out (Nat.le_succ _) (u8s (kpad l)).toArray)
    clear hcp
    generalize World.setRow _ _ _ = w4 at HK2 HR2 HB2 ⊢
    go_wp2_with (first
      | (refine wpList_load_row rfl 46 _ rfl (w.heap.size + 1) rfl 46 _ (0, 0) _ HK2.out Try.underlying46 rfl (by rw [hsz64.out]; kernel_rfl) ?_)
      | (refine wpList_store_row rfl 46 _ _ rfl w.heap.size _ rfl rfl 46 _ HR2.out (by rw [hsz64.out]; kernel_rfl) (by rw [hsz64.out]; kernel_rfl) (all_one (u8s_one _)) ?_)
      | fail)
    have HR5 := Aside0.mk (setRow_heap _ _ _ (u8s (kpad l)).toArray _ _ HR2.out)
    have HB5 := Aside0.mk (below_setRow HB2.out (Nat.le_refl _) (u8s (kpad l)).toArray)
    exact bodyPost_ret (results_cell_row rfl _ _ w.heap.size 46 _ (0, 0) _ rfl HR5.out Try.underlying46 rfl (by rw [hsz64.out]; kernel_rfl)) rfl ⟨rfl, HB5.out⟩
end Go.Proofs.Ytfgponalmhocmaa.D
