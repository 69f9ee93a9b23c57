/- The machine's side of mac.sum and mac.Sum: what a call comes to. -/
import Derived.Test.YtfgponalmhocmaaEb
namespace Go.Proofs.Ytfgponalmhocmaa.D
open Go.RowKit Go.Proofs.YtfgponalmhocmaaW.PrintWords Go.Proofs.YtfgponalmhocmaaW.PrintLast Go.Proofs.YtfgponalmhocmaaW.PrintMore
open Go.Proofs.Ytfgponalmhocmaa.HA Go.Proofs.Ytfgponalmhocmaa.V
set_option linter.unusedVariables false
set_option linter.unusedSimpArgs false

set_option maxHeartbeats 2000000 in
set_option maxRecDepth 100000 in
theorem sum2_calls (T1 st1 wt1 T2 st2 wt2 : List Int) (m1 m2 : Nat) (A : Option Addr) (c : Nat) (l : List Int) (w : World) (hF1 : Fed T1 st1 wt1 m1) (hF2 : Fed T2 st2 wt2 m2) (hC : Kd.C (Kd.int .u8) w A l.length l) (hc : l.length ≤ c) (hb : ∀ x ∈ l, byteOk x)
    (hs1 : T1.length + l.length < 2305843009213693000) (hs2 : T2.length < 2305843009213692000) :
    Calls Try.prog 30 #[.agg (hrow st1 wt1 m1 T1.length), .agg (hrow st2 wt2 m2 T2.length), .slice A l.length c] w fun e w' => e = .returned (.agg (u8s (dig (T2 ++ dig (T1 ++ l)))).toArray) ∧ Below w.heap.size w w' := by
  have HC := Aside0.mk hC
  have HBY := Aside0.mk hb
  have HF1 := Aside0.mk hF1
  have HF2 := Aside0.mk hF2
  have hz24 := zero24'
  have hsz20 : Aside0 (∀ T, (u8s (dig T)).toArray.size = 20) := ⟨fun T => by simp [u8s_len, dig_len]⟩
  have hlen : Aside0 (((T1.length : Int) + (l.length : Int)) = ((T1 ++ l).length : Int)) := ⟨by simp⟩
  generalize hn1 : (T1.length : Int) = n1 at hlen
  generalize hn2 : (T2.length : Int) = n2
  have a1 := Aside0.mk (show (0 : Int) ≤ n1 ∧ n1 + l.length < 18446744073709551616 by omega)
  have a2 := Aside0.mk (show (0 : Int) ≤ n2 ∧ n2 + (20 : Nat) < 18446744073709551616 by omega)
  have N1 := Aside0.mk hn1
  have N2 := Aside0.mk hn2
  clear hC hb hF1 hF2 hn1 hn2
  go_enter Try.func30, Try.ntmps30
  go_upto_region 1 with fail
  generalize hw1 : World.alloc _ _ = w1
  have HG1 : Aside0 (w1.heap[w.heap.size]? = some (.cells (hrow st1 wt1 m1 n1) 49 (0, 0))) := ⟨by rw [← hw1]; exact blk_alloc (blk_alloc (blk_new _ _) _) _⟩
  have HH1 : Aside0 (w1.heap[w.heap.size + 1]? = some (.cells (hrow st2 wt2 m2 n2) 49 (0, 0))) := ⟨by rw [← hw1]; exact blk_alloc (blk_new_at _ _ _ (by simp)) _⟩
  have HR1 : Aside0 (w1.heap[w.heap.size + 2]? = some (.cells (u8s z20).toArray 24 (0, 0))) := ⟨by rw [← hw1]; exact blk_new_at _ _ _ (by simp)⟩
  have HB1 : Aside0 (Below w.heap.size w w1) := ⟨by rw [← hw1]; exact below_alloc (below_alloc (below_alloc (Below.refl _ _) _) _) _⟩
  clear hw1
  have HC1 := Aside0.mk (Kd.C_below HC.out HB1.out)
  have hA : Aside0 (0 < l.length → ∀ ad, A = some ad → ad.block ≠ w.heap.size) := ⟨fun h ad e => by have := C_block HC.out h e; omega⟩
  go_upto_region 2 with (go_at_call 18; (with_reducible refine (write_calls w.heap.size T1 _ _ _ _ A c l _ HG1.out HF1.out HC1.out hc hA.out HBY.out a1.out).mono ?_); rintro e w2 ⟨rfl, hw, hbt⟩)
  have hb1 := blk_lt HR1.out
  obtain ⟨st3, wt3, m3, hg2, hf2⟩ := hw
  rw [hlen.out] at hg2
  have HG2 := Aside0.mk hg2
  have HFa := Aside0.mk hf2
  have HH2 := Aside0.mk (blk_but HH1.out hbt (by omega))
  have HR2 := Aside0.mk (blk_but HR1.out hbt (by omega))
  have HB2 := Aside0.mk (below_but HB1.out (Nat.le_refl _) HB1.out.size hbt)
  have hs3 : Aside0 ((T1 ++ l).length < 2305843009213693000) := ⟨by rw [List.length_append]; omega⟩
  clear hg2 hf2 hbt HG1 HH1 HR1 HB1 HC1 hA
  go_upto_region 3 with (first
    | (go_at_call 19; (with_reducible refine (sum_calls _ (T1 ++ l) st3 wt3 m3 _ HG2.out HFa.out hs3.out).mono ?_); rintro e w3 ⟨rfl, hb3⟩; have HH3 := Aside0.mk (blk_below HH2.out hb3); have HR3 := Aside0.mk (blk_below HR2.out hb3); have HB3 := Aside0.mk (below_step HB2.out hb3); clear hb3)
    | (refine wpList_store_row rfl 24 _ _ rfl w3.heap.size _ rfl rfl 24 _ (blk_new _ _) (by rw [hsz20.out]; kernel_rfl) (by rw [hsz20.out]; kernel_rfl) (all_one (u8s_one _)) ?_)
    | fail)
  generalize hd1 : dig (T1 ++ l) = d1
  have hd1l : Aside0 (d1.length = 20) := ⟨by rw [← hd1]; exact dig_len _⟩
  have hd1b : Aside0 (∀ x ∈ d1, byteOk x) := ⟨by rw [← hd1]; exact dig_byte _⟩
  replace hd1 := Aside0.mk hd1
  have k1 := blk_lt HH3.out
  have k2 := blk_lt HR3.out
  have k3 := HB3.out.size
  generalize hw4 : World.setRow _ _ _ = w4
  have HH4 : Aside0 (w4.heap[w.heap.size + 1]? = some (.cells (hrow st2 wt2 m2 n2) 49 (0, 0))) := ⟨by rw [← hw4, setRow_other _ _ _ _ (by omega)]; exact blk_alloc HH3.out _⟩
  have HR4 : Aside0 (w4.heap[w.heap.size + 2]? = some (.cells (u8s z20).toArray 24 (0, 0))) := ⟨by rw [← hw4, setRow_other _ _ _ _ (by omega)]; exact blk_alloc HR3.out _⟩
  have HD4 : Aside0 (w4.heap[w3.heap.size]? = some (.cells (u8s d1).toArray 24 (0, 0))) := ⟨by rw [← hw4, ← hd1.out]; exact setRow_heap _ _ _ _ _ _ (blk_new w3 (.cells (u8s z20).toArray 24))⟩
  have HB4 : Aside0 (Below w.heap.size w w4) := ⟨by rw [← hw4]; exact below_setRow (below_alloc HB3.out _) k3 _⟩
  have hs4 : Aside0 (w3.heap.size < w4.heap.size) := ⟨blk_lt HD4.out⟩
  clear hw4 HG2 HH2 HR2 HB2 HH3 HR3 HB3
  have HC4 : Aside0 (Kd.C (Kd.int .u8) w4 (some ⟨w3.heap.size, 0, none⟩) d1.length d1) := ⟨C_rowT HD4.out (by rw [hd1l.out]; decide)⟩
  have hA4 : Aside0 (0 < d1.length → ∀ ad, (some ⟨w3.heap.size, 0, none⟩ : Option Addr) = some ad → ad.block ≠ w.heap.size + 1) := ⟨fun _ ad e => by cases e; simp; omega⟩
  have hwc := write_calls (w.heap.size + 1) T2 _ _ _ _ (some ⟨w3.heap.size, 0, none⟩) 20 d1 w4 HH4.out HF2.out HC4.out (by rw [hd1l.out]; omega) hA4.out hd1b.out (by rw [hd1l.out]; exact a2.out)
  rw [hd1l.out] at hwc
  replace hwc := Aside0.mk hwc
  go_upto_region 4 with (go_at_call 18; (with_reducible refine hwc.out.mono ?_); rintro e w5 ⟨rfl, hw, hbt⟩)
  obtain ⟨st5, wt5, m5, hg5, hf5⟩ := hw
  have hl5 : n2 + ((20 : Nat) : Int) = ((T2 ++ d1).length : Int) := by rw [← N2.out, List.length_append, hd1l.out]; simp
  rw [hl5] at hg5
  have HG5 := Aside0.mk hg5
  have HF5 := Aside0.mk hf5
  have HR5 := Aside0.mk (blk_but HR4.out hbt (by omega))
  have HB5 := Aside0.mk (below_but HB4.out (Nat.le_succ _) (by have := HB4.out.size; omega) hbt)
  have hs5 : Aside0 ((T2 ++ d1).length < 2305843009213693000) := ⟨by rw [List.length_append, hd1l.out]; omega⟩
  clear hg5 hf5 hbt hwc hA4 HC4 HH4 HR4 HD4 HB4 hl5
  go_wp2_with (first
    | (go_at_call 19; (with_reducible refine (sum_calls _ (T2 ++ d1) st5 wt5 m5 _ HG5.out HF5.out hs5.out).mono ?_); rintro e w6 ⟨rfl, hb6⟩; have HR6 := Aside0.mk (blk_below HR5.out hb6); have HB6 := Aside0.mk (below_step HB5.out hb6); clear hb6)
    | (refine wpList_store_row rfl 24 _ _ rfl (w.heap.size + 2) _ rfl rfl 24 _ HR6.out (by rw [hsz20.out]; kernel_rfl) (by rw [hsz20.out]; kernel_rfl) (all_one (u8s_one _)) ?_)
    | fail)
  have HR7 := Aside0.mk (setRow_heap _ _ _ (u8s (dig (T2 ++ d1))).toArray _ _ HR6.out)
  have HB7 := Aside0.mk (below_setRow HB6.out (Nat.le_add_right _ 2) (u8s (dig (T2 ++ d1))).toArray)
  refine bodyPost_ret (results_cell_row rfl _ _ (w.heap.size + 2) 24 _ (0, 0) _ rfl HR7.out Try.underlying24 rfl (by rw [hsz20.out]; kernel_rfl)) rfl ⟨?_, HB7.out⟩
  rw [hd1.out]

/-- The two hashes of a key, as values. -/
structure Keyed (key : List Int) (a b : Value) : Prop where
  one : HashV (xk 54 (kpad key)) a
  two : HashV (xk 92 (kpad key)) b
theorem sum_key_calls (key : List Int) (a b : Value) (A : Option Addr) (c : Nat) (l : List Int) (w : World) (hk : Keyed key a b) (hC : Kd.C (Kd.int .u8) w A l.length l) (hc : l.length ≤ c) (hb : ∀ x ∈ l, byteOk x)
    (hs : l.length < 2305843009213692000) :
    Calls Try.prog 30 #[a, b, .slice A l.length c] w fun e w' => e = .returned (.agg (u8s (hm key l)).toArray) ∧ Below w.heap.size w w' := by
  obtain ⟨⟨st1, wt1, m1, rfl, hF1⟩, ⟨st2, wt2, m2, rfl, hF2⟩⟩ := hk
  have h1 : (xk 54 (kpad key)).length = 64 := by rw [xk_len, kpad_len]
  have h2 : (xk 92 (kpad key)).length = 64 := by rw [xk_len, kpad_len]
  exact sum2_calls _ st1 wt1 _ st2 wt2 m1 m2 A c l w hF1 hF2 hC hc hb (by omega) (by omega)
/-- A Hash's value as a row of cells. -/
theorem HashV.row {T : List Int} {v : Value} (h : HashV T v) : ∃ cs : Array Value, v = .agg cs ∧ (Try.prog.info? 49).map (·.size) = some cs.size ∧ cs.size = 71 ∧ cs.all (·.oneCell') = true := by
  obtain ⟨st, wt, m, rfl, hF⟩ := h
  exact ⟨_, rfl, hsz _ _ _ _ hF.st5 hF.len, hrow_size _ _ _ _ hF.st5 hF.len, hrow_one _ _ _ _⟩
set_option maxHeartbeats 2000000 in
set_option maxRecDepth 100000 in
theorem macsum_calls (A0 : Option Addr) (c0 : Nat) (l0 : List Int) (A1 : Option Addr) (c1 : Nat) (l1 : List Int) (w : World) (hC0 : Kd.C (Kd.int .u8) w A0 l0.length l0) (hc0 : l0.length ≤ c0) (hb0 : ∀ x ∈ l0, byteOk x)
    (hC1 : Kd.C (Kd.int .u8) w A1 l1.length l1) (hc1 : l1.length ≤ c1) (hb1 : ∀ x ∈ l1, byteOk x) (hs0 : l0.length < 2305843009213692000) (hs1 : l1.length < 2305843009213692000) :
    Calls Try.prog 21 #[.slice A0 l0.length c0, .slice A1 l1.length c1] w fun e w' => e = .returned (.agg (u8s (hm l0 l1)).toArray) ∧ Below w.heap.size w w' := by
  have HC0 := Aside0.mk hC0
  have HC1 := Aside0.mk hC1
  have HY0 := Aside0.mk hb0
  have HY1 := Aside0.mk hb1
  clear hC0 hC1 hb0 hb1
  have hz24 := zero24'
  have hz49 := zero49'
  have hsz20 : Aside0 ((u8s (hm l0 l1)).toArray.size = 20) := ⟨by simp [u8s_len, hm_len]⟩
  go_enter Try.func21, Try.ntmps21
  go_upto_region 1 with fail
  generalize hw1 : World.alloc _ _ = w1
  have HR1 : Aside0 (w1.heap[w.heap.size]? = some (.cells (u8s z20).toArray 24 (0, 0))) := ⟨by rw [← hw1]; exact blk_new _ _⟩
  have HB1 : Aside0 (Below w.heap.size w w1) := ⟨by rw [← hw1]; exact below_alloc (Below.refl _ _) _⟩
  clear hw1
  have HC01 := Aside0.mk (Kd.C_below HC0.out HB1.out)
  go_wp2_with fail
  refine (halves_calls A0 c0 l0 _ HC01.out hc0 HY0.out (by omega)).mono ?_
  rintro e w2 ⟨⟨a, b, rfl, ha, hb⟩, hb2⟩
  have HK : Aside0 (Keyed l0 a b) := ⟨⟨ha, hb⟩⟩
  obtain ⟨ca, rfl, e1, e2, e3⟩ := ha.row
  obtain ⟨cb, rfl, f1, f2, f3⟩ := hb.row
  have HR2 := Aside0.mk (blk_below HR1.out hb2)
  have HB2 := Aside0.mk (below_step HB1.out hb2)
  have k2 := blk_lt HR2.out
  have k3 := HB2.out.size
  have e1 := Aside0.mk e1
  have e2 := Aside0.mk e2
  have e3 := Aside0.mk e3
  have f1 := Aside0.mk f1
  have f2 := Aside0.mk f2
  have f3 := Aside0.mk f3
  clear ha hb hb2 HR1 HB1
  have cell49 : Aside0 ((hrow z5 z64 0 0).size = 71) := ⟨rfl⟩
  go_upto_region 2 with (first
    | (refine wpList_store_row rfl 49 _ _ rfl w2.heap.size _ rfl rfl 49 _ (blk_alloc (blk_new _ _) _) e1.out (by rw [e2.out]; rfl) e3.out ?_)
    | (refine wpList_store_row rfl 49 _ _ rfl (w2.heap.size + 1) _ rfl rfl 49 _ (by rw [setRow_other _ _ _ _ (by omega)]; exact blk_new_at _ _ _ (by simp)) f1.out (by rw [f2.out]; rfl) f3.out ?_)
    | fail)
  generalize hw4 : World.setRow _ _ _ = w4
  have HI4 : Aside0 (w4.heap[w2.heap.size]? = some (.cells ca 49 (0, 0))) := ⟨by rw [← hw4, setRow_other _ _ _ _ (by omega)]; exact setRow_heap _ _ _ _ _ _ (blk_alloc (blk_new _ _) _)⟩
  have HO4 : Aside0 (w4.heap[w2.heap.size + 1]? = some (.cells cb 49 (0, 0))) := ⟨by rw [← hw4]; exact setRow_heap _ _ _ _ _ _ (by rw [setRow_other _ _ _ _ (by omega)]; exact blk_new_at _ _ _ (by simp))⟩
  have HR4 : Aside0 (w4.heap[w.heap.size]? = some (.cells (u8s z20).toArray 24 (0, 0))) := ⟨by rw [← hw4, setRow_other _ _ _ _ (by omega), setRow_other _ _ _ _ (by omega)]; exact blk_alloc (blk_alloc HR2.out _) _⟩
  have HB4 : Aside0 (Below w.heap.size w w4) := ⟨by rw [← hw4]; exact below_setRow (below_setRow (below_alloc (below_alloc HB2.out _) _) k3 _) (by omega) _⟩
  clear hw4 HR2 HB2 cell49
  have HC14 := Aside0.mk (Kd.C_below HC1.out HB4.out)
  go_wp2_with (first
    | (refine wpList_load_row rfl 49 _ rfl w2.heap.size rfl 49 _ (0, 0) _ HI4.out Try.underlying49 rfl e1.out ?_)
    | (refine wpList_load_row rfl 49 _ rfl (w2.heap.size + 1) rfl 49 _ (0, 0) _ HO4.out Try.underlying49 rfl f1.out ?_)
    | (go_at_call 30; (with_reducible refine (sum_key_calls l0 _ _ A1 c1 l1 _ HK.out HC14.out hc1 HY1.out hs1).mono ?_); rintro e w5 ⟨rfl, hb5⟩; have HR5 := Aside0.mk (blk_below HR4.out hb5); have HB5 := Aside0.mk (below_step HB4.out hb5); clear hb5)
    | (refine wpList_store_row rfl 24 _ _ rfl w.heap.size _ rfl rfl 24 _ HR5.out (by rw [hsz20.out]; kernel_rfl) (by rw [hsz20.out]; kernel_rfl) (all_one (u8s_one _)) ?_)
    | fail)
  have HR7 := Aside0.mk (setRow_heap _ _ _ (u8s (hm l0 l1)).toArray _ _ HR5.out)
  have HB7 := Aside0.mk (below_setRow HB5.out (Nat.le_refl _) (u8s (hm l0 l1)).toArray)
  exact bodyPost_ret (results_cell_row rfl _ _ w.heap.size 24 _ (0, 0) _ rfl HR7.out Try.underlying24 rfl (by rw [hsz20.out]; kernel_rfl)) rfl ⟨rfl, HB7.out⟩
end Go.Proofs.Ytfgponalmhocmaa.D
