/- The machine's side of mac's two hashes of a key, and of its sum: what a call comes to. -/
import Derived.Test.YtfgponalmhocmaaEa
namespace Go.Proofs.Ytfgponalmhocmaa.D
open Go.RowKit Go.Proofs.YtfgponalmhocmaaW.PrintWords Go.Proofs.YtfgponalmhocmaaW.PrintLast Go.Proofs.YtfgponalmhocmaaW.PrintMore
open Go.Proofs.Ytfgponalmhocmaa.HA Go.Proofs.Ytfgponalmhocmaa.V
set_option linter.unusedVariables false
set_option linter.unusedSimpArgs false

/-- The value of a Hash that was fed T. -/
def HashV (T : List Int) (v : Value) : Prop := ∃ st wt : List Int, ∃ m : Nat, v = .agg (hrow st wt (m : Nat) (T.length : Int)) ∧ Fed T st wt m
theorem hsz (st wt : List Int) (m a : Int) (h5 : st.length = 5) (h64 : wt.length = 64) : (Try.prog.info? 49).map (·.size) = some (hrow st wt m a).size := by rw [hrow_size _ _ _ _ h5 h64]; kernel_rfl
def Begun (T : List Int) (w : World) (e : Ending) (w' : World) : Prop := (∃ v, e = .returned v ∧ HashV T v) ∧ Below w.heap.size w w'
set_option maxHeartbeats 2000000 in
set_option maxRecDepth 100000 in
theorem begun_calls (x : Int) (g : Nat) (k : List Int) (w : World) (hg : w.heap[g]? = some (.cells (u8s k).toArray 46 (0, 0))) (hk : k.length = 64) (hb : ∀ y ∈ k, byteOk y) (hx : byteOk x) :
    Calls Try.prog 38 #[.int .u8 x, .pointer (some ⟨g, 0, none⟩)] w (Begun (xk x k) w) := by
  have HG := Aside0.mk hg
  have HY := Aside0.mk (xk_byte x k hx hb)
  have hgl := blk_lt hg
  have hsz64 : Aside0 ((u8s k).toArray.size = 64) := ⟨by simp [u8s_len, hk]⟩
  have HK := Aside0.mk hk
  clear hg hb hk
  have hz46 := zero46'
  have hz49 := zero49'
  go_enter Try.func38, Try.ntmps38
  go_upto_block 0 with (first
    | (refine wpList_load_row rfl 46 _ rfl g rfl 46 _ (0, 0) _ (blk_alloc HG.out _) Try.underlying46 rfl (by rw [hsz64.out]; kernel_rfl) ?_)
    | (refine wpList_store_row rfl 46 _ _ rfl (w.heap.size + 1) _ rfl rfl 46 _ (blk_new_at _ _ _ (by simp)) (by rw [hsz64.out]; kernel_rfl) (by rw [hsz64.out]; kernel_rfl) (all_one (u8s_one _)) ?_)
    | fail)
  generalize hw1 : World.setRow _ _ _ = w1
  have HR1 : Aside0 (w1.heap[w.heap.size]? = some (.cells (hrow z5 z64 0 0) 49 (0, 0))) := ⟨by rw [← hw1, setRow_other _ _ _ _ (by omega)]; exact blk_alloc (blk_new _ _) _⟩
  have HX1 : Aside0 (w1.heap[w.heap.size + 1]? = some (.cells (u8s k).toArray 46 (0, 0))) := ⟨by rw [← hw1]; exact setRow_heap _ _ _ _ _ _ (blk_new_at _ _ _ (by simp))⟩
  have HB1 : Aside0 (Below w.heap.size w w1) := ⟨by rw [← hw1]; exact below_setRow (below_alloc (below_alloc (Below.refl _ _) _) _) (Nat.le_succ _) _⟩
  clear hw1
  go_cut [] (fun wr => Aside0 (wr.heap[w.heap.size]? = some (.cells (hrow z5 z64 0 0) 49 (0, 0))) ∧ Aside0 (wr.heap[w.heap.size + 1]? = some (.cells (u8s (xk x k)).toArray 46 (0, 0))) ∧ Aside0 (Below w.heap.size w wr))
  case first =>
    go_wp2_with fail
    go_loopg [8] 64 (fun gk v8 wr => ∃ i : Nat, v8 = .int .i64 i ∧ Aside0 (gk + i = 64) ∧ i ≤ 64 ∧ Aside0 (wr.heap[w.heap.size]? = some (.cells (hrow z5 z64 0 0) 49 (0, 0))) ∧ Aside0 (wr.heap[w.heap.size + 1]? = some (.cells (u8s ((xk x k).take i ++ k.drop i)).toArray 46 (0, 0))) ∧ Aside0 (Below w.heap.size w wr))
    case atStart => exact ⟨0, rfl, ⟨rfl⟩, by omega, HR1, ⟨by simpa using HX1.out⟩, HB1⟩
    case round =>
      clear HR1 HX1 HB1
      obtain ⟨i, rfl, hgk, hi, HR, HX, HB⟩ := hrel
      by_cases hil : i < 64
      · have i1 : (i : Int) < 64 := by omega
        have cX : wr.cell? ⟨w.heap.size + 1, i, none⟩ = some (.int .u8 (k.getD i 0)) := (blk_cell HX.out i).trans ((u8_get _ _ (by rw [xk_mid_len _ _ _ (by rw [HK.out]; omega), HK.out]; omega)).trans (by rw [xk_get _ _ _ (by rw [HK.out]; omega)]))
        have fX := blk_frozen HX.out i
        have hst := Aside0.mk (xk_step x k i (by rw [HK.out]; omega))
        generalize k.getD i 0 = y at cX hst
        go_wp2_with fail
        go_roundg (gk - 1)
        case measure => have := hgk.out; omega
        case rel =>
          refine ⟨i + 1, by go_num, ⟨by have := hgk.out; omega⟩, by omega, ⟨blk_far HR.out (by simp) _⟩, ⟨?_⟩, ⟨below_set HB.out (Nat.le_succ _)⟩⟩
          refine blk_put HX.out _ _ ?_
          rw [u8_set, hst.out]
      · have hie := Aside0.mk (show i = 64 by omega)
        have i1 : ¬ (i : Int) < 64 := by omega
        go_wp2_with fail
        go_meet
        refine ⟨HR, ⟨?_⟩, HB⟩
        have := HX.out
        rw [hie.out, List.take_of_length_le (by rw [xk_len, HK.out]; exact Nat.le_refl _), List.drop_of_length_le (by rw [HK.out]; exact Nat.le_refl _), List.append_nil] at this
        exact this
  case rest =>
    clear HR1 HX1 HB1
    obtain ⟨HR, HX, HB⟩ := hcut
    have hxl : (xk x k).length = 64 := by rw [xk_len, HK.out]
    generalize xk x k = X at *
    have hrl := blk_lt HR.out
    have hxx := blk_lt HX.out
    have HBs := HB.out.size
    have ha0 := Aside0.mk (show (0 : Int) ≤ 0 ∧ (0 : Int) + X.length < 18446744073709551616 by rw [hxl]; omega)
    go_upto_region 8 with (go_at_call 17; (with_reducible refine (new_calls _).mono ?_); rintro e w2 ⟨rfl, hg, hb⟩)
    have HG2 := Aside0.mk hg
    have HR2 := Aside0.mk (blk_below HR.out hb)
    have HX2 := Aside0.mk (blk_below HX.out hb)
    have HB2 := Aside0.mk (below_step HB.out hb)
    have hg2 := blk_lt hg
    clear hg hb HR HX HB
    have HC2 : Aside0 (Kd.C (Kd.int .u8) w2 (some ⟨w.heap.size + 1, 0, none⟩) X.length X) := ⟨C_rowT HX2.out (by rw [hxl]; decide)⟩
    have hA : Aside0 (0 < X.length → ∀ ad, (some ⟨w.heap.size + 1, 0, none⟩ : Option Addr) = some ad → ad.block ≠ wc.heap.size) := ⟨fun _ ad e => by cases e; simp; omega⟩
    have hwc := write_calls wc.heap.size [] _ _ 0 0 (some ⟨w.heap.size + 1, 0, none⟩) 64 X w2 HG2.out Fed.start HC2.out (by omega) hA.out HY.out ha0.out
    rw [hxl] at hwc
    replace hwc := Aside0.mk hwc
    go_upto_region 9 with (go_at_call 18; (with_reducible refine hwc.out.mono ?_); rintro e w3 ⟨rfl, hw, hbt⟩)
    obtain ⟨st, wt, m, hg3, hf3⟩ := hw
    rw [List.nil_append] at hf3
    have h5 := Aside0.mk hf3.st5
    have h6 := Aside0.mk hf3.len
    have HG3 := Aside0.mk hg3
    have HF3 := Aside0.mk hf3
    have HR3 := Aside0.mk (blk_but HR2.out hbt (by omega))
    have HB3 := Aside0.mk (below_but HB2.out (by omega) (by omega) hbt)
    have hlen : Aside0 ((0 : Int) + ((64 : Nat) : Int) = (X.length : Int)) := ⟨by rw [hxl]; rfl⟩
    clear hg3 hf3 hbt HR2 HB2 HG2 hwc hA ha0 HC2 HX2
    go_wp2_with (first
      | (refine wpList_load_row rfl 49 _ rfl wc.heap.size rfl 49 _ (0, 0) _ HG3.out Try.underlying49 rfl (hsz _ _ _ _ h5.out h6.out) ?_)
      | (refine wpList_store_row rfl 49 _ _ rfl w.heap.size _ rfl rfl 49 _ HR3.out (hsz _ _ _ _ h5.out h6.out) (by rw [hrow_size _ _ _ _ h5.out h6.out]; rfl) (hrow_one _ _ _ _) ?_)
      | fail)
    have HR5 := Aside0.mk (setRow_heap _ _ _ (hrow st wt m (0 + ((64 : Nat) : Int))) _ _ HR3.out)
    have HB5 := Aside0.mk (below_setRow HB3.out (Nat.le_refl _) (hrow st wt m (0 + ((64 : Nat) : Int))))
    refine bodyPost_ret (results_cell_row rfl _ _ w.heap.size 49 _ (0, 0) _ rfl HR5.out Try.underlying49 rfl (hsz _ _ _ _ h5.out h6.out)) rfl ⟨⟨_, rfl, st, wt, m, ?_, HF3.out⟩, HB5.out⟩
    rw [hlen.out]

theorem results_cell_row2 {P : Program} {fn : Func} {p q : Tmp} {t1 t2 : TypeId} (h : fn.results = #[.cell p t1, .cell q t2]) (tmps : Array Value) (w : World) (g1 g2 : Nat) (u1 u2 : TypeId) (c1 c2 : Array Value) (f1 f2 : Nat × Nat) (d1 d2 : TypeDesc)
    (hp1 : tmps.getD p undef = .pointer (some ⟨g1, 0, none⟩)) (hg1 : w.heap[g1]? = some (.cells c1 u1 f1)) (hu1 : P.underlying t1 = some d1) (hd1 : (match d1 with | .struct _ | .array _ _ => true | _ => false) = true) (hi1 : (P.info? t1).map (·.size) = some c1.size)
    (hp2 : tmps.getD q undef = .pointer (some ⟨g2, 0, none⟩)) (hg2 : w.heap[g2]? = some (.cells c2 u2 f2)) (hu2 : P.underlying t2 = some d2) (hd2 : (match d2 with | .struct _ | .array _ _ => true | _ => false) = true) (hi2 : (P.info? t2).map (·.size) = some c2.size) :
    (results fn tmps).run P w = .ok (.tuple #[.agg c1, .agg c2]) w := by
  have hp1' : tmps[p]?.getD undef = .pointer (some ⟨g1, 0, none⟩) := by simpa using hp1
  have hp2' : tmps[q]?.getD undef = .pointer (some ⟨g2, 0, none⟩) := by simpa using hp2
  simp [results, h, hp1', hp2', asAddr, run_loadVar_row w g1 u1 t1 c1 f1 d1 hg1 hu1 hd1 hi1, run_loadVar_row w g2 u2 t2 c2 f2 d2 hg2 hu2 hd2 hi2]

def Halves (key : List Int) (w : World) (e : Ending) (w' : World) : Prop := (∃ a b, e = .returned (.tuple #[a, b]) ∧ HashV (xk 54 (kpad key)) a ∧ HashV (xk 92 (kpad key)) b) ∧ Below w.heap.size w w'
set_option maxHeartbeats 2000000 in
set_option maxRecDepth 100000 in
theorem halves_calls (A : Option Addr) (c : Nat) (l : List Int) (w : World) (hC : Kd.C (Kd.int .u8) w A l.length l) (hc : l.length ≤ c) (hb : ∀ x ∈ l, byteOk x) (hs : l.length < 2305843009213693000) :
    Calls Try.prog 29 #[.slice A l.length c] w (Halves l w) := by
  have HC := Aside0.mk hC
  have HBY := Aside0.mk hb
  have HS := Aside0.mk hs
  have HKY := Aside0.mk (kpad_byte l hb)
  clear hC hb
  have hz46 := zero46'
  have hz49 := zero49'
  have hsz64 : Aside0 ((u8s (kpad l)).toArray.size = 64) := ⟨by simp [u8s_len, kpad_len]⟩
  go_enter Try.func29, Try.ntmps29
  go_upto_region 1 with fail
  generalize hw1 : World.alloc _ _ = w1
  have HR1 : Aside0 (w1.heap[w.heap.size]? = some (.cells (hrow z5 z64 0 0) 49 (0, 0))) := ⟨by rw [← hw1]; exact blk_alloc (blk_new _ _) _⟩
  have HS1 : Aside0 (w1.heap[w.heap.size + 1]? = some (.cells (hrow z5 z64 0 0) 49 (0, 0))) := ⟨by rw [← hw1]; exact blk_new_at _ _ _ (by simp)⟩
  have HB1 : Aside0 (Below w.heap.size w w1) := ⟨by rw [← hw1]; exact below_alloc (below_alloc (Below.refl _ _) _) _⟩
  clear hw1
  have HC1 := Aside0.mk (Kd.C_below HC.out HB1.out)
  go_upto_region 2 with (first
    | (go_at_call 37; (with_reducible refine (padded_calls _ _ l _ HC1.out hc HBY.out HS.out).mono ?_); rintro e w2 ⟨rfl, hb2⟩; have HR2 := Aside0.mk (blk_below HR1.out hb2); have HS2 := Aside0.mk (blk_below HS1.out hb2); have HB2 := Aside0.mk (below_step HB1.out hb2); clear hb2)
    | (refine wpList_store_row rfl 46 _ _ rfl w2.heap.size _ rfl rfl 46 _ (blk_new _ _) (by rw [hsz64.out]; kernel_rfl) (by rw [hsz64.out]; kernel_rfl) (all_one (u8s_one _)) ?_)
    | fail)
  have h1 := blk_lt HR2.out
  have h2 := blk_lt HS2.out
  have hs2 := HB2.out.size
  generalize hw3 : World.setRow _ _ _ = w3
  have HR3 : Aside0 (w3.heap[w.heap.size]? = some (.cells (hrow z5 z64 0 0) 49 (0, 0))) := ⟨by rw [← hw3, setRow_other _ _ _ _ (by omega)]; exact blk_alloc HR2.out _⟩
  have HS3 : Aside0 (w3.heap[w.heap.size + 1]? = some (.cells (hrow z5 z64 0 0) 49 (0, 0))) := ⟨by rw [← hw3, setRow_other _ _ _ _ (by omega)]; exact blk_alloc HS2.out _⟩
  have HK3 : Aside0 (w3.heap[w2.heap.size]? = some (.cells (u8s (kpad l)).toArray 46 (0, 0))) := ⟨by rw [← hw3]; exact setRow_heap _ _ _ _ _ _ (blk_new _ _)⟩
  have HB3 : Aside0 (Below w.heap.size w w3) := ⟨by rw [← hw3]; exact below_setRow (below_alloc HB2.out _) hs2 _⟩
  clear hw3 HR1 HS1 HB1 HR2 HS2 HB2 HC1
  go_wp2_with fail
  refine (begun_calls 54 w2.heap.size (kpad l) _ HK3.out (kpad_len l) HKY.out ⟨by decide, by decide⟩).mono ?_
  rintro e w4 ⟨⟨_, rfl, st1, wt1, m1, rfl, hF1⟩, hb4⟩
  have HR4 := Aside0.mk (blk_below HR3.out hb4)
  have HS4 := Aside0.mk (blk_below HS3.out hb4)
  have HK4 := Aside0.mk (blk_below HK3.out hb4)
  have HB4 := Aside0.mk (below_step HB3.out hb4)
  have p5 := Aside0.mk hF1.st5
  have p6 := Aside0.mk hF1.len
  have HF1 := Aside0.mk hF1
  clear hb4 hF1 HR3 HS3 HK3 HB3
  generalize hn1 : ((xk 54 (kpad l)).length : Int) = n1
  replace hn1 := Aside0.mk hn1
  go_wp2_with fail
  refine (begun_calls 92 w2.heap.size (kpad l) _ HK4.out (kpad_len l) HKY.out ⟨by decide, by decide⟩).mono ?_
  rintro e w5 ⟨⟨_, rfl, st2, wt2, m2, rfl, hF2⟩, hb5⟩
  have HR5 := Aside0.mk (blk_below HR4.out hb5)
  have HS5 := Aside0.mk (blk_below HS4.out hb5)
  have HB5 := Aside0.mk (below_step HB4.out hb5)
  have q5 := Aside0.mk hF2.st5
  have q6 := Aside0.mk hF2.len
  have HF2 := Aside0.mk hF2
  clear hb5 hF2 HR4 HS4 HK4 HB4
  generalize hn2 : ((xk 92 (kpad l)).length : Int) = n2
  replace hn2 := Aside0.mk hn2
  have HS6 : Aside0 ((w5.setRow w.heap.size (hrow st1 wt1 m1 n1)).heap[w.heap.size + 1]? = some (.cells (hrow z5 z64 0 0) 49 (0, 0))) := ⟨by rw [setRow_other _ _ _ _ (by omega)]; exact HS5.out⟩
  go_wp2_with (first
    | (refine wpList_store_row rfl 49 _ _ rfl w.heap.size _ rfl rfl 49 _ HR5.out (hsz _ _ _ _ p5.out p6.out) (by rw [hrow_size _ _ _ _ p5.out p6.out]; rfl) (hrow_one _ _ _ _) ?_)
    | (refine wpList_store_row rfl 49 _ _ rfl (w.heap.size + 1) _ rfl rfl 49 _ HS6.out (hsz _ _ _ _ q5.out q6.out) (by rw [hrow_size _ _ _ _ q5.out q6.out]; rfl) (hrow_one _ _ _ _) ?_)
    | fail)
  have HR7 : Aside0 (((w5.setRow w.heap.size (hrow st1 wt1 m1 n1)).setRow (w.heap.size + 1) (hrow st2 wt2 m2 n2)).heap[w.heap.size]? = some (.cells (hrow st1 wt1 m1 n1) 49 (0, 0))) := ⟨by rw [setRow_other _ _ _ _ (by omega)]; exact setRow_heap _ _ _ _ _ _ HR5.out⟩
  have HS7 := Aside0.mk (setRow_heap _ _ _ (hrow st2 wt2 m2 n2) _ _ HS6.out)
  have HB7 := Aside0.mk (below_setRow (below_setRow HB5.out (Nat.le_refl _) (hrow st1 wt1 m1 n1)) (Nat.le_succ _) (hrow st2 wt2 m2 n2))
  refine bodyPost_ret (results_cell_row2 rfl _ _ w.heap.size (w.heap.size + 1) 49 49 _ _ (0, 0) (0, 0) _ _ rfl HR7.out Try.underlying49 rfl (hsz _ _ _ _ p5.out p6.out) rfl HS7.out Try.underlying49 rfl (hsz _ _ _ _ q5.out q6.out)) rfl ?_
  exact ⟨⟨_, _, rfl, ⟨st1, wt1, m1, by rw [hn1.out], HF1.out⟩, ⟨st2, wt2, m2, by rw [hn2.out], HF2.out⟩⟩, HB7.out⟩
end Go.Proofs.Ytfgponalmhocmaa.D
