/- alive() of layer 10, and the law of sums: what a call comes to. -/
import Derived.Test.YtfgponalmhocmaaDg
import Derived.Test.YtfgponalmhocmaaBb
import Derived.Lib.SlBytesConst
namespace Go.Proofs.Ytfgponalmhocmaa.D
open Go.RowKit Go.Proofs.YtfgponalmhocmaaW.PrintWords Go.Proofs.YtfgponalmhocmaaW.PrintLast Go.Proofs.YtfgponalmhocmaaW.PrintMore
open Go.Proofs.Ytfgponalmhocmaa.HA Go.Proofs.Ytfgponalmhocmaa.V
set_option linter.unusedVariables false
set_option linter.unusedSimpArgs false

theorem conv22 (w : World) (C : Array Value) (n c : Nat) : (convert 22 22 (.slice (some ⟨w.heap.size, 0, none⟩) n c)).run Try.prog (w.alloc (.cells C 5)) = .ok (.slice (some ⟨w.heap.size, 0, none⟩) n c) (w.alloc (.cells C 5 (C.size, C.size + 1))) :=
  Lib.run_convert_bytes_const w 22 5 C n c Try.underlying22 (by kernel_rfl)
theorem C_three (W : World) (o : Nat) (x y z : Int) {fr : Nat × Nat} (h : W.heap[o]? = some (.cells #[.int .u8 x, .int .u8 y, .int .u8 z] 5 fr)) : Kd.C (Kd.int .u8) W (some ⟨o, 0, none⟩) 3 [x, y, z] := by
  refine ⟨rfl, by decide, fun _ => ⟨_, rfl, fun j p hj => ?_⟩⟩
  have hj3 : j < 3 := (List.getElem?_eq_some_iff.1 hj).1
  refine ⟨[.int .u8 p], rfl, rfl, fun i u hu => ?_⟩
  have hi : i = 0 := by have := (List.getElem?_eq_some_iff.1 hu).1; simp at this; omega
  subst hi
  rcases (show j = 0 ∨ j = 1 ∨ j = 2 by omega) with rfl | rfl | rfl <;> (simp at hj hu; subst hj; subst hu)
  · exact (cell_of_row W o 0 _ 5 fr h).trans rfl
  · exact (cell_of_row W o 1 _ 5 fr h).trans rfl
  · exact (cell_of_row W o 2 _ 5 fr h).trans rfl
theorem digest_abc (A : Option Addr) (w : World) (hC : Kd.C (Kd.int .u8) w A 3 [97, 98, 99]) : Calls Try.prog 15 #[.slice A 3 3] w fun e w' => e = .returned (.agg (u8s (dig [97, 98, 99])).toArray) ∧ Below w.heap.size w w' :=
  digest_calls A 3 [97, 98, 99] w hC (Nat.le_refl _) (by intro x hx; simp at hx; rcases hx with rfl | rfl | rfl <;> exact ⟨by decide, by decide⟩) (by decide)
theorem abc0 : (dig [97, 98, 99]).getD 0 0 = 169 := by decide +kernel
theorem abc1 : (dig [97, 98, 99]).getD 1 0 = 153 := by decide +kernel
theorem abc19 : (dig [97, 98, 99]).getD 19 0 = 157 := by decide +kernel

set_option maxHeartbeats 2000000 in
set_option maxRecDepth 100000 in
theorem alive10_calls (w : World) : Calls Try.prog 14 #[] w fun e w' => e = .returned (.bool true) ∧ Below w.heap.size w w' := by
  have hz24 := zero24'
  go_enter Try.func14, Try.ntmps14
  have hcv := conv22 w #[.int .u8 97, .int .u8 98, .int .u8 99] 3 3
  have hsz20 : (u8s (dig [97, 98, 99])).toArray.size = 20 := by simp [u8s_len, dig_len]
  replace hsz20 := Aside0.mk hsz20
  go_upto_region 2 with (first
    | (go_at_call 15; (with_reducible refine (digest_abc _ _ (C_three _ _ _ _ _ (blk_new _ _))).mono ?_); rintro e w2 ⟨rfl, hb2⟩; have HB2 := Aside0.mk (below_then (below_alloc (Below.refl _ _) _) (by simp) hb2); clear hb2)
    | (refine wpList_store_row rfl 24 _ _ rfl w2.heap.size _ rfl rfl 24 _ (blk_new_at _ _ _ rfl) (by rw [hsz20.out]; kernel_rfl) (by rw [hsz20.out]; kernel_rfl) (all_one (u8s_one _)) ?_)
    | fail)
  have HR3 := Aside0.mk (setRow_heap _ _ _ (u8s (dig [97, 98, 99])).toArray _ _ (blk_new_at w2 (.cells (u8s z20).toArray 24) _ rfl))
  have HB3 := Aside0.mk (below_setRow (below_alloc HB2.out (.cells (u8s z20).toArray 24)) (by have := HB2.out.size; simpa using this) (u8s (dig [97, 98, 99])).toArray)
  generalize World.setRow _ _ _ = w3 at HR3 HB3 ⊢
  have c0 : w3.cell? ⟨w2.heap.size, 0, none⟩ = some (.int .u8 169) := (blk_cell HR3.out 0).trans ((u8_get _ _ (by rw [dig_len]; omega)).trans (by rw [abc0]))
  have c1 : w3.cell? ⟨w2.heap.size, 1, none⟩ = some (.int .u8 153) := (blk_cell HR3.out 1).trans ((u8_get _ _ (by rw [dig_len]; omega)).trans (by rw [abc1]))
  have c19 : w3.cell? ⟨w2.heap.size, 19, none⟩ = some (.int .u8 157) := (blk_cell HR3.out 19).trans ((u8_get _ _ (by rw [dig_len]; omega)).trans (by rw [abc19]))
  go_wp2_with fail
  go_ret
  exact ⟨by first | rfl | simp, HB3.out⟩

set_option maxHeartbeats 2000000 in
set_option maxRecDepth 100000 in
theorem sums_calls (A : Option Addr) (c : Nat) (l : List Int) (w : World) (hC : Kd.C (Kd.int .u8) w A l.length l) (hc : l.length ≤ c) (hb : ∀ x ∈ l, byteOk x) (hs : l.length + 200 < 140737488355328) :
    Calls Try.prog 3 #[.slice A l.length c] w fun e w' => e = .returned (.bool true) ∧ Below w.heap.size w w' := by
  have HC := Aside0.mk hC
  have HBY := Aside0.mk hb
  have heq := fun W => eq_u8s (dig l) (dig l) (dig_len l) (dig_len l) W
  go_enter Try.func3, Try.ntmps3
  go_wp2_with (first
    | (go_at_call 14; (with_reducible refine (alive10_calls _).mono ?_); rintro e w1 ⟨rfl, hb1⟩; have HC1 := Aside0.mk (Kd.C_below HC.out hb1); have HB1 := Aside0.mk hb1; clear hb1)
    | (go_at_call 15; (with_reducible refine (digest_calls _ _ l _ HC1.out hc HBY.out (by omega)).mono ?_); rintro e w2 ⟨rfl, hb2⟩; have HC2 := Aside0.mk (Kd.C_below HC1.out hb2); have HB2 := Aside0.mk (below_step HB1.out hb2); clear hb2)
    | (go_at_call 16; (with_reducible refine (refsum_calls _ _ l _ HC2.out hc HBY.out hs).mono ?_); rintro e w3 ⟨rfl, hb3⟩; have HB3 := Aside0.mk (below_step HB2.out hb3); clear hb3)
    | fail)
  go_ret
  exact ⟨by simp, HB3.out⟩
end Go.Proofs.Ytfgponalmhocmaa.D
namespace Go.Proofs.Ytfgponalmhocmaa.HB
open Go.RowKit Go.Proofs.YtfgponalmhocmaaW.PrintWords Go.Proofs.YtfgponalmhocmaaW.PrintLast Go.Proofs.YtfgponalmhocmaaW.PrintMore
open Go.Proofs.Ytfgponalmhocmaa.HA Go.Proofs.Ytfgponalmhocmaa.V Go.Proofs.Ytfgponalmhocmaa.D
def wainloadlaw10_DigestSums.f (l : List Int) : Option Bool := if (∀ x ∈ l, 0 ≤ x ∧ x < 256) ∧ l.length + 200 < 140737488355328 then some true else none
theorem wainloadlaw10_DigestSums.calls (A0 : Option Addr) (c0 : Nat) (l0 : List Int) (r : Bool) (w : World) (hr0 : Kd.C (Kd.int .u8) w A0 l0.length l0) (hc0 : l0.length ≤ c0) (h : wainloadlaw10_DigestSums.f l0 = some r) :
    Calls Try.prog 3 #[.slice A0 l0.length c0] w fun e w' => e = .returned (.bool r) ∧ Below w.heap.size w w' := by
  unfold wainloadlaw10_DigestSums.f at h
  split at h
  · rename_i hh
    cases h
    exact sums_calls A0 c0 l0 w hr0 hc0 hh.1 hh.2
  · cases h
end Go.Proofs.Ytfgponalmhocmaa.HB
