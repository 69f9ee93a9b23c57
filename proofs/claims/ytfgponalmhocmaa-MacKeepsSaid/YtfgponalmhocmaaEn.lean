/- The law of keys of one round of layer 11: what a call comes to. -/
import Derived.Test.YtfgponalmhocmaaEk
namespace Go.Proofs.Ytfgponalmhocmaa.D
open Go.RowKit Go.Proofs.YtfgponalmhocmaaW.PrintWords Go.Proofs.YtfgponalmhocmaaW.PrintLast Go.Proofs.YtfgponalmhocmaaW.PrintMore
open Go.Proofs.Ytfgponalmhocmaa.HA Go.Proofs.Ytfgponalmhocmaa.V
set_option linter.unusedVariables false
set_option linter.unusedSimpArgs false

/-- A key of L bytes that is handed back. -/
def KeyL (L : Nat) (l : List Int) (w : World) (e : Ending) (w' : World) : Prop := ∃ A c, e = .returned (.tuple #[.slice A L c, .bool true]) ∧ L ≤ c ∧ Kd.C (Kd.int .u8) w' A L l ∧ Below w.heap.size w w'
theorem mackey_L (A0 : Option Addr) (c0 : Nat) (l0 : List Int) (A1 : Option Addr) (c1 : Nat) (l1 : List Int) (rounds long : Int) (r L : Nat) (w : World) (hC0 : Kd.C (Kd.int .u8) w A0 l0.length l0) (hc0 : l0.length ≤ c0) (hb0 : ∀ x ∈ l0, byteOk x)
    (hC1 : Kd.C (Kd.int .u8) w A1 l1.length l1) (hc1 : l1.length ≤ c1) (hb1 : ∀ x ∈ l1, byteOk x) (hs0 : l0.length + 200 < 140737488355328) (hs1 : l1.length + 300 < 140737488355328) (hr : rounds = (r : Int) + 1) (hl : long = (L : Int)) (hr2 : r + 1 ≤ 5000) (hL : L ≤ 1000) :
    Calls Try.prog 24 #[.slice A0 l0.length c0, .slice A1 l1.length c1, .int .i64 rounds, .int .i64 long] w (KeyL L (pkey l0 l1 r L) w) := by
  subst hl
  refine (mackey_calls A0 c0 l0 A1 c1 l1 rounds r L w hr hC0 hc0 hb0 hC1 hc1 hb1 hs0 hs1 hr2 hL).mono ?_
  rintro e w' ⟨A, c, rfl, hc, hC, hb⟩
  have hl := pkey_len l0 l1 r L
  unfold KeyL
  rw [hl] at hc hC ⊢
  exact ⟨A, c, rfl, hc, hC, hb⟩
theorem macsum_n (A0 : Option Addr) (n0 c0 : Nat) (l0 : List Int) (A1 : Option Addr) (n1 c1 : Nat) (l1 : List Int) (w : World) (e0 : l0.length = n0) (e1 : l1.length = n1) (hC0 : Kd.C (Kd.int .u8) w A0 n0 l0) (hc0 : n0 ≤ c0) (hb0 : ∀ x ∈ l0, byteOk x)
    (hC1 : Kd.C (Kd.int .u8) w A1 n1 l1) (hc1 : n1 ≤ c1) (hb1 : ∀ x ∈ l1, byteOk x) (hs0 : n0 < 2305843009213692000) (hs1 : n1 < 2305843009213692000) :
    Calls Try.prog 21 #[.slice A0 n0 c0, .slice A1 n1 c1] w fun e w' => e = .returned (.agg (u8s (hm l0 l1)).toArray) ∧ Below w.heap.size w w' := by
  subst e0
  subst e1
  exact macsum_calls A0 c0 l0 A1 c1 l1 w hC0 hc0 hb0 hC1 hc1 hb1 hs0 hs1
theorem pkey_one (pw salt : List Int) (L : Nat) (h : L ≤ 20) : pkey pw salt 0 L = (hm pw (salt ++ [0, 0, 0, 1])).take L := by
  by_cases h0 : L = 0
  · subst h0; rfl
  · have e : (L + 19) / 20 = 1 := by omega
    unfold pkey
    rw [e]
    rfl

set_option maxHeartbeats 4000000 in
set_option maxRecDepth 100000 in
theorem one_early (v0 v1 : Value) (y : Int) (w : World) (h : y < 0 ∨ 20 < y) :
    Calls Try.prog 13 #[v0, v1, .int .i64 y] w fun e w' => e = .returned (.bool true) ∧ Below w.heap.size w w' := by
  have hp : (y < 0) ∨ (¬ y < 0 ∧ 20 < y) := by omega
  clear h
  rcases hp with h1 | ⟨h1, h2⟩
  all_goals
    go_enter Try.func13, Try.ntmps13
    go_wp2_with (first | (go_at_call 20; (with_reducible refine (alive11_calls _).mono ?_); rintro e w1 ⟨rfl, hb1⟩; have HB1 := Aside0.mk hb1; clear hb1) | fail)
    go_ret
    exact ⟨rfl, HB1.out⟩

set_option maxHeartbeats 4000000 in
set_option maxRecDepth 100000 in
theorem one_late (A0 : Option Addr) (c0 : Nat) (l0 : List Int) (A1 : Option Addr) (c1 : Nat) (l1 : List Int) (L : Nat) (w : World) (hC0 : Kd.C (Kd.int .u8) w A0 l0.length l0) (hc0 : l0.length ≤ c0) (hb0 : ∀ x ∈ l0, byteOk x)
    (hC1 : Kd.C (Kd.int .u8) w A1 l1.length l1) (hc1 : l1.length ≤ c1) (hb1 : ∀ x ∈ l1, byteOk x) (hs0 : l0.length + 200 < 140737488355328) (hs1 : l1.length + 304 < 140737488355328) (hL : L ≤ 20) :
    Calls Try.prog 13 #[.slice A0 l0.length c0, .slice A1 l1.length c1, .int .i64 (L : Int)] w fun e w' => e = .returned (.bool true) ∧ Below w.heap.size w w' := by
  have HC0 := Aside0.mk hC0
  have HC1 := Aside0.mk hC1
  have HY0 := Aside0.mk hb0
  have HY1 := Aside0.mk hb1
  clear hC0 hC1 hb0 hb1
  have hz24 := zero24'
  have k1 : ¬ (L : Int) < 0 := by omega
  have k2 : ¬ (20 : Int) < (L : Int) := by omega
  have k3 : (L : Int) ≤ 20 := by omega
  have k4 : (0 : Int) ≤ (L : Int) := by omega
  have hp1 := Aside0.mk (pkey_one l0 l1 L hL)
  have hM0 : Aside0 ((([] : List Int).length + l1.length) * 1 ≤ 140737488355328) := ⟨by simp; omega⟩
  have hM1 : Aside0 ((l1.length + 4) * 1 ≤ 140737488355328) := ⟨by omega⟩
  have hl4 : Aside0 ((l1 ++ [0, 0, 0, 1]).length = l1.length + 4) := ⟨by simp⟩
  have hy4 : Aside0 (∀ x ∈ l1 ++ [0, 0, 0, 1], byteOk x) := ⟨fun x hx => (List.mem_append.1 hx).elim (HY1.out x) (lit_byte _ (by decide) x)⟩
  have hs20 : Aside0 (∀ T, (u8s (hm l0 T)).toArray.size = 20) := ⟨fun T => by rw [List.size_toArray, u8s_len, hm_len]⟩
  go_enter Try.func13, Try.ntmps13
  go_upto_region 5 with (first
    | (go_at_call 24; (with_reducible refine (mackey_L A0 c0 l0 A1 c1 l1 1 (L : Int) 0 L _ HC0.out hc0 HY0.out HC1.out hc1 HY1.out hs0 (by omega) rfl rfl (by decide) (by omega)).mono ?_); rintro e w1 ⟨Ak, ck, rfl, hck, hCk, hb1⟩; have HB1 := Aside0.mk hb1; have HCk := Aside0.mk hCk; have HC01 := Aside0.mk (Kd.C_below HC0.out hb1); have HC11 := Aside0.mk (Kd.C_below HC1.out hb1); clear hCk hb1)
    | (refine Kd.R_append_rows (Kd.int .u8) (w0 := w1) w1.heap.size rfl (.tmp 25) (.tmp 26) 22 5 (.int .u8 0) 1 rfl Try.underlying22 info5 rfl (by decide) (by decide) _ [] l1 _ _ _ (fun _ => True) (fun _ => False) rfl rfl (R_litB w1 w1.heap.size (Nat.le_refl _)) (Kd.C_below HC11.out (below_alloc (Below.refl _ _) _)) (fun _ _ h => h) (fun _ h => h.elim) (fun _ _ => trivial) (below_alloc (Below.refl _ _) _) (by simp) hM0.out ?_; intro v1 w2 ho hb hg hat; rw [List.nil_append] at ho; obtain ⟨A2, c2, hx⟩ := Kd.R_slice ho; subst hx; have HO2 := Aside0.mk ho; have HB2 := Aside0.mk hb; clear ho hb hg hat)
    | (refine Kd.R_append_rows (Kd.int .u8) (w0 := w1) w1.heap.size rfl (.tmp 27) (.tmp 28) 22 5 (.int .u8 0) 1 rfl Try.underlying22 info5 rfl (by decide) (by decide) _ l1 [0, 0, 0, 1] _ 4 4 (fun _ => True) (fun _ => False) rfl rfl (Kd.R_alloc HO2.out _) (C_four _ _ _ _ _ _ (blk_new _ _)) (fun _ _ h => h) (fun _ h => h.elim) (fun _ _ => trivial) (below_alloc HB2.out _) (by have := HB2.out.size; simp; omega) hM1.out ?_; intro v1 w3 ho hb hg hat; obtain ⟨A3, c3, hx⟩ := Kd.R_slice ho; subst hx; have hc3 := (Kd.R_reads' ho).2.1; have hC3 := (Kd.R_reads' ho).2.2; rw [hl4.out] at hc3 hC3; have HC3 := Aside0.mk hC3; clear hC3; have HCk3 := Aside0.mk (Kd.C_below HCk.out hb); have HC03 := Aside0.mk (Kd.C_below HC01.out hb); have HB3 := Aside0.mk (below_step HB1.out hb); clear ho hb hg hat)
    | (go_at_call 21; (with_reducible refine (macsum_n A0 _ c0 l0 A3 (l1.length + 4) c3 (l1 ++ [0, 0, 0, 1]) _ rfl hl4.out HC03.out hc0 HY0.out HC3.out hc3 hy4.out (by omega) (by omega)).mono ?_); rintro e w4 ⟨rfl, hb4⟩; have HB4 := Aside0.mk (below_step HB3.out hb4); have HCk4 := Aside0.mk (Kd.C_below HCk3.out hb4); clear hb4)
    | (refine wpList_store_row rfl 24 _ _ rfl w4.heap.size _ rfl rfl 24 _ (blk_new _ _) (by rw [hs20.out]; kernel_rfl) (by rw [hs20.out]; kernel_rfl) (all_one (u8s_one _)) ?_)
    | fail)
  generalize hD : hm l0 (l1 ++ [0, 0, 0, 1]) = d at *
  have hdl : Aside0 (d.length = 20) := ⟨by rw [← hD]; exact hm_len _ _⟩
  replace hD := Aside0.mk hD
  generalize hw5 : World.setRow _ _ _ = w5
  have hs4 := HB4.out.size
  have HD5 : Aside0 (w5.heap[w4.heap.size]? = some (.cells (u8s d).toArray 24 (0, 0))) := ⟨by rw [← hw5]; exact setRow_heap _ _ _ _ _ _ (blk_new w4 (.cells (u8s z20).toArray 24))⟩
  have HX5 : Aside0 (Below w4.heap.size w4 w5) := ⟨by rw [← hw5]; exact below_setRow (below_alloc (Below.refl _ _) _) (Nat.le_refl _) _⟩
  have HB5 := Aside0.mk (below_step HB4.out HX5.out)
  have HCk5 := Aside0.mk (Kd.C_below HCk4.out HX5.out)
  clear hw5 HX5 HB4 HCk4
  have HB6 : Aside0 (Below w.heap.size w w5.drew) := ⟨below_drew HB5.out⟩
  have hstr : Aside0 (∀ W, Kd.C (Kd.int .u8) W Ak L (pkey l0 l1 0 L) → W.heap[w4.heap.size]? = some (.cells (u8s d).toArray 24 (0, 0)) → (convert 22 9 (.slice Ak L ck)).run Try.prog W = .ok (.string (strOfNums (pkey l0 l1 0 L))) W ∧ (convert 22 9 (.slice (some ⟨w4.heap.size, 0, none⟩) L 20)).run Try.prog W = .ok (.string (strOfNums (pkey l0 l1 0 L))) W) :=
    ⟨fun W h0 h1 => ⟨str_of h0, by
      have h2 := C_rowT h1 (by rw [hdl.out]; decide)
      have h3 := Kd.C_take (m := L) h2 (by rw [hdl.out]; exact hL)
      rw [hp1.out]
      rw [List.length_take, Nat.min_eq_left (by rw [hdl.out]; exact hL)] at h3
      exact str_of h3⟩⟩
  have HE0 := Aside0.mk (hstr.out w5.drew HCk5.out HD5.out)
  go_region_held3 (fun w' => (convert 22 9 (.slice Ak L ck)).run Try.prog w' = .ok (.string (strOfNums (pkey l0 l1 0 L))) w' ∧ (convert 22 9 (.slice (some ⟨w4.heap.size, 0, none⟩) L 20)).run Try.prog w' = .ok (.string (strOfNums (pkey l0 l1 0 L))) w') (first | exact HE0.out | exact HE1.out | assumption) (first
    | (go_at_call 20; (with_reducible refine (alive11_calls _).mono ?_); rintro e w6 ⟨rfl, hb6⟩; have HB7 := Aside0.mk (below_step HB6.out hb6); have HE1 := Aside0.mk (hstr.out w6 (Kd.C_below HCk5.out (below_then (below_drew (Below.refl _ _)) (Nat.le_refl _) hb6)) (blk_below HD5.out (below_then (below_drew (Below.refl _ _)) (Nat.le_refl _) hb6))); clear hb6)
    | fail)
  go_wp2_with fail
  go_ret
  exact ⟨by first | rfl | simp, HB7.out⟩
theorem macone_calls (A0 : Option Addr) (c0 : Nat) (l0 : List Int) (A1 : Option Addr) (c1 : Nat) (l1 : List Int) (y : Int) (w : World) (hC0 : Kd.C (Kd.int .u8) w A0 l0.length l0) (hc0 : l0.length ≤ c0) (hb0 : ∀ x ∈ l0, byteOk x)
    (hC1 : Kd.C (Kd.int .u8) w A1 l1.length l1) (hc1 : l1.length ≤ c1) (hb1 : ∀ x ∈ l1, byteOk x) (hs0 : l0.length + 200 < 140737488355328) (hs1 : l1.length + 304 < 140737488355328) :
    Calls Try.prog 13 #[.slice A0 l0.length c0, .slice A1 l1.length c1, .int .i64 y] w fun e w' => e = .returned (.bool true) ∧ Below w.heap.size w w' := by
  by_cases h : y < 0 ∨ 20 < y
  · exact one_early _ _ y w h
  · obtain ⟨L, rfl⟩ := Int.eq_ofNat_of_zero_le (show 0 ≤ y by omega)
    exact one_late A0 c0 l0 A1 c1 l1 L w hC0 hc0 hb0 hC1 hc1 hb1 hs0 hs1 (by omega)
end Go.Proofs.Ytfgponalmhocmaa.D
