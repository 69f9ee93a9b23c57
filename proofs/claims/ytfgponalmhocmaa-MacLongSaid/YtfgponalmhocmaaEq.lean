/- The law of long keys of layer 11: what a call comes to. -/
import Derived.Test.YtfgponalmhocmaaEn
namespace Go.Proofs.Ytfgponalmhocmaa.V
open Go.RowKit Go.Proofs.YtfgponalmhocmaaW.PrintWords Go.Proofs.YtfgponalmhocmaaW.PrintLast Go.Proofs.YtfgponalmhocmaaW.PrintMore
set_option linter.unusedVariables false
theorem kpad_dig (key : List Int) (h : 64 < key.length) : kpad (dig key) = kpad key := by
  have h1 : kcut key = dig key := by unfold kcut; rw [if_pos h]
  have h2 : kcut (dig key) = dig key := by unfold kcut; rw [if_neg (by rw [dig_len]; omega)]
  unfold kpad
  rw [h1, h2]
theorem hm_dig (key b : List Int) (h : 64 < key.length) : hm (dig key) b = hm key b := by unfold hm; rw [kpad_dig key h]
theorem kpad_zeros (key : List Int) (n : Nat) (h : key.length + n ≤ 64) : kpad (key ++ List.replicate n 0) = kpad key := by
  have h1 : kcut key = key := by unfold kcut; rw [if_neg (by omega)]
  have h2 : kcut (key ++ List.replicate n 0) = key ++ List.replicate n 0 := by unfold kcut; rw [if_neg (by simp; omega)]
  unfold kpad
  rw [h1, h2, List.append_assoc, List.replicate_append_replicate, List.length_append, List.length_replicate, show n + (64 - (key.length + n)) = 64 - key.length by omega]
theorem hm_zeros (key b : List Int) (n : Nat) (h : key.length + n ≤ 64) : hm (key ++ List.replicate n 0) b = hm key b := by unfold hm; rw [kpad_zeros key n h]
end Go.Proofs.Ytfgponalmhocmaa.V
namespace Go.Proofs.Ytfgponalmhocmaa.D
open Go.RowKit Go.Proofs.YtfgponalmhocmaaW.PrintWords Go.Proofs.YtfgponalmhocmaaW.PrintLast Go.Proofs.YtfgponalmhocmaaW.PrintMore
open Go.Proofs.Ytfgponalmhocmaa.HA Go.Proofs.Ytfgponalmhocmaa.V
set_option linter.unusedVariables false
set_option linter.unusedSimpArgs false

set_option maxHeartbeats 4000000 in
set_option maxRecDepth 100000 in
theorem mlong_early (A0 : Option Addr) (n0 c0 : Nat) (v1 : Value) (z : Int) (w : World) (h : 5000 < n0 ∨ z < 0) :
    Calls Try.prog 12 #[.slice A0 n0 c0, v1, .int .i64 z] w fun e w' => e = .returned (.bool true) ∧ Below w.heap.size w w' := by
  have hp : ((5000 : Int) < (n0 : Int)) ∨ (¬ (5000 : Int) < (n0 : Int) ∧ z < 0) := by omega
  clear h
  rcases hp with h1 | ⟨h1, h2⟩
  all_goals
    go_enter Try.func12, Try.ntmps12
    go_wp2_with (first | (go_at_call 20; (with_reducible refine (alive11_calls _).mono ?_); rintro e w1 ⟨rfl, hb1⟩; have HB1 := Aside0.mk hb1; clear hb1) | fail)
    go_ret
    exact ⟨rfl, HB1.out⟩

set_option maxHeartbeats 4000000 in
set_option maxRecDepth 100000 in
theorem mlong_dig (A0 : Option Addr) (c0 : Nat) (l0 : List Int) (A1 : Option Addr) (c1 : Nat) (l1 : List Int) (z : Int) (w : World) (hC0 : Kd.C (Kd.int .u8) w A0 l0.length l0) (hc0 : l0.length ≤ c0) (hb0 : ∀ x ∈ l0, byteOk x)
    (hC1 : Kd.C (Kd.int .u8) w A1 l1.length l1) (hc1 : l1.length ≤ c1) (hb1 : ∀ x ∈ l1, byteOk x) (hs0 : l0.length ≤ 5000) (h64 : 64 < l0.length) (hs1 : l1.length < 2305843009213692000) (hz : 0 ≤ z) :
    Calls Try.prog 12 #[.slice A0 l0.length c0, .slice A1 l1.length c1, .int .i64 z] w fun e w' => e = .returned (.bool true) ∧ Below w.heap.size w w' := by
  have HC0 := Aside0.mk hC0
  have HC1 := Aside0.mk hC1
  have HY0 := Aside0.mk hb0
  have HY1 := Aside0.mk hb1
  clear hC0 hC1 hb0 hb1
  have hz24 := zero24'
  have k1 : ¬ (5000 : Int) < (l0.length : Int) := by omega
  have k2 : ¬ z < 0 := by omega
  have k3 : (64 : Int) < (l0.length : Int) := by omega
  have hsz20 : Aside0 ((u8s (dig l0)).toArray.size = 20) := ⟨by simp [u8s_len, dig_len]⟩
  have hdl := Aside0.mk (dig_len l0)
  have hdb := Aside0.mk (dig_byte l0)
  have hkk := Aside0.mk (hm_dig l0 l1 h64)
  have heq := fun W => eq_u8s (hm l0 l1) (hm l0 l1) (hm_len _ _) (hm_len _ _) W
  go_enter Try.func12, Try.ntmps12
  go_upto_region 5 with (first
    | (go_at_call 16; (with_reducible refine (refsum_calls _ _ l0 _ HC0.out hc0 HY0.out (by omega)).mono ?_); rintro e w2 ⟨rfl, hb2⟩; have HB2 := Aside0.mk hb2; clear hb2)
    | (refine wpList_store_row rfl 24 _ _ rfl w2.heap.size _ rfl rfl 24 _ (blk_new _ _) (by rw [hsz20.out]; kernel_rfl) (by rw [hsz20.out]; kernel_rfl) (all_one (u8s_one _)) ?_)
    | fail)
  have hs2 := HB2.out.size
  generalize hw3 : World.setRow _ _ _ = w3
  have HD3 : Aside0 (w3.heap[w2.heap.size]? = some (.cells (u8s (dig l0)).toArray 24 (0, 0))) := ⟨by rw [← hw3]; exact setRow_heap _ _ _ _ _ _ (blk_new w2 (.cells (u8s z20).toArray 24))⟩
  have HB3 : Aside0 (Below w.heap.size w w3) := ⟨by rw [← hw3]; exact below_setRow (below_alloc HB2.out _) hs2 _⟩
  clear hw3 HB2
  have HB4 : Aside0 (Below w.heap.size w w3.drew) := ⟨below_drew HB3.out⟩
  have HD4 : Aside0 (w3.drew.heap[w2.heap.size]? = some (.cells (u8s (dig l0)).toArray 24 (0, 0))) := ⟨HD3.out⟩
  clear HB3 HD3
  go_region_held3 (fun _ => True) (trivial) (first
    | (go_at_call 20; (with_reducible refine (alive11_calls _).mono ?_); rintro e w5 ⟨rfl, hb5⟩; have HB5 := Aside0.mk (below_step HB4.out hb5); have HD5 := Aside0.mk (blk_below HD4.out hb5); have HC05 := Aside0.mk (Kd.C_below HC0.out HB5.out); have HC15 := Aside0.mk (Kd.C_below HC1.out HB5.out); clear hb5)
    | (go_at_call 21; (with_reducible refine (macsum_n A0 _ c0 l0 A1 _ c1 l1 _ rfl rfl HC05.out hc0 HY0.out HC15.out hc1 HY1.out (by omega) (by omega)).mono ?_); rintro e w6 ⟨rfl, hb6⟩; have HB6 := Aside0.mk (below_step HB5.out hb6); have HC16 := Aside0.mk (Kd.C_below HC15.out hb6); have HCd := Aside0.mk (C_rowT (blk_below HD5.out hb6) (by rw [hdl.out]; decide)); rw [hdl.out] at HCd; clear hb6)
    | (go_at_call 21; (with_reducible refine (macsum_n _ 20 20 (dig l0) A1 _ c1 l1 _ hdl.out rfl HCd.out (Nat.le_refl _) hdb.out HC16.out hc1 HY1.out (by decide) (by omega)).mono ?_); rintro e w7 ⟨rfl, hb7⟩; rw [hkk.out]; have HB7 := Aside0.mk (below_step HB6.out hb7); clear hb7)
    | fail)
  go_wp2_with fail
  go_ret
  exact ⟨by first | rfl | simp, HB7.out⟩

theorem R_append_zeros' {ops : Array Oper} {rest : List Oper} {o : Oper} {a : Act} {Q : Exit → Act → World → Prop} {w W : World} (s x : Operand) (xs : List Int) (v : Value) (m : Nat) (hgd : o.guard = none)
    (HO : Kd.R (Kd.int .u8) 5 W w.heap.size (fun _ => True) v xs) (HB : Below w.heap.size w W) (h0 : 0 ≤ m) (hl : (xs.length + m) * 1 ≤ 140737488355328)
    (ho : o.op = .call { callee := .builtin .append, args := #[s, x], argTypes := #[22, 3] }) (hs : a.eval s = v) (hx : ∃ n : Int, a.eval x = .int .i64 n ∧ n = (m : Int))
    (h : ∀ v1 w1, Kd.R (Kd.int .u8) 5 w1 w.heap.size (fun _ => True) v1 (xs ++ List.replicate m 0) → Below w.heap.size w w1 → wpList Try.prog ops Q rest (a.put o.dst v1) w1) :
    wpList Try.prog ops Q (o :: rest) a W := by
  obtain ⟨n, hn, rfl⟩ := hx
  refine Kd.R_append_zeros (Kd.int .u8) (w0 := w) w.heap.size hgd s x 22 3 5 (.int .u8 0) 1 ho Try.underlying22 Try.underlying3 info5 rfl (by decide) (by decide) v xs 0 (m : Int) (fun _ => True) hs hn rfl (fun _ _ => trivial) HO (by omega) HB HB.size (by simpa using hl) ?_
  intro v1 w1 ho hb _ _
  rw [Int.toNat_natCast] at ho
  exact h v1 w1 ho hb
set_option maxHeartbeats 4000000 in
set_option maxRecDepth 100000 in
theorem mlong_zeros (A0 : Option Addr) (c0 : Nat) (l0 : List Int) (n0 : Nat) (A1 : Option Addr) (c1 : Nat) (l1 : List Int) (z : Int) (w : World) (e0 : l0.length = n0) (hC0 : Kd.C (Kd.int .u8) w A0 n0 l0) (hc0 : n0 ≤ c0) (hb0 : ∀ x ∈ l0, byteOk x)
    (hC1 : Kd.C (Kd.int .u8) w A1 l1.length l1) (hc1 : l1.length ≤ c1) (hb1 : ∀ x ∈ l1, byteOk x) (h64 : n0 ≤ 64) (hs1 : l1.length < 2305843009213692000) (hz : 0 ≤ z) (m : Nat) (hmm : (z ≤ 64 - (n0 : Int) ∧ (m : Int) = z) ∨ (¬ z ≤ 64 - (n0 : Int) ∧ n0 + m = 64)) :
    Calls Try.prog 12 #[.slice A0 n0 c0, .slice A1 l1.length c1, .int .i64 z] w fun e w' => e = .returned (.bool true) ∧ Below w.heap.size w w' := by
  have HC0 := Aside0.mk hC0
  have HC1 := Aside0.mk hC1
  have HY0 := Aside0.mk hb0
  have HY1 := Aside0.mk hb1
  have E0 := Aside0.mk e0
  clear hC0 hC1 hb0 hb1 e0
  have k1 : ¬ (5000 : Int) < (n0 : Int) := by omega
  have k2 : ¬ z < 0 := by omega
  have k3 : ¬ (64 : Int) < (n0 : Int) := by omega
  have hM0 : Aside0 ((([] : List Int).length + n0) * 1 ≤ 140737488355328) := ⟨by simp; omega⟩
  have heq := fun W => eq_u8s (hm l0 l1) (hm l0 l1) (hm_len _ _) (hm_len _ _) W
  have hmz : n0 + m ≤ 64 := by omega
  have hll : Aside0 ((l0 ++ List.replicate m 0).length = n0 + m) := ⟨by simp [E0.out]⟩
  have hMz : Aside0 ((l0.length + m) * 1 ≤ 140737488355328) := ⟨by rw [E0.out]; omega⟩
  have hkz := Aside0.mk (hm_zeros l0 l1 m (by rw [E0.out]; exact hmz))
  have hyz : Aside0 (∀ x ∈ l0 ++ List.replicate m 0, byteOk x) := ⟨fun x hx => (List.mem_append.1 hx).elim (HY0.out x) (fun h => by rw [List.mem_replicate] at h; rw [h.2]; exact ⟨by decide, by decide⟩)⟩
  rcases hmm with ⟨hm1, hm2⟩ | ⟨hm1, hm2⟩
  all_goals
   replace hm2 := Aside0.mk hm2
   go_enter Try.func12, Try.ntmps12
   go_wp2_with (first
    | (refine Kd.R_append_rows (Kd.int .u8) (w0 := w) w.heap.size rfl (.tmp 32) (.tmp 33) 22 5 (.int .u8 0) 1 rfl Try.underlying22 info5 rfl (by decide) (by decide) _ [] l0 _ _ _ (fun _ => True) (fun _ => False) rfl rfl (R_litB w w.heap.size (Nat.le_refl _)) (Kd.C_below HC0.out (below_alloc (Below.refl _ _) _)) (fun _ _ h => h) (fun _ h => h.elim) (fun _ _ => trivial) (below_alloc (Below.refl _ _) _) (by simp) hM0.out ?_; intro v1 w2 ho hb hg hat; rw [List.nil_append] at ho; obtain ⟨A2, c2, hx⟩ := Kd.R_slice ho; subst hx; have HO2 := Aside0.mk ho; have HB2 := Aside0.mk hb; clear ho hb hg hat)
    | (refine R_append_zeros' (.tmp 34) (.tmp 39) l0 _ m (by rfl) HO2.out HB2.out (by omega) hMz.out (by rfl) (by rfl) ⟨_, by rfl, by have := hm2.out; omega⟩ ?_; intro v1 w3 ho hb; obtain ⟨A3, c3, hx⟩ := Kd.R_slice ho; subst hx; have hc3 := (Kd.R_reads' ho).2.1; have hC3 := (Kd.R_reads' ho).2.2; rw [hll.out] at hc3 hC3 ⊢; have HC3 := Aside0.mk hC3; have HB3 := Aside0.mk hb; clear hC3; have HC03 := Aside0.mk (Kd.C_below HC0.out hb); have HC13 := Aside0.mk (Kd.C_below HC1.out hb); clear ho hb)
    | (go_at_call 20; (with_reducible refine (alive11_calls _).mono ?_); rintro e w5 ⟨rfl, hb5⟩; have HB5 := Aside0.mk (below_step HB3.out hb5); have HC05 := Aside0.mk (Kd.C_below HC03.out hb5); have HC15 := Aside0.mk (Kd.C_below HC13.out hb5); have HC35 := Aside0.mk (Kd.C_below HC3.out hb5); clear hb5)
    | (go_at_call 21; (with_reducible refine (macsum_n A0 n0 c0 l0 A1 _ c1 l1 _ E0.out rfl HC05.out hc0 HY0.out HC15.out hc1 HY1.out (by omega) (by omega)).mono ?_); rintro e w6 ⟨rfl, hb6⟩; have HB6 := Aside0.mk (below_step HB5.out hb6); have HC16 := Aside0.mk (Kd.C_below HC15.out hb6); have HC36 := Aside0.mk (Kd.C_below HC35.out hb6); clear hb6)
    | (go_at_call 21; (with_reducible refine (macsum_n _ (n0 + m) _ (l0 ++ List.replicate m 0) A1 _ c1 l1 _ hll.out rfl HC36.out hc3 hyz.out HC16.out hc1 HY1.out (by omega) (by omega)).mono ?_); rintro e w7 ⟨rfl, hb7⟩; rw [hkz.out]; have HB7 := Aside0.mk (below_step HB6.out hb7); clear hb7)
    | fail)
   go_ret
   exact ⟨by first | rfl | simp, HB7.out⟩
theorem maclong_calls (A0 : Option Addr) (c0 : Nat) (l0 : List Int) (A1 : Option Addr) (c1 : Nat) (l1 : List Int) (z : Int) (w : World) (hC0 : Kd.C (Kd.int .u8) w A0 l0.length l0) (hc0 : l0.length ≤ c0) (hb0 : ∀ x ∈ l0, byteOk x)
    (hC1 : Kd.C (Kd.int .u8) w A1 l1.length l1) (hc1 : l1.length ≤ c1) (hb1 : ∀ x ∈ l1, byteOk x) (hs1 : l1.length < 2305843009213692000) :
    Calls Try.prog 12 #[.slice A0 l0.length c0, .slice A1 l1.length c1, .int .i64 z] w fun e w' => e = .returned (.bool true) ∧ Below w.heap.size w w' := by
  by_cases h : 5000 < l0.length ∨ z < 0
  · exact mlong_early A0 _ c0 _ z w h
  · by_cases h64 : 64 < l0.length
    · exact mlong_dig A0 c0 l0 A1 c1 l1 z w hC0 hc0 hb0 hC1 hc1 hb1 (by omega) h64 hs1 (by omega)
    · by_cases hz : z ≤ 64 - (l0.length : Int)
      · exact mlong_zeros A0 c0 l0 _ A1 c1 l1 z w rfl hC0 hc0 hb0 hC1 hc1 hb1 (by omega) hs1 (by omega) z.toNat (.inl ⟨hz, by omega⟩)
      · exact mlong_zeros A0 c0 l0 _ A1 c1 l1 z w rfl hC0 hc0 hb0 hC1 hc1 hb1 (by omega) hs1 (by omega) (64 - l0.length) (.inr ⟨hz, by omega⟩)
end Go.Proofs.Ytfgponalmhocmaa.D
