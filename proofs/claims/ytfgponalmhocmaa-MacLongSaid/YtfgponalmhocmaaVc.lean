/- The reference's row of words and its message, as printed, come to the plain words and to the plain padding. -/
import Derived.Test.YtfgponalmhocmaaVb
import Derived.Test.YtfgponalmhocmaaHAx
namespace Go.Proofs.Ytfgponalmhocmaa.V
open Go.RowKit Go.Proofs.YtfgponalmhocmaaW.PrintWords Go.Proofs.YtfgponalmhocmaaW.PrintLast Go.Proofs.YtfgponalmhocmaaW.PrintMore
open Go.Proofs.Ytfgponalmhocmaa.HA
set_option linter.unusedVariables false

theorem w64 (n m : Int) (e : n = m) (h : -9223372036854775808 ≤ n ∧ n ≤ 9223372036854775807) : wrap64 n = m := by subst e; exact IntWalk.wrap64_in n h
theorem left_f (x : Int) (n : Int) (h0 : 0 ≤ n) (h1 : n ≤ 32) : wainloadref10_left.f x n = some (rot x n) := by
  unfold wainloadref10_left.f rot
  have e : wrap64 (32 - n) = 32 - n := w64 _ _ (by omega) (by omega)
  rw [if_pos h0, e, if_pos (by omega)]
theorem bget (wt : List Int) (h : ∀ x ∈ wt, byteOk x) (i : Nat) : 0 ≤ wt.getD i 0 ∧ wt.getD i 0 < 256 := by
  by_cases c : i < wt.length
  · have e : wt.getD i 0 = wt[i] := by simp [List.getD, List.getElem?_eq_getElem c]
    rw [e]; exact h _ (List.getElem_mem c)
  · have e : wt.getD i 0 = 0 := by simp [List.getD, List.getElem?_eq_none (show wt.length ≤ i by omega)]
    rw [e]; omega
theorem row_l0 (wt : List Int) (h64 : wt.length = 64) (hb : ∀ x ∈ wt, byteOk x) (k : Nat) : ∀ d i : Nat, i + d = 16 → wainloadref10_row.l0 (d + (k + 1)) wt (wds wt i) i = wainloadref10_row.l1 k (wds wt 16) 16
  | 0, i, h => by
    have : i = 16 := by omega
    subst this
    rw [Nat.zero_add, wainloadref10_row.l0, if_neg (by decide)]
  | d + 1, i, h => by
    have w4 : wrap64 (4 * (i : Int)) = 4 * (i : Int) := w64 _ _ (by omega) (by omega)
    have w41 : wrap64 (4 * (i : Int) + 1) = 4 * (i : Int) + 1 := w64 _ _ (by omega) (by omega)
    have w42 : wrap64 (4 * (i : Int) + 2) = 4 * (i : Int) + 2 := w64 _ _ (by omega) (by omega)
    have w43 : wrap64 (4 * (i : Int) + 3) = 4 * (i : Int) + 3 := w64 _ _ (by omega) (by omega)
    have wi : wrap64 ((i : Int) + 1) = ((i + 1 : Nat) : Int) := w64 _ _ (by omega) (by omega)
    have b0 := bget wt hb (4 * i)
    have b1 := bget wt hb (4 * i + 1)
    have b2 := bget wt hb (4 * i + 2)
    have b3 := bget wt hb (4 * i + 3)
    have n0 : (4 * (i : Int)).toNat = 4 * i := by omega
    have n1 : (4 * (i : Int) + 1).toNat = 4 * i + 1 := by omega
    have n2 : (4 * (i : Int) + 2).toNat = 4 * i + 2 := by omega
    have n3 : (4 * (i : Int) + 3).toNat = 4 * i + 3 := by omega
    rw [show d + 1 + (k + 1) = (d + (k + 1)) + 1 by omega, wainloadref10_row.l0, if_pos (by omega), w4, if_pos (by omega), if_pos (by omega), w41, if_pos (by omega), if_pos (by omega), w42, if_pos (by omega), if_pos (by omega), w43, if_pos (by omega), if_pos (by omega), if_pos (by rw [wds_len]; omega), wi]
    rw [← row_l0 wt h64 hb k d (i + 1) (by omega)]
    refine congrArg (fun l => wainloadref10_row.l0 (d + (k + 1)) wt l ((i + 1 : Nat) : Int)) ?_
    show wds wt i ++ _ = wds wt i ++ _
    refine congrArg (fun x => wds wt i ++ [x]) ?_
    unfold wd rd
    rw [if_pos (show i < 16 by omega), n0, n1, n2, n3]
    omega
theorem row_l1 (wt : List Int) : ∀ d t : Nat, t + d = 80 → 16 ≤ t → wainloadref10_row.l1 (d + 1) (wds wt t) t = some (wds wt 80)
  | 0, t, h, h16 => by
    have : t = 80 := by omega
    subst this
    rw [wainloadref10_row.l1, if_neg (by decide)]
  | d + 1, t, h, h16 => by
    have w3 : wrap64 ((t : Int) - 3) = (t : Int) - 3 := w64 _ _ (by omega) (by omega)
    have w8 : wrap64 ((t : Int) - 8) = (t : Int) - 8 := w64 _ _ (by omega) (by omega)
    have w14 : wrap64 ((t : Int) - 14) = (t : Int) - 14 := w64 _ _ (by omega) (by omega)
    have w16 : wrap64 ((t : Int) - 16) = (t : Int) - 16 := w64 _ _ (by omega) (by omega)
    have wi : wrap64 ((t : Int) + 1) = ((t + 1 : Nat) : Int) := w64 _ _ (by omega) (by omega)
    have hl := wds_len wt t
    have n3 : ((t : Int) - 3).toNat = t - 3 := by omega
    have n8 : ((t : Int) - 8).toNat = t - 8 := by omega
    have n14 : ((t : Int) - 14).toNat = t - 14 := by omega
    have n16 : ((t : Int) - 16).toNat = t - 16 := by omega
    rw [wainloadref10_row.l1, if_pos (by omega), w3, if_pos (by omega), if_pos (by rw [hl]; omega), w8, if_pos (by omega), if_pos (by rw [hl]; omega), w14, if_pos (by omega), if_pos (by rw [hl]; omega), w16, if_pos (by omega), if_pos (by rw [hl]; omega),
      left_f _ 1 (by decide) (by decide), Option.bind_some, if_pos (by rw [hl]; omega), wi, ← row_l1 wt d (t + 1) (by omega) (by omega)]
    refine congrArg (fun l => wainloadref10_row.l1 (d + 1) l ((t + 1 : Nat) : Int)) ?_
    show wds wt t ++ _ = wds wt t ++ _
    refine congrArg (fun x => wds wt t ++ [x]) ?_
    unfold wd rd
    rw [if_neg (show ¬ t < 16 by omega), n3, n8, n14, n16]
theorem row_f (wt : List Int) (h64 : wt.length = 64) (hb : ∀ x ∈ wt, byteOk x) : wainloadref10_row.f 82 wt = some (wds wt 80) := by
  have h1 := row_l0 wt h64 hb 65 16 0 rfl
  have h2 := row_l1 wt 64 16 rfl (Nat.le_refl _)
  unfold wainloadref10_row.f
  exact h1.trans h2

/-! ### The message -/
theorem msg_step (X x5 : List Int) (k : Nat) (y i : Int) (hi : 0 ≤ i ∧ i < 8) (h8 : x5.length = 8) (hy : 0 ≤ y ∧ y < 18446744073709551616) :
    wainloadref10_message.l1 (k + 1) X y x5 i = wainloadref10_message.l1 k X (y / 256) (x5.set i.toNat (y % 256)) (i - 1) := by
  have e : IntKind.u64.wrap (Int.tdiv y 256) = y / 256 := by
    rw [Int.tdiv_eq_ediv_of_nonneg hy.1, IntKind.wrap_u64]; omega
  have e2 : Int.tmod y 256 % 256 = y % 256 := by rw [Int.tmod_eq_emod_of_nonneg hy.1]; omega
  have q : wrap64 (i - 1) = i - 1 := w64 _ _ rfl (by omega)
  rw [wainloadref10_message.l1, if_pos (by omega), if_pos (by omega), if_pos (by rw [h8]; omega), e, e2, q]
theorem msg_l1 (X : List Int) (hX : X.length + 8 < 140737488355328) (k : Nat) (n : Int) (h0 : 0 ≤ n) (h1 : n < 18446744073709551616) : wainloadref10_message.l1 (k + 9) X n (List.replicate 8 0) 7 = some (X ++ be8 n) := by
  rw [msg_step _ _ (k + 8) _ _ (by omega) rfl (by omega), msg_step _ _ (k + 7) _ _ (by omega) rfl (by omega), msg_step _ _ (k + 6) _ _ (by omega) rfl (by omega), msg_step _ _ (k + 5) _ _ (by omega) rfl (by omega),
    msg_step _ _ (k + 4) _ _ (by omega) rfl (by omega), msg_step _ _ (k + 3) _ _ (by omega) rfl (by omega), msg_step _ _ (k + 2) _ _ (by omega) rfl (by omega), msg_step _ _ (k + 1) _ _ (by omega) rfl (by omega)]
  rw [wainloadref10_message.l1, if_neg (by decide), if_pos (by simp only [List.length_set, List.length_replicate]; exact hX)]
  refine congrArg (fun l => some (X ++ l)) ?_
  show [n / 256 / 256 / 256 / 256 / 256 / 256 / 256 % 256, n / 256 / 256 / 256 / 256 / 256 / 256 % 256, n / 256 / 256 / 256 / 256 / 256 % 256, n / 256 / 256 / 256 / 256 % 256, n / 256 / 256 / 256 % 256, n / 256 / 256 % 256, n / 256 % 256, n % 256] = be8 n
  have d2 : n / 256 / 256 = n / 65536 := by omega
  have d3 : n / 65536 / 256 = n / 16777216 := by omega
  have d4 : n / 16777216 / 256 = n / 4294967296 := by omega
  have d5 : n / 4294967296 / 256 = n / 1099511627776 := by omega
  have d6 : n / 1099511627776 / 256 = n / 281474976710656 := by omega
  have d7 : n / 281474976710656 / 256 = n / 72057594037927936 := by omega
  rw [d2, d3, d4, d5, d6, d7]
  rfl
theorem msg_l0 (T : List Int) (hT : T.length + 200 < 140737488355328) (k : Nat) : ∀ d j : Nat, j + d = padz T.length → wainloadref10_message.l0 (d + (k + 10)) T (T ++ [128] ++ List.replicate j 0) = some (padded T)
  | 0, j, h => by
    have hp : padz T.length < 64 := Nat.mod_lt _ (by omega)
    have hpz : padz T.length = (119 - T.length % 64) % 64 := rfl
    rw [show 0 + (k + 10) = (k + 9) + 1 by omega, wainloadref10_message.l0, if_pos (by simp; omega), if_pos (by decide)]
    have e1 : IntKind.u64.wrap (IntKind.u64.wrap (T.length : Int) * 8) = (T.length : Int) * 8 := by
      rw [IntKind.wrap_u64, IntKind.wrap_u64]; omega
    rw [e1, msg_l1 _ (by simp; omega) k _ (by omega) (by omega)]
    have : j = padz T.length := by omega
    subst this
    rfl
  | d + 1, j, h => by
    have hp : padz T.length < 64 := Nat.mod_lt _ (by omega)
    have hpz : padz T.length = (119 - T.length % 64) % 64 := rfl
    rw [show d + 1 + (k + 10) = (d + (k + 10)) + 1 by omega, wainloadref10_message.l0, if_neg (by simp; omega), if_pos (by simp; omega)]
    rw [← msg_l0 T hT k d (j + 1) (by omega)]
    rw [List.replicate_succ', ← List.append_assoc]
theorem msg_f (T : List Int) (hT : T.length + 200 < 140737488355328) : wainloadref10_message.f (padz T.length + 10) T = some (padded T) := by
  unfold wainloadref10_message.f
  simp only [Option.bind_some, List.nil_append, List.length_nil, Nat.zero_add]
  rw [if_pos (by omega), if_pos (by omega)]
  have := msg_l0 T hT 0 (padz T.length) 0 (by omega)
  simpa using this
end Go.Proofs.Ytfgponalmhocmaa.V
