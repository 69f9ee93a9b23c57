/- A sum with a key, and a key out of a password, as plain functions: no program in sight. -/
import Derived.Test.YtfgponalmhocmaaVb
import Derived.Laws.BitsAllLaws
namespace Go.Proofs.Ytfgponalmhocmaa.V
open Go.RowKit Go.Proofs.YtfgponalmhocmaaW.PrintWords Go.Proofs.YtfgponalmhocmaaW.PrintLast Go.Proofs.YtfgponalmhocmaaW.PrintMore
set_option linter.unusedVariables false

theorem xor_byte (x y : Int) (hx : byteOk x) (hy : byteOk y) : byteOk (Go.bits .xor .u8 x y) := by
  obtain ⟨x0, x1⟩ := hx
  obtain ⟨y0, y1⟩ := hy
  rw [u8_xor x y x0 x1 y0 y1]
  have := Nat.xor_lt_two_pow (n := 8) (x := x.toNat) (y := y.toNat) (by omega) (by omega)
  exact ⟨by omega, by omega⟩
theorem be4_byte (x : Int) : ∀ y ∈ be4 x, byteOk y := by
  intro y hy
  simp only [be4, List.mem_cons, List.not_mem_nil, or_false] at hy
  rcases hy with rfl | rfl | rfl | rfl <;> exact ⟨Int.emod_nonneg _ (by decide), Int.emod_lt_of_pos _ (by decide)⟩
theorem dig_byte (T : List Int) : ∀ x ∈ dig T, byteOk x := by
  intro x hx
  unfold dig at hx
  rw [List.mem_flatMap] at hx
  obtain ⟨y, _, h⟩ := hx
  exact be4_byte y x h
/-- A key as a block. -/
def kcut (key : List Int) : List Int := if 64 < key.length then dig key else key
def kpad (key : List Int) : List Int := kcut key ++ List.replicate (64 - (kcut key).length) 0
theorem kcut_le (key : List Int) : (kcut key).length ≤ 64 := by
  unfold kcut
  split
  · rw [dig_len]; omega
  · omega
theorem kcut_byte (key : List Int) (h : ∀ x ∈ key, byteOk x) : ∀ x ∈ kcut key, byteOk x := by
  unfold kcut
  split
  · exact dig_byte key
  · exact h
theorem kpad_len (key : List Int) : (kpad key).length = 64 := by
  have := kcut_le key
  simp [kpad]; omega
theorem kpad_byte (key : List Int) (h : ∀ x ∈ key, byteOk x) : ∀ x ∈ kpad key, byteOk x := by
  intro x hx
  unfold kpad at hx
  rcases List.mem_append.1 hx with hx | hx
  · exact kcut_byte key h x hx
  · rw [List.mem_replicate] at hx; rw [hx.2]; exact ⟨by omega, by omega⟩
/-- Each byte xored with one. -/
def xk (x : Int) (k : List Int) : List Int := k.map fun b => Go.bits .xor .u8 b x
theorem xk_len (x : Int) (k : List Int) : (xk x k).length = k.length := by simp [xk]
theorem xk_byte (x : Int) (k : List Int) (hx : byteOk x) (h : ∀ y ∈ k, byteOk y) : ∀ y ∈ xk x k, byteOk y := by
  intro y hy
  simp only [xk, List.mem_map] at hy
  obtain ⟨b, hb, rfl⟩ := hy
  exact xor_byte _ _ (h b hb) hx
/-- One byte more that is xored. -/
theorem xk_step (x : Int) (k : List Int) (i : Nat) (h : i < k.length) : ((xk x k).take i ++ k.drop i).set i (Go.bits .xor .u8 (k.getD i 0) x) = (xk x k).take (i + 1) ++ k.drop (i + 1) := by
  have h1 : i < (xk x k).length := by rw [xk_len]; exact h
  have e1 : ((xk x k).take i).length = i := by simp; omega
  rw [List.set_append_right _ _ (by omega), e1, Nat.sub_self, List.drop_eq_getElem_cons h, List.set_cons_zero, List.take_add_one, List.getElem?_eq_getElem h1]
  simp [xk, List.getD_eq_getElem?_getD, h]
theorem xk_get (x : Int) (k : List Int) (i : Nat) (h : i < k.length) : ((xk x k).take i ++ k.drop i).getD i 0 = k.getD i 0 := by
  have e1 : ((xk x k).take i).length = i := by rw [List.length_take, xk_len]; omega
  rw [List.getD_eq_getElem?_getD, List.getElem?_append_right (by omega), e1, Nat.sub_self, List.getElem?_drop, Nat.add_zero, List.getD_eq_getElem?_getD]
theorem xk_mid_len (x : Int) (k : List Int) (i : Nat) (h : i ≤ k.length) : ((xk x k).take i ++ k.drop i).length = k.length := by
  rw [List.length_append, List.length_take, xk_len, List.length_drop]; omega
/-- The sum of bytes with a key. -/
def hm (key b : List Int) : List Int := dig (xk 92 (kpad key) ++ dig (xk 54 (kpad key) ++ b))
theorem hm_len (key b : List Int) : (hm key b).length = 20 := dig_len _
theorem hm_byte (key b : List Int) : ∀ x ∈ hm key b, byteOk x := dig_byte _
theorem lay_zero (key : List Int) : lay (List.replicate 64 0) 0 (kcut key) = kpad key := by
  have := kcut_le key
  unfold lay kpad
  rw [Nat.zero_add, List.drop_replicate, List.take_zero, List.nil_append]
/-- Two rows of bytes xored, place by place. -/
def xz (t u : List Int) : List Int := List.zipWith (fun a b => Go.bits .xor .u8 a b) t u
theorem xz_len (t u : List Int) (ht : t.length = 20) (hu : u.length = 20) : (xz t u).length = 20 := by simp [xz, ht, hu]
theorem xz_byte (t u : List Int) (ht : ∀ x ∈ t, byteOk x) (hu : ∀ x ∈ u, byteOk x) : ∀ x ∈ xz t u, byteOk x := by
  intro x hx
  unfold xz at hx
  rw [List.mem_iff_getElem] at hx
  obtain ⟨i, hi, rfl⟩ := hx
  rw [List.length_zipWith] at hi
  rw [List.getElem_zipWith]
  exact xor_byte _ _ (ht _ (List.getElem_mem _)) (hu _ (List.getElem_mem _))
theorem xz_step (t u : List Int) (i : Nat) (ht : t.length = 20) (hu : u.length = 20) (h : i < 20) : ((xz t u).take i ++ t.drop i).set i (Go.bits .xor .u8 (t.getD i 0) (u.getD i 0)) = (xz t u).take (i + 1) ++ t.drop (i + 1) := by
  have h0 : i < t.length := by omega
  have h2 : i < u.length := by omega
  have h1 : i < (xz t u).length := by rw [xz_len _ _ ht hu]; exact h
  have e1 : ((xz t u).take i).length = i := by simp; omega
  rw [List.set_append_right _ _ (by omega), e1, Nat.sub_self, List.drop_eq_getElem_cons h0, List.set_cons_zero, List.take_add_one, List.getElem?_eq_getElem h1]
  simp [xz, List.getD_eq_getElem?_getD, h0, h2]
theorem xz_get (t u : List Int) (i : Nat) (ht : t.length = 20) (hu : u.length = 20) (h : i < 20) : ((xz t u).take i ++ t.drop i).getD i 0 = t.getD i 0 := by
  have e1 : ((xz t u).take i).length = i := by rw [List.length_take, xz_len _ _ ht hu]; omega
  rw [List.getD_eq_getElem?_getD, List.getElem?_append_right (by omega), e1, Nat.sub_self, List.getElem?_drop, Nat.add_zero, List.getD_eq_getElem?_getD]
theorem xz_mid_len (t u : List Int) (i : Nat) (ht : t.length = 20) (hu : u.length = 20) (h : i ≤ 20) : ((xz t u).take i ++ t.drop i).length = 20 := by
  rw [List.length_append, List.length_take, xz_len _ _ ht hu, List.length_drop]; omega
/-- The n + 1st sum of a block of a key, and the xor of the first n + 1. -/
def uu (pw first : List Int) : Nat → List Int
  | 0 => hm pw first
  | n + 1 => hm pw (uu pw first n)
def tt (pw first : List Int) : Nat → List Int
  | 0 => hm pw first
  | n + 1 => xz (tt pw first n) (uu pw first (n + 1))
theorem uu_len (pw first : List Int) (n : Nat) : (uu pw first n).length = 20 := by cases n <;> exact hm_len _ _
theorem uu_byte (pw first : List Int) (n : Nat) : ∀ x ∈ uu pw first n, byteOk x := by cases n <;> exact hm_byte _ _
theorem tt_len (pw first : List Int) (n : Nat) : (tt pw first n).length = 20 := by
  induction n with
  | zero => exact hm_len _ _
  | succ n ih => exact xz_len _ _ ih (uu_len _ _ _)
theorem tt_byte (pw first : List Int) (n : Nat) : ∀ x ∈ tt pw first n, byteOk x := by
  induction n with
  | zero => exact hm_byte _ _
  | succ n ih => exact xz_byte _ _ ih (uu_byte _ _ _)
/-- A salt and a block's number. -/
def num (salt : List Int) (i : Nat) : List Int := salt ++ [0, 0, ((i : Int) / 256) % 256, (i : Int) % 256]
theorem num_len (salt : List Int) (i : Nat) : (num salt i).length = salt.length + 4 := by simp [num]
theorem num_byte (salt : List Int) (i : Nat) (h : ∀ x ∈ salt, byteOk x) : ∀ x ∈ num salt i, byteOk x := by
  intro x hx
  unfold num at hx
  rcases List.mem_append.1 hx with hx | hx
  · exact h x hx
  · simp only [List.mem_cons, List.not_mem_nil, or_false] at hx
    rcases hx with rfl | rfl | rfl | rfl
    · exact ⟨by decide, by decide⟩
    · exact ⟨by decide, by decide⟩
    · exact ⟨Int.emod_nonneg _ (by decide), Int.emod_lt_of_pos _ (by decide)⟩
    · exact ⟨Int.emod_nonneg _ (by decide), Int.emod_lt_of_pos _ (by decide)⟩
/-- The first n blocks of a key of r + 1 rounds. -/
def blocks (pw salt : List Int) (r : Nat) : Nat → List Int
  | 0 => []
  | n + 1 => blocks pw salt r n ++ tt pw (num salt (n + 1)) r
theorem blocks_len (pw salt : List Int) (r n : Nat) : (blocks pw salt r n).length = 20 * n := by
  induction n with
  | zero => rfl
  | succ n ih => simp [blocks, ih, tt_len]; omega
theorem blocks_byte (pw salt : List Int) (r n : Nat) : ∀ x ∈ blocks pw salt r n, byteOk x := by
  induction n with
  | zero => simp [blocks]
  | succ n ih =>
    intro x hx
    rcases List.mem_append.1 hx with hx | hx
    · exact ih x hx
    · exact tt_byte _ _ _ x hx
theorem blocks_take (pw salt : List Int) (r m n : Nat) (h : m ≤ n) : (blocks pw salt r n).take (20 * m) = blocks pw salt r m := by
  induction n with
  | zero => obtain rfl : m = 0 := by omega
            rfl
  | succ n ih =>
    by_cases e : m = n + 1
    · subst e
      rw [← blocks_len pw salt r (n + 1), List.take_length]
    · rw [blocks, List.take_append_of_le_length (by rw [blocks_len]; omega)]
      exact ih (by omega)
/-- A key of so many bytes. -/
def pkey (pw salt : List Int) (r long : Nat) : List Int := (blocks pw salt r ((long + 19) / 20)).take long
theorem pkey_len (pw salt : List Int) (r long : Nat) : (pkey pw salt r long).length = long := by
  unfold pkey
  rw [List.length_take, blocks_len]; omega
theorem pkey_begin (pw salt : List Int) (r m n : Nat) (h : m ≤ n) : (pkey pw salt r n).take m = pkey pw salt r m := by
  unfold pkey
  rw [List.take_take, Nat.min_eq_left h, ← blocks_take pw salt r ((m + 19) / 20) ((n + 19) / 20) (by omega), List.take_take, Nat.min_eq_left (by omega)]
end Go.Proofs.Ytfgponalmhocmaa.V
