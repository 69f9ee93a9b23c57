/- A digest's state as a plain fact on what it was fed: no program in sight. -/
import Derived.Test.YtfgponalmhocmaaVa
namespace Go.Proofs.Ytfgponalmhocmaa.V
open Go.RowKit Go.Proofs.YtfgponalmhocmaaW.PrintWords Go.Proofs.YtfgponalmhocmaaW.PrintLast Go.Proofs.YtfgponalmhocmaaW.PrintMore
set_option linter.unusedVariables false

def H0 : List Int := [1732584193, 4023233417, 2562383102, 271733878, 3285377520]
/-- The state behind the first n blocks of T. -/
def chain : Nat → List Int → List Int
  | 0, _ => H0
  | n + 1, T => comp (chain n T) ((T.drop (64 * n)).take 64)
theorem chain_len (n : Nat) (T : List Int) : (chain n T).length = 5 := by cases n <;> rfl
theorem chain_app (T X : List Int) : ∀ n : Nat, 64 * n ≤ T.length → chain n (T ++ X) = chain n T
  | 0, _ => rfl
  | n + 1, h => by
    simp only [chain]
    rw [chain_app T X n (by omega), List.drop_append_of_le_length (by omega), List.take_append_of_le_length (by simp; omega)]
/-- What a state holds that was fed T: what waits, and the state behind T's whole blocks. -/
structure Fed (T st wt : List Int) (m : Nat) : Prop where
  len : wt.length = 64
  byte : ∀ x ∈ wt, byteOk x
  many : m = T.length % 64
  waits : wt.take m = T.drop (64 * (T.length / 64))
  state : st = chain (T.length / 64) T
theorem Fed.lt {T st wt : List Int} {m : Nat} (h : Fed T st wt m) : m < 64 := by have := h.many; omega
theorem Fed.st5 {T st wt : List Int} {m : Nat} (h : Fed T st wt m) : st.length = 5 := by rw [h.state]; exact chain_len _ _
theorem lay_byte (wt : List Int) (o : Nat) (cs : List Int) (h : ∀ x ∈ wt, byteOk x) (hc : ∀ x ∈ cs, byteOk x) : ∀ x ∈ lay wt o cs, byteOk x := by
  intro x hx
  simp only [lay, List.mem_append] at hx
  rcases hx with (hx | hx) | hx
  · exact h x (List.mem_of_mem_take hx)
  · exact hc x hx
  · exact h x (List.mem_of_mem_drop hx)
theorem lay_take (wt : List Int) (o : Nat) (cs : List Int) (h : o + cs.length ≤ wt.length) : (lay wt o cs).take (o + cs.length) = wt.take o ++ cs := by
  simp only [lay]
  rw [List.take_append_of_le_length (by simp; omega), List.take_of_length_le (by simp; omega)]
/-- Bytes that do not fill what waits. -/
theorem Fed.some {T st wt cs : List Int} {m : Nat} (h : Fed T st wt m) (hc : m + cs.length < 64) (hb : ∀ x ∈ cs, byteOk x) : Fed (T ++ cs) st (lay wt m cs) (m + cs.length) := by
  have hm := h.many
  have e : (T ++ cs).length / 64 = T.length / 64 := by simp; omega
  refine ⟨by rw [lay_len _ _ _ (by have := h.len; omega)]; exact h.len, lay_byte _ _ _ h.byte hb, by simp; omega, ?_, ?_⟩
  · rw [lay_take _ _ _ (by have := h.len; omega), e, List.drop_append_of_le_length (by omega), h.waits]
  · rw [e, chain_app _ _ _ (by omega)]; exact h.state
/-- Bytes that fill it: the block goes through. -/
theorem Fed.full {T st wt cs : List Int} {m : Nat} (h : Fed T st wt m) (hc : m + cs.length = 64) (hb : ∀ x ∈ cs, byteOk x) : Fed (T ++ cs) (comp st (lay wt m cs)) (lay wt m cs) 0 := by
  have hm := h.many
  have hl := h.len
  have e : (T ++ cs).length / 64 = T.length / 64 + 1 := by simp; omega
  have hw : lay wt m cs = T.drop (64 * (T.length / 64)) ++ cs := by
    have h1 := lay_take wt m cs (by omega)
    rw [List.take_of_length_le (by rw [lay_len _ _ _ (by omega)]; omega), h.waits] at h1
    exact h1
  refine ⟨by rw [lay_len _ _ _ (by omega)]; exact h.len, lay_byte _ _ _ h.byte hb, by simp; omega, ?_, ?_⟩
  · rw [e, List.take_zero, List.drop_of_length_le (by simp; omega)]
  · rw [e]
    simp only [chain]
    rw [chain_app _ _ _ (by omega), ← h.state, List.drop_append_of_le_length (by omega), ← hw, List.take_of_length_le (by rw [lay_len _ _ _ (by omega)]; omega)]
theorem Fed.start : Fed [] H0 (List.replicate 64 0) 0 := ⟨by simp, fun x hx => by rw [List.mem_replicate] at hx; rw [hx.2]; exact ⟨by omega, by omega⟩, rfl, rfl, rfl⟩
/-! ### The end of a digest: the bit that shuts, zeros, the length; and the twenty bytes -/
def padz (n : Nat) : Nat := (119 - n % 64) % 64
def be8 (x : Int) : List Int := [x / 72057594037927936 % 256, x / 281474976710656 % 256, x / 1099511627776 % 256, x / 4294967296 % 256, x / 16777216 % 256, x / 65536 % 256, x / 256 % 256, x % 256]
def be4 (x : Int) : List Int := [x / 16777216 % 256, x / 65536 % 256, x / 256 % 256, x % 256]
theorem be8_get (x : Int) (j : Nat) (h : j < 8) : (be8 x).getD j 0 = x / 2 ^ (56 - 8 * j) % 256 := by
  rcases (show j = 0 ∨ j = 1 ∨ j = 2 ∨ j = 3 ∨ j = 4 ∨ j = 5 ∨ j = 6 ∨ j = 7 by omega) with rfl | rfl | rfl | rfl | rfl | rfl | rfl | rfl <;> simp [be8]
theorem be8_take (x : Int) (j : Nat) (h : j < 8) : (be8 x).take (j + 1) = (be8 x).take j ++ [x / 2 ^ (56 - 8 * j) % 256] := by
  rw [List.take_add_one, ← be8_get x j h]
  have h8 : j < (be8 x).length := h
  rw [List.getElem?_eq_getElem h8, List.getD_eq_getElem?_getD, List.getElem?_eq_getElem h8]
  rfl
theorem be4_get (x : Int) (k : Nat) (h : k < 4) : (be4 x).getD k 0 = x / 2 ^ (24 - 8 * k) % 256 := by
  rcases (show k = 0 ∨ k = 1 ∨ k = 2 ∨ k = 3 by omega) with rfl | rfl | rfl | rfl <;> simp [be4]
theorem five_get (s0 s1 s2 s3 s4 : Int) (i k : Nat) (hi : i < 5) (hk : k < 4) : ([s0, s1, s2, s3, s4].flatMap be4).getD (4 * i + k) 0 = [s0, s1, s2, s3, s4].getD i 0 / 2 ^ (24 - 8 * k) % 256 := by
  rw [← be4_get _ _ hk]
  rcases (show i = 0 ∨ i = 1 ∨ i = 2 ∨ i = 3 ∨ i = 4 by omega) with rfl | rfl | rfl | rfl | rfl <;>
    rcases (show k = 0 ∨ k = 1 ∨ k = 2 ∨ k = 3 by omega) with rfl | rfl | rfl | rfl <;> rfl
def padded (T : List Int) : List Int := T ++ [128] ++ List.replicate (padz T.length) 0 ++ be8 (T.length * 8)
def dig (T : List Int) : List Int := (chain ((padded T).length / 64) (padded T)).flatMap be4
theorem dig_len (T : List Int) : (dig T).length = 20 := by
  have h := chain_len ((padded T).length / 64) (padded T)
  unfold dig
  match chain ((padded T).length / 64) (padded T), h with
  | [a, b, c, d, e], _ => rfl
end Go.Proofs.Ytfgponalmhocmaa.V
