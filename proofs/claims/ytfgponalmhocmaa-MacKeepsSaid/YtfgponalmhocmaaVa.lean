/- Plain facts on rows of numbers as cells, and on the words and rounds of a digest: no program in sight. -/
import Derived.Test.YtfgponalmhocmaaWMore
import Derived.Laws.BitsAllLaws
namespace Go.Proofs.Ytfgponalmhocmaa.V
open Go.RowKit Go.Proofs.YtfgponalmhocmaaW.PrintWords Go.Proofs.YtfgponalmhocmaaW.PrintLast Go.Proofs.YtfgponalmhocmaaW.PrintMore
set_option linter.unusedVariables false

def u8s (l : List Int) : List Value := l.map (Value.int .u8)
def u32s (l : List Int) : List Value := l.map (Value.int .u32)
theorem u8s_len (l : List Int) : (u8s l).length = l.length := by simp [u8s]
theorem u32s_len (l : List Int) : (u32s l).length = l.length := by simp [u32s]
theorem u32_get (l : List Int) (i : Nat) (h : i < l.length) : (u32s l).toArray[i]? = some (.int .u32 (l.getD i 0)) := by
  simp [u32s, List.getD, List.getElem?_eq_getElem h]
theorem u32_set (l : List Int) (i : Nat) (v : Int) : (u32s l).toArray.setIfInBounds i (.int .u32 v) = (u32s (l.set i v)).toArray := by
  simp [u32s, List.map_set]
theorem u8_get (l : List Int) (i : Nat) (h : i < l.length) : (u8s l).toArray[i]? = some (.int .u8 (l.getD i 0)) := by
  simp [u8s, List.getD, List.getElem?_eq_getElem h]
theorem u8_set (l : List Int) (i : Nat) (v : Int) : (u8s l).toArray.setIfInBounds i (.int .u8 v) = (u8s (l.set i v)).toArray := by
  simp [u8s, List.map_set]
theorem u8s_one (l : List Int) : ∀ v ∈ u8s l, v.oneCell' = true := by
  intro v hv; simp [u8s] at hv; obtain ⟨x, _, rfl⟩ := hv; rfl
theorem u32s_one (l : List Int) : ∀ v ∈ u32s l, v.oneCell' = true := by
  intro v hv; simp [u32s] at hv; obtain ⟨x, _, rfl⟩ := hv; rfl
theorem all_one {cs : List Value} (h : ∀ v ∈ cs, v.oneCell' = true) : cs.toArray.all (·.oneCell') = true :=
  Array.all_eq_true_iff_forall_mem.2 (fun v hv => h v (by simpa using hv))

/-! ### The row of a Hash: five words, 64 bytes that wait, how many wait, how many were written -/
def hrow (st wt : List Int) (m a : Int) : Array Value := (u32s st ++ (u8s wt ++ [Value.int .i64 m, Value.int .u64 a])).toArray
theorem hrow_st (st wt : List Int) (m a : Int) (h5 : st.length = 5) (i : Nat) (h : i < 5) : (hrow st wt m a)[i]? = some (.int .u32 (st.getD i 0)) := by
  simp only [hrow, List.getElem?_toArray]
  rw [List.getElem?_append_left (by rw [u32s_len]; omega)]
  simp [u32s, List.getD, List.getElem?_eq_getElem (show i < st.length by omega)]
theorem hrow_wt (st wt : List Int) (m a : Int) (h5 : st.length = 5) (i j : Nat) (hj : j = 5 + i) (h : i < wt.length) : (hrow st wt m a)[j]? = some (.int .u8 (wt.getD i 0)) := by
  subst hj
  simp only [hrow, List.getElem?_toArray]
  rw [List.getElem?_append_right (by rw [u32s_len]; omega), u32s_len, List.getElem?_append_left (by rw [u8s_len]; omega), show 5 + i - st.length = i by omega]
  simp [u8s, List.getD, List.getElem?_eq_getElem h]
theorem hrow_m (st wt : List Int) (m a : Int) (h5 : st.length = 5) (h64 : wt.length = 64) : (hrow st wt m a)[69]? = some (.int .i64 m) := by
  simp only [hrow, List.getElem?_toArray]
  rw [List.getElem?_append_right (by rw [u32s_len]; omega), u32s_len, List.getElem?_append_right (by rw [u8s_len]; omega), u8s_len, h5, h64]
  rfl
theorem hrow_a (st wt : List Int) (m a : Int) (h5 : st.length = 5) (h64 : wt.length = 64) : (hrow st wt m a)[70]? = some (.int .u64 a) := by
  simp only [hrow, List.getElem?_toArray]
  rw [List.getElem?_append_right (by rw [u32s_len]; omega), u32s_len, List.getElem?_append_right (by rw [u8s_len]; omega), u8s_len, h5, h64]
  rfl
theorem hrow_size (st wt : List Int) (m a : Int) (h5 : st.length = 5) (h64 : wt.length = 64) : (hrow st wt m a).size = 71 := by
  simp [hrow, u8s, u32s, h5, h64]
theorem hrow_set_st (st wt : List Int) (m a : Int) (h5 : st.length = 5) (i : Nat) (h : i < 5) (v : Int) : (hrow st wt m a).setIfInBounds i (.int .u32 v) = hrow (st.set i v) wt m a := by
  simp only [hrow, List.setIfInBounds_toArray]
  rw [List.set_append_left _ _ (by rw [u32s_len]; omega)]
  simp [u32s, List.map_set]
theorem hrow_set_m (st wt : List Int) (m a : Int) (h5 : st.length = 5) (h64 : wt.length = 64) (v : Int) : (hrow st wt m a).setIfInBounds 69 (.int .i64 v) = hrow st wt v a := by
  simp only [hrow, List.setIfInBounds_toArray]
  rw [List.set_append_right _ _ (by rw [u32s_len]; omega), u32s_len, List.set_append_right _ _ (by rw [u8s_len]; omega), u8s_len, h5, h64]
  rfl
theorem hrow_set_a (st wt : List Int) (m a : Int) (h5 : st.length = 5) (h64 : wt.length = 64) (v : Int) : (hrow st wt m a).setIfInBounds 70 (.int .u64 v) = hrow st wt m v := by
  simp only [hrow, List.setIfInBounds_toArray]
  rw [List.set_append_right _ _ (by rw [u32s_len]; omega), u32s_len, List.set_append_right _ _ (by rw [u8s_len]; omega), u8s_len, h5, h64]
  rfl
/-- Bytes laid over what waits, from place o on. -/
def lay (wt : List Int) (o : Nat) (cs : List Int) : List Int := wt.take o ++ cs ++ wt.drop (o + cs.length)
theorem lay_len (wt : List Int) (o : Nat) (cs : List Int) (h : o + cs.length ≤ wt.length) : (lay wt o cs).length = wt.length := by
  simp [lay]; omega
theorem hrow_copy (st wt : List Int) (m a : Int) (h5 : st.length = 5) (o : Nat) (cs : List Int) (h : o + cs.length ≤ wt.length) :
    ((hrow st wt m a).toList.take (5 + o) ++ u8s cs ++ (hrow st wt m a).toList.drop (5 + o + (u8s cs).length)).toArray = hrow st (lay wt o cs) m a := by
  have hl : (u32s st).length = 5 := by rw [u32s_len, h5]
  have e1 : (hrow st wt m a).toList = u32s st ++ (u8s wt ++ [Value.int .i64 m, Value.int .u64 a]) := by simp [hrow]
  rw [e1, u8s_len]
  unfold hrow lay
  congr 1
  rw [show 5 + o = (u32s st).length + o by omega, List.take_length_add_append, show (u32s st).length + o + cs.length = (u32s st).length + (o + cs.length) by omega, List.drop_length_add_append,
    List.take_append_of_le_length (by rw [u8s_len]; omega), List.drop_append_of_le_length (by rw [u8s_len]; omega)]
  simp [u8s, List.map_take, List.map_drop]

/-! ### Words -/
def rot (x n : Int) : Int := Go.bits .or .u32 (shl .u32 x n) (shr .u32 x (32 - n))
/-- Word t of a block whose bytes are wt, behind the words l. -/
def wd (wt l : List Int) (t : Nat) : Int :=
  if t < 16 then wt.getD (4 * t) 0 * 16777216 + wt.getD (4 * t + 1) 0 * 65536 + wt.getD (4 * t + 2) 0 * 256 + wt.getD (4 * t + 3) 0
  else rot (Go.bits .xor .u32 (Go.bits .xor .u32 (Go.bits .xor .u32 (l.getD (t - 3) 0) (l.getD (t - 8) 0)) (l.getD (t - 14) 0)) (l.getD (t - 16) 0)) 1
def wds (wt : List Int) : Nat → List Int
  | 0 => []
  | t + 1 => wds wt t ++ [wd wt (wds wt t) t]
theorem wds_len (wt : List Int) (t : Nat) : (wds wt t).length = t := by
  induction t with
  | zero => rfl
  | succ t ih => simp [wds, ih]
def byteOk (x : Int) : Prop := 0 ≤ x ∧ x < 256
/-- The value of the first k bytes of word t. -/
def hpart (wt : List Int) (t : Nat) : Nat → Int
  | 0 => 0
  | k + 1 => hpart wt t k * 256 + wt.getD (4 * t + k) 0
theorem hpart_bd (wt : List Int) (h : ∀ x ∈ wt, byteOk x) (t k : Nat) : 0 ≤ hpart wt t k ∧ hpart wt t k < 256 ^ k := by
  induction k with
  | zero => simp [hpart]
  | succ k ih =>
    have hb : 0 ≤ wt.getD (4 * t + k) 0 ∧ wt.getD (4 * t + k) 0 < 256 := by
      by_cases c : 4 * t + k < wt.length
      · have e : wt.getD (4 * t + k) 0 = wt[4 * t + k] := by simp [List.getD, List.getElem?_eq_getElem c]
        rw [e]; exact h _ (List.getElem_mem c)
      · have e : wt.getD (4 * t + k) 0 = 0 := by simp [List.getD, List.getElem?_eq_none (show wt.length ≤ 4 * t + k by omega)]
        rw [e]; omega
    simp only [hpart, Int.pow_succ]
    omega
theorem hpart_four (wt l : List Int) (t : Nat) (ht : t < 16) : hpart wt t 4 = wd wt l t := by
  simp only [hpart, wd, if_pos ht, Nat.add_zero]; omega
theorem or_byte (X b : Int) (hX : 0 ≤ X ∧ X < 16777216) (hb : 0 ≤ b ∧ b < 256) : Go.bits .or .u32 (X * 256 % 4294967296) b = X * 256 + b := by
  have e : X * 256 % 4294967296 = X * 256 := by omega
  rw [e, u32_or _ _ (by omega) (by omega) (by omega) (by omega)]
  obtain ⟨x, rfl⟩ := Int.eq_ofNat_of_zero_le hX.1
  obtain ⟨y, rfl⟩ := Int.eq_ofNat_of_zero_le hb.1
  have e1 : ((x : Int) * 256).toNat = x * 256 := by omega
  rw [e1, Int.toNat_natCast, nat_join 8 (x * 256) y (by omega) (by omega)]
  omega

/-! ### Rounds -/
def mixF (t : Nat) (b c d : Int) : Int :=
  if t < 20 then Go.bits .or .u32 (Go.bits .and .u32 b c) (Go.bits .and .u32 (Go.bits .xor .u32 4294967295 b) d)
  else if t < 40 then Go.bits .xor .u32 (Go.bits .xor .u32 b c) d
  else if t < 60 then Go.bits .or .u32 (Go.bits .or .u32 (Go.bits .and .u32 b c) (Go.bits .and .u32 b d)) (Go.bits .and .u32 c d)
  else Go.bits .xor .u32 (Go.bits .xor .u32 b c) d
def mixK (t : Nat) : Int := if t < 20 then 1518500249 else if t < 40 then 1859775393 else if t < 60 then 2400959708 else 3395469782
structure R5 where (a b c d e : Int)
def rnd (w : List Int) (t : Nat) (s : R5) : R5 :=
  ⟨((((rot s.a 5 + mixF t s.b s.c s.d) % 4294967296 + s.e) % 4294967296 + mixK t) % 4294967296 + w.getD t 0) % 4294967296, s.a, rot s.b 30, s.c, s.d⟩
def rnds (w : List Int) (s : R5) : Nat → R5
  | 0 => s
  | t + 1 => rnd w t (rnds w s t)
def ofL (st : List Int) : R5 := ⟨st.getD 0 0, st.getD 1 0, st.getD 2 0, st.getD 3 0, st.getD 4 0⟩
/-- The state behind a block. -/
def comp (st wt : List Int) : List Int :=
  let r := rnds (wds wt 80) (ofL st) 80
  [(st.getD 0 0 + r.a) % 4294967296, (st.getD 1 0 + r.b) % 4294967296, (st.getD 2 0 + r.c) % 4294967296, (st.getD 3 0 + r.d) % 4294967296, (st.getD 4 0 + r.e) % 4294967296]
theorem comp_len (st wt : List Int) : (comp st wt).length = 5 := rfl
end Go.Proofs.Ytfgponalmhocmaa.V
