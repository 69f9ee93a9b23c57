/- Numbers, the lowest byte first: the reference's and the program's printed functions are the plain ones. -/
import Derived.Test.YtngkbmlmlfofdaaDoorPd
namespace Go.Proofs.YtngkbmlmlfofdaaDoor.P
open Go.RowKit Go.Proofs.YtngkbmlmlfofdaaDoorW.PrintWords Go.Proofs.YtngkbmlmlfofdaaDoorW.PrintLast Go.Proofs.YtngkbmlmlfofdaaDoorW.PrintMore
open Go.Proofs.YtngkbmlmlfofdaaDoor.HA Go.Proofs.YtngkbmlmlfofdaaDoor.HB Go.Proofs.YtngkbmlmlfofdaaDoor.HC Go.Proofs.YtngkbmlmlfofdaaDoor.HD Go.Proofs.YtngkbmlmlfofdaaDoor.G Go.Proofs.YtngkbmlmlfofdaaDoor.F
set_option linter.unusedVariables false

theorem or_join (k : Nat) (hk : k < 8) (v x : Int) (hv : 0 ≤ v ∧ v < 256 ^ k) (hx : 0 ≤ x ∧ x < 256) : Go.bits .or .u64 v (shl .u64 (IntKind.u64.wrap x) (8 * (k : Int))) = v + 256 ^ k * x ∧ v + 256 ^ k * x < 256 ^ (k + 1) := by
  have h256 : (256 : Int) ^ k = 2 ^ (8 * k) := by rw [Int.pow_mul]; rfl
  have hle : (256 : Int) ^ k ≤ 256 ^ 7 := by
    rcases (show k = 0 ∨ k = 1 ∨ k = 2 ∨ k = 3 ∨ k = 4 ∨ k = 5 ∨ k = 6 ∨ k = 7 by omega) with rfl | rfl | rfl | rfl | rfl | rfl | rfl | rfl <;> decide
  have h7 : (256 : Int) ^ 7 = 72057594037927936 := by decide
  have hpos : (0 : Int) < 256 ^ k := Int.pow_pos (by decide)
  have hm : 256 ^ k * x ≤ 256 ^ k * 255 := Int.mul_le_mul_of_nonneg_left (by omega) (by omega)
  have hm0 : 0 ≤ 256 ^ k * x := Int.mul_nonneg (by omega) hx.1
  have hs : shl .u64 (IntKind.u64.wrap x) (8 * (k : Int)) = 256 ^ k * x := by
    unfold shl
    have hb : IntKind.u64.bits = 64 := rfl
    rw [hb, show min (8 * (k : Int)).toNat 64 = 8 * k by omega, IntKind.wrap_u64 x, show x % 18446744073709551616 = x by omega, ← h256, Int.mul_comm, IntKind.wrap_u64]
    omega
  rw [hs]
  constructor
  · obtain ⟨a, rfl⟩ := Int.eq_ofNat_of_zero_le hv.1
    obtain ⟨b, hb⟩ := Int.eq_ofNat_of_zero_le hm0
    have e64 : (2 : Int) ^ 64 = 18446744073709551616 := by decide
    have e64n : (2 : Nat) ^ 64 = 18446744073709551616 := by decide
    have hw : ∀ n : Int, 0 ≤ n → n < 2 ^ 64 → IntKind.u64.wrap n = n := fun n h0 h1 => by rw [e64] at h1; rw [IntKind.wrap_u64]; omega
    have hc : Go.bits .or .u64 (a : Int) (b : Int) = Go.bits .or .u64 (b : Int) (a : Int) := by
      rw [(bits_nat .u64 64 (by decide) hw a b (by rw [e64n]; omega) (by rw [e64n]; omega)).2, (bits_nat .u64 64 (by decide) hw b a (by rw [e64n]; omega) (by rw [e64n]; omega)).2, Nat.or_comm]
    rw [hb, hc, ← hb]
    have := bits_join .u64 64 (by decide) hw (8 * k) (256 ^ k * x) (a : Int) hm0 (by rw [← h256]; exact Int.mul_emod_right _ _) (by rw [e64]; omega) (by omega) (by rw [← h256]; exact hv.2) (by rw [e64]; omega)
    rw [this]
    omega
  · rw [Int.pow_succ]
    omega
theorem leP_take (l : List Int) (i : Nat) (h : i < l.length) : leP (l.take (i + 1)) = leP (l.take i) + 256 ^ i * l[i] := by
  rw [List.take_add_one, List.getElem?_eq_getElem h]
  show leP (l.take i ++ [l[i]]) = _
  rw [leP_append, List.length_take, Nat.min_eq_left (by omega)]
  show _ + _ * (l[i] + 256 * 0) = _
  rw [Int.mul_zero, Int.add_zero]
theorem le_bd (l : List Int) (hb : ∀ x ∈ l, 0 ≤ x ∧ x < 256) (i : Nat) (hi : i ≤ l.length) : 0 ≤ leP (l.take i) ∧ leP (l.take i) < 256 ^ i := by
  have := leP_bd (l.take i) (fun x hx => hb x (List.mem_of_mem_take hx))
  rw [List.length_take, Nat.min_eq_left hi] at this
  exact this
theorem fle_l0 (l : List Int) (hb : ∀ x ∈ l, 0 ≤ x ∧ x < 256) (hl : l.length ≤ 8) : ∀ (d k i : Nat), i + d = l.length → d < k → fields_Le.l0 k (leP (l.take i)) l (l.length : Int) (i : Int) = some (leP l) := by
  intro d
  induction d with
  | zero =>
    intro k i hi hk
    obtain ⟨k, rfl⟩ : ∃ m, k = m + 1 := ⟨k - 1, by omega⟩
    rw [fields_Le.l0, if_neg (by omega), List.take_of_length_le (by omega)]
  | succ d ih =>
    intro k i hi hk
    obtain ⟨k, rfl⟩ : ∃ m, k = m + 1 := ⟨k - 1, by omega⟩
    have hlt : i < l.length := by omega
    have hx := hb _ (List.getElem_mem hlt)
    have hw : wrap64 ((i : Int) + 1) = ((i + 1 : Nat) : Int) := by rw [w64 (by omega)]; omega
    have hj := or_join i (by omega) _ _ (le_bd l hb i (by omega)) hx
    rw [fields_Le.l0, if_pos (by omega), if_pos (by omega), if_pos (by omega), w64 (n := 8 * (i : Int)) (by omega), if_pos (by omega), rd_nat l i hlt, hj.1, hw, ← leP_take l i hlt, ih k (i + 1) (by omega) (by omega)]
theorem fle_f (l : List Int) (hb : ∀ x ∈ l, 0 ≤ x ∧ x < 256) (k : Nat) (hk : 9 ≤ k) : fields_Le.f k l = some (leP (l.take 8)) := by
  have hm : ((mn (l.length : Int) 8) : Int).toNat = min l.length 8 := by unfold mn; split <;> omega
  have ht : l.take (min l.length 8) = l.take 8 := by
    by_cases h : l.length ≤ 8
    · rw [Nat.min_eq_left h, List.take_of_length_le (Nat.le_refl _), List.take_of_length_le h]
    · rw [Nat.min_eq_right (by omega)]
  unfold fields_Le.f
  rw [if_pos (by unfold mn; split <;> omega), if_pos (by unfold mn; split <;> omega), hm, ht]
  have hl8 : (l.take 8).length ≤ 8 := by rw [List.length_take]; omega
  exact fle_l0 (l.take 8) (fun x hx => hb x (List.mem_of_mem_take hx)) hl8 (l.take 8).length k 0 (by omega) (by omega)
theorem rle_l0 (l : List Int) (hb : ∀ x ∈ l, 0 ≤ x ∧ x < 256) : ∀ (d k i : Nat), i + d = 8 → i ≤ l.length → d < k → wainloadref03_Le.l0 k l (leP (l.take i)) (IntKind.u64.wrap (256 ^ i)) (i : Int) = some (leP (l.take 8)) := by
  intro d
  induction d with
  | zero =>
    intro k i hi hil hk
    obtain ⟨k, rfl⟩ : ∃ m, k = m + 1 := ⟨k - 1, by omega⟩
    obtain rfl : i = 8 := by omega
    rw [wainloadref03_Le.l0]
    split
    · rw [if_neg (by omega)]
    · rfl
  | succ d ih =>
    intro k i hi hil hk
    obtain ⟨k, rfl⟩ : ∃ m, k = m + 1 := ⟨k - 1, by omega⟩
    rw [wainloadref03_Le.l0]
    by_cases hlt : i < l.length
    · have hx := hb _ (List.getElem_mem hlt)
      have hw : wrap64 ((i : Int) + 1) = ((i + 1 : Nat) : Int) := by rw [w64 (by omega)]; omega
      have hj := (or_join i (by omega) _ _ (le_bd l hb i (by omega)) hx).2
      have hv := le_bd l hb i (by omega)
      have hp : (256 : Int) ^ (i + 1) ≤ 256 ^ 8 := by
        rcases (show i = 0 ∨ i = 1 ∨ i = 2 ∨ i = 3 ∨ i = 4 ∨ i = 5 ∨ i = 6 ∨ i = 7 by omega) with rfl | rfl | rfl | rfl | rfl | rfl | rfl | rfl <;> decide
      have h8 : (256 : Int) ^ 8 = 18446744073709551616 := by decide
      have hpw : IntKind.u64.wrap ((256 : Int) ^ i) = 256 ^ i := by
        rw [IntKind.wrap_u64]
        have h0 : (0 : Int) < 256 ^ i := Int.pow_pos (by decide)
        rw [Int.pow_succ] at hp
        omega
      have hxw : IntKind.u64.wrap l[i] = l[i] := by rw [IntKind.wrap_u64]; omega
      have hm0 : 0 ≤ (256 : Int) ^ i * l[i] := Int.mul_nonneg (Int.le_of_lt (Int.pow_pos (by decide))) hx.1
      have hmw : IntKind.u64.wrap ((256 : Int) ^ i * l[i]) = 256 ^ i * l[i] := by rw [IntKind.wrap_u64]; omega
      have hsw : IntKind.u64.wrap (leP (l.take i) + 256 ^ i * l[i]) = leP (l.take i) + 256 ^ i * l[i] := by rw [IntKind.wrap_u64]; omega
      rw [if_pos (by omega), if_pos (by omega), if_pos (by omega), rd_nat l i hlt, hpw, hxw, hmw, hsw, hw, ← leP_take l i hlt, ← Int.pow_succ, ih k (i + 1) (by omega) (by omega) (by omega)]
    · obtain rfl : i = l.length := by omega
      rw [if_neg (by omega), List.take_of_length_le (Nat.le_refl _), List.take_of_length_le (by omega)]
theorem rle_f (l : List Int) (hb : ∀ x ∈ l, 0 ≤ x ∧ x < 256) (k : Nat) (hk : 9 ≤ k) : wainloadref03_Le.f k l = some (leP (l.take 8)) := by
  unfold wainloadref03_Le.f
  exact rle_l0 l hb 8 k 0 rfl (Nat.zero_le _) (by omega)
/-- The lowest bytes of a number. -/
def lows : Nat → Int → List Int
  | 0, _ => []
  | n + 1, v => v % 256 :: lows n (v / 256)
theorem lows_len (n : Nat) (v : Int) : (lows n v).length = n := by
  induction n generalizing v with
  | zero => rfl
  | succ n ih => rw [lows, List.length_cons, ih]
theorem lows_bd (n : Nat) (v : Int) : ∀ x ∈ lows n v, 0 ≤ x ∧ x < 256 := by
  induction n generalizing v with
  | zero => intro x hx; cases hx
  | succ n ih =>
    intro x hx
    rcases List.mem_cons.1 hx with rfl | hx
    · omega
    · exact ih _ x hx
theorem lows_le (n : Nat) (v : Int) (h0 : 0 ≤ v) (h1 : v < 256 ^ n) : leP (lows n v) = v := by
  induction n generalizing v with
  | zero => rw [Int.pow_zero] at h1; show (0 : Int) = v; omega
  | succ n ih =>
    rw [Int.pow_succ] at h1
    rw [lows, leP, ih (v / 256) (by omega) (by omega)]
    omega
theorem fput_l0 : ∀ (d k i N : Nat) (v : Int) (acc : List Int), i + d = N → N ≤ 64 → d < k → acc.length = i → fields_PutLe.l0 k v acc (N : Int) (i : Int) = some (acc ++ lows d v) := by
  intro d
  induction d with
  | zero =>
    intro k i N v acc hi hN hk ha
    obtain ⟨k, rfl⟩ : ∃ m, k = m + 1 := ⟨k - 1, by omega⟩
    rw [fields_PutLe.l0, if_neg (by omega), lows, List.append_nil]
  | succ d ih =>
    intro k i N v acc hi hN hk ha
    obtain ⟨k, rfl⟩ : ∃ m, k = m + 1 := ⟨k - 1, by omega⟩
    have hw : wrap64 ((i : Int) + 1) = ((i + 1 : Nat) : Int) := by rw [w64 (by omega)]; omega
    rw [fields_PutLe.l0, if_pos (by omega), if_pos (by omega), hw, ih k (i + 1) N _ _ (by omega) hN (by omega) (by simp [ha]), lows, List.append_assoc]
    rfl
def many (n : Int) : Nat := (min (max n 0) 64).toNat
theorem fput_f (v n : Int) (k : Nat) (hk : 65 ≤ k) : fields_PutLe.f k v n = some (lows (many n) v) := by
  unfold fields_PutLe.f
  have e : mn (mx n 0) 64 = ((many n : Nat) : Int) := by unfold mn mx many; (repeat' split) <;> omega
  rw [e]
  have hm : many n ≤ 64 := by unfold many; omega
  exact fput_l0 (many n) k 0 (many n) v [] (by omega) hm (by omega) rfl
theorem rput_l0 (n : Int) : ∀ (d k i : Nat) (v : Int) (acc : List Int), i + d = many n → d < k → acc.length = i → 0 ≤ v ∧ v < 18446744073709551616 → wainloadref03_PutLe.l0 k v n acc (i : Int) = some (acc ++ lows d v) := by
  intro d
  have hm : many n ≤ 64 := by unfold many; omega
  induction d with
  | zero =>
    intro k i v acc hi hk ha hv
    obtain ⟨k, rfl⟩ : ∃ m, k = m + 1 := ⟨k - 1, by omega⟩
    rw [wainloadref03_PutLe.l0, lows, List.append_nil]
    unfold many at hi
    split
    · rw [if_neg (by omega)]
    · rfl
  | succ d ih =>
    intro k i v acc hi hk ha hv
    obtain ⟨k, rfl⟩ : ∃ m, k = m + 1 := ⟨k - 1, by omega⟩
    have hw : wrap64 ((i : Int) + 1) = ((i + 1 : Nat) : Int) := by rw [w64 (by omega)]; omega
    have hq : IntKind.u64.wrap (Int.tdiv v 256) = v / 256 := by rw [Int.tdiv_eq_ediv_of_nonneg hv.1, IntKind.wrap_u64]; omega
    have hr : (Int.tmod v 256) % 256 = v % 256 := by rw [Int.tmod_eq_emod_of_nonneg hv.1]; omega
    have hn : i < many n := by omega
    unfold many at hn
    rw [wainloadref03_PutLe.l0, if_pos (by omega), if_pos (by omega), if_pos (by omega), hw, hq, hr, ih k (i + 1) _ _ (by omega) (by omega) (by simp [ha]) (by omega), lows, List.append_assoc]
    rfl
theorem rput_f (v n : Int) (hv : 0 ≤ v ∧ v < 18446744073709551616) (k : Nat) (hk : 65 ≤ k) : wainloadref03_PutLe.f k v n = some (lows (many n) v) := by
  unfold wainloadref03_PutLe.f
  have hm : many n ≤ 64 := by unfold many; omega
  exact rput_l0 n (many n) k 0 v [] (by omega) (by omega) rfl hv
theorem le_law (l : List Int) (v n : Int) (hb : ∀ x ∈ l, 0 ≤ x ∧ x < 256) (hv : 0 ≤ v ∧ v < 18446744073709551616) : wainloadlaw03_FieldsLe.f 100 l v n = some true := by
  have h8 : many 8 = 8 := by decide
  have ht : (lows 8 v).take 8 = lows 8 v := List.take_of_length_le (by rw [lows_len]; omega)
  unfold wainloadlaw03_FieldsLe.f wainloadlaw03_alive.f
  rw [Option.bind_some, if_pos rfl, fle_f l hb 100 (by omega), Option.bind_some, rle_f l hb 100 (by omega), Option.bind_some, if_pos rfl, fput_f v n 100 (by omega), Option.bind_some, rput_f v n hv 100 (by omega), Option.bind_some, if_pos rfl, fput_f v 8 100 (by omega), Option.bind_some, h8, fle_f (lows 8 v) (lows_bd 8 v) 100 (by omega), Option.bind_some, ht, lows_le 8 v hv.1 (by rw [show (256 : Int) ^ 8 = 18446744073709551616 by decide]; omega)]
  simp
theorem u64_wf (x : Int) (h : (Lit.int .u64 x).wf = true) : 0 ≤ x ∧ x < 18446744073709551616 := by
  have h1 : IntKind.u64.min = 0 := by decide
  have h2 : IntKind.u64.max = 18446744073709551615 := by decide
  simp [Lit.wf, h1, h2] at h
  omega
theorem i64_wf (x : Int) (h : (Lit.int .i64 x).wf = true) : -9223372036854775808 ≤ x ∧ x ≤ 9223372036854775807 := by
  have h1 : IntKind.i64.min = -9223372036854775808 := by decide
  have h2 : IntKind.i64.max = 9223372036854775807 := by decide
  simp [Lit.wf, h1, h2] at h
  omega
end Go.Proofs.YtngkbmlmlfofdaaDoor.P
