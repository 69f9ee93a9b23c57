/- Numbers in digits: the reference's and the program's printed functions are the plain ones. -/
import Derived.Test.YtngkbmlmlfofdaaDoorHDx
namespace Go.Proofs.YtngkbmlmlfofdaaDoor.P
open Go.RowKit Go.Proofs.YtngkbmlmlfofdaaDoorW.PrintWords Go.Proofs.YtngkbmlmlfofdaaDoorW.PrintLast Go.Proofs.YtngkbmlmlfofdaaDoorW.PrintMore
open Go.Proofs.YtngkbmlmlfofdaaDoor.HA Go.Proofs.YtngkbmlmlfofdaaDoor.HB Go.Proofs.YtngkbmlmlfofdaaDoor.HC Go.Proofs.YtngkbmlmlfofdaaDoor.HD Go.Proofs.YtngkbmlmlfofdaaDoor.G Go.Proofs.YtngkbmlmlfofdaaDoor.F
set_option linter.unusedVariables false

theorem bt_nums (s : ByteArray) (i : Nat) (h : i < (nums s).length) : bt s (i : Int) = (nums s)[i] := by
  have hs : i < s.size := by rw [nums_len] at h; exact h
  have h1 := nums_get s i hs
  rw [List.getElem?_eq_getElem h] at h1
  injection h1 with h1
  rw [h1]
  unfold bt
  rw [dif_pos (by simpa using hs)]
  rfl
theorem nums_bd (s : ByteArray) (i : Nat) (h : i < (nums s).length) : 0 ≤ (nums s)[i] ∧ (nums s)[i] < 256 := nums_byte s _ (List.getElem_mem h)
theorem run_l0 (s : ByteArray) (hs : s.size < 9223372036854775807) : ∀ (d k i : Nat), i + d = (nums s).length → d < k →
    wainloadref03_run.l0 k s (i : Int) = some ((i + (((nums s).drop i).takeWhile (isDig 10)).length : Nat) : Int) := by
  intro d
  induction d with
  | zero =>
    intro k i hi hk
    obtain ⟨k, rfl⟩ : ∃ m, k = m + 1 := ⟨k - 1, by omega⟩
    have hl := nums_len s
    rw [wainloadref03_run.l0, if_neg (by omega), List.drop_of_length_le (by omega)]
    rfl
  | succ d ih =>
    intro k i hi hk
    obtain ⟨k, rfl⟩ : ∃ m, k = m + 1 := ⟨k - 1, by omega⟩
    have hl := nums_len s
    have hlt : i < (nums s).length := by omega
    have hb := nums_bd s i hlt
    have hw : wrap64 ((i : Int) + 1) = ((i + 1 : Nat) : Int) := by rw [w64 (by omega)]; omega
    rw [wainloadref03_run.l0, if_pos (by omega), if_pos (by omega), bt_nums s i hlt, hw, ih k (i + 1) (by omega) (by omega), List.drop_eq_getElem_cons hlt, List.takeWhile_cons]
    generalize (nums s)[i] = x at hb
    by_cases h1 : x ≥ 48
    · by_cases h2 : x ≤ 57
      · have hd : isDig 10 x = true := by simp [isDig]; omega
        rw [if_pos h1, if_pos h2, hd, if_pos rfl, List.length_cons]
        congr 2
        omega
      · have hd : isDig 10 x = false := by simp [isDig]; omega
        rw [if_pos h1, if_neg h2, hd]
        rfl
    · have hd : isDig 10 x = false := by simp [isDig]; omega
      rw [if_neg h1, hd]
      rfl
theorem run_f (s : ByteArray) (hs : s.size < 9223372036854775807) (k : Nat) (hk : s.size < k) : wainloadref03_run.f k s = some (digN 10 s : Int) := by
  unfold wainloadref03_run.f
  have := run_l0 s hs (nums s).length k 0 (by omega) (by rw [nums_len]; exact hk)
  rw [List.drop_zero, Nat.zero_add] at this
  rw [show digN 10 s = ((nums s).takeWhile (isDig 10)).length from digs_len 10 _]
  exact this
theorem number_l0 (s : ByteArray) (hs : s.size < 9223372036854775807) (ha : ∀ x ∈ nums s, isDig 10 x = true) : ∀ (d k i : Nat) (v : Int), i + d = (nums s).length → d < k → -1 ≤ v ∧ v ≤ top →
    wainloadref03_number.l0 k s v (i : Int) = some ((((nums s).drop i).map (· - 48)).foldl (addP 10) v) := by
  intro d
  induction d with
  | zero =>
    intro k i v hi hk hv
    obtain ⟨k, rfl⟩ : ∃ m, k = m + 1 := ⟨k - 1, by omega⟩
    have hl := nums_len s
    rw [wainloadref03_number.l0, if_neg (by omega), List.drop_of_length_le (by omega)]
    rfl
  | succ d ih =>
    intro k i v hi hk hv
    obtain ⟨k, rfl⟩ : ∃ m, k = m + 1 := ⟨k - 1, by omega⟩
    have hl := nums_len s
    have hlt : i < (nums s).length := by omega
    have hx := ha _ (List.getElem_mem hlt)
    have hw : wrap64 ((i : Int) + 1) = ((i + 1 : Nat) : Int) := by rw [w64 (by omega)]; omega
    rw [wainloadref03_number.l0, if_pos (by omega), if_pos (by omega), bt_nums s i hlt, hw, List.drop_eq_getElem_cons hlt, List.map_cons, List.foldl_cons]
    generalize (nums s)[i] = x at hx
    simp [isDig] at hx
    rw [w64 (n := x) (by omega), w64 (n := x - 48) (by omega), add_f10 v (x - 48) hv (by omega), Option.bind_some, ih k (i + 1) _ (by omega) (by omega) (addP_bd10 v (x - 48) (by omega))]
theorem takeWhile_all {α : Type} (p : α → Bool) (l : List α) (h : l.length ≤ (l.takeWhile p).length) : ∀ x ∈ l, p x = true := by
  have h1 : l.takeWhile p = l := (List.takeWhile_sublist p).eq_of_length_le h
  intro x hx
  rw [← h1] at hx
  have := List.all_takeWhile (p := p) (l := l)
  rw [List.all_eq_true] at this
  exact this x hx
theorem digN_le (b : Int) (s : ByteArray) : digN b s ≤ s.size := by
  have h1 := (List.takeWhile_sublist (isDig b) (l := nums s)).length_le
  rw [nums_len] at h1
  have h2 : digN b s = ((nums s).takeWhile (isDig b)).length := digs_len b _
  omega
theorem digN_all (s : ByteArray) (h : s.size ≤ digN 10 s) : (∀ x ∈ nums s, isDig 10 x = true) ∧ digV 10 s = numP 10 ((nums s).map (· - 48)) := by
  have h2 : digN 10 s = ((nums s).takeWhile (isDig 10)).length := digs_len 10 _
  have h3 := takeWhile_all (isDig 10) (nums s) (by rw [nums_len]; omega)
  refine ⟨h3, ?_⟩
  unfold digV digs
  rw [show (nums s).takeWhile (isDig 10) = nums s from (List.takeWhile_sublist _).eq_of_length_le (by rw [nums_len]; omega)]
theorem number_f (s : ByteArray) (hs : s.size < 9223372036854775807) (k : Nat) (hk : s.size < k) (h : s.size ≤ digN 10 s) : wainloadref03_number.f k s = some (digV 10 s) := by
  obtain ⟨h1, h2⟩ := digN_all s h
  unfold wainloadref03_number.f
  have := number_l0 s hs h1 (nums s).length k 0 0 (by omega) (by rw [nums_len]; exact hk) (by unfold top; omega)
  rw [List.drop_zero] at this
  rw [h2]
  exact this
/-- A text without the sign it may begin with. -/
def cutN (s : ByteArray) : ByteArray × Bool := if (nums s).head? = some 45 then (s.extract 1 s.size, true) else (s, false)
theorem cut_f (s : ByteArray) : strings_CutPrefix.f s ⟨#[45]⟩ = some (cutN s) := by
  unfold strings_CutPrefix.f stringslite_CutPrefix.f stringslite_HasPrefix.f cutN
  have e1 : ((⟨#[45]⟩ : ByteArray).size : Int) = 1 := rfl
  rw [e1]
  by_cases h0 : s.size = 0
  · have hn : nums s = [] := List.eq_nil_of_length_eq_zero (by rw [nums_len]; exact h0)
    rw [if_neg (by omega), hn]
    rfl
  · rw [if_pos (by omega), if_pos (by omega), if_pos (by omega)]
    have hn : ∃ x r, s.data.toList = x :: r := by
      cases h : s.data.toList with
      | nil =>
        have : s.data.toList.length = s.size := by rw [Array.length_toList]; rfl
        rw [h] at this
        simp at this
        omega
      | cons x r => exact ⟨x, r, rfl⟩
    obtain ⟨x, r, hn⟩ := hn
    have hx : (s.extract 0 ((1 : Int)).toNat).toList = [x] := by
      rw [Lib.toList_data, ByteArray.data_extract, Array.toList_extract, hn]
      rfl
    have hc : (⟨#[45]⟩ : ByteArray).toList = [45] := by rw [Lib.toList_data]
    have hh : (nums s).head? = some (x.toNat : Int) := by
      unfold nums
      rw [hn]
      rfl
    rw [hx, hc, hh, Option.bind_some]
    by_cases h45 : x = 45
    · subst h45
      have h1 : ([(45 : UInt8)] == [45]) = true := by decide
      rw [h1, if_pos rfl, if_pos (by decide), if_pos (by omega), if_pos (by decide)]
      rfl
    · have h1 : ([x] == [(45 : UInt8)]) = false := by simp [h45]
      have h2 : ¬ (some (x.toNat : Int)) = some 45 := by
        intro h
        injection h with h
        exact h45 (UInt8.toNat_inj.1 (by have : ((45 : UInt8).toNat : Int) = 45 := rfl; omega))
      rw [h1, if_neg (by decide), if_neg h2]
      rfl
theorem cutN_size (s : ByteArray) : (cutN s).1.size ≤ s.size := by
  unfold cutN
  split
  · simp
  · exact Nat.le_refl _
/-- A number in digits, as the document says. -/
def decP (s : ByteArray) : Int × Int :=
  if digN 10 (cutN s).1 = 0 ∨ digN 10 (cutN s).1 < (cutN s).1.size then (0, 30)
  else if digV 10 (cutN s).1 < 0 then (0, 31)
  else if (cutN s).2 = true then (-digV 10 (cutN s).1, 0) else (digV 10 (cutN s).1, 0)
theorem digV_bd (s : ByteArray) : -1 ≤ digV 10 s ∧ digV 10 s ≤ top := numP_bd 10 (by decide) _ (fun d hd => by have := digs_ok 10 _ d hd; unfold top; omega)
theorem dec_fields (s : ByteArray) (hs : s.size ≤ 140737488355328) (k : Nat) : fields_Decimal.f (k + 2) s = some (decP s) := by
  have hz := cutN_size s
  have hb := digV_bd (cutN s).1
  unfold fields_Decimal.f decP
  rw [cut_f, Option.bind_some]
  unfold fields_digits.f
  rw [if_pos (by omega), if_neg (by decide), if_pos rfl, Option.bind_some]
  simp only
  generalize digV 10 (cutN s).1 = v at hb
  generalize digN 10 (cutN s).1 = n
  generalize (cutN s).1.size = z
  generalize (cutN s).2 = b
  unfold top at hb
  by_cases h0 : n = 0
  · subst h0
    rw [if_pos (by rfl), fields_Decimal.j0, if_pos rfl, if_pos (.inl rfl)]
  · rw [if_neg (by omega), fields_Decimal.j0]
    by_cases h1 : n < z
    · rw [if_pos (by simp; omega), if_pos (.inr h1)]
    · have hno : ¬ (n = 0 ∨ n < z) := by omega
      rw [if_neg (by simp; omega), if_neg hno]
      by_cases h2 : v < 0
      · rw [if_pos h2, if_pos h2]
      · rw [if_neg h2, if_neg h2]
        cases b
        · rfl
        · rw [if_pos rfl, if_pos rfl, w64 (by omega)]
theorem dec_ref (s : ByteArray) (hs : s.size ≤ 140737488355328) (k : Nat) (hk : s.size + 10 ≤ k) : wainloadref03_Decimal.f k s = some (decP s) := by
  have hz := cutN_size s
  have hb := digV_bd (cutN s).1
  have hj : wainloadref03_Decimal.f k s = wainloadref03_Decimal.j1 (k - 1) (cutN s).1 (if (cutN s).2 then -1 else 1) := by
    unfold wainloadref03_Decimal.f cutN
    obtain ⟨m, rfl⟩ : ∃ m, k = m + 1 := ⟨k - 1, by omega⟩
    by_cases h0 : s.size = 0
    · have hn : nums s = [] := List.eq_nil_of_length_eq_zero (by rw [nums_len]; exact h0)
      rw [if_neg (by omega), hn, wainloadref03_Decimal.j0, if_neg (by decide)]
      rfl
    · have hlt : 0 < (nums s).length := by rw [nums_len]; omega
      have hb0 := bt_nums s 0 hlt
      have hh : (nums s).head? = some ((nums s)[0]) := by rw [List.head?_eq_getElem?, List.getElem?_eq_getElem hlt]
      rw [if_pos (by omega), if_pos (by omega), wainloadref03_Decimal.j0, hh]
      have e0 : bt s 0 = (nums s)[0] := hb0
      rw [e0]
      generalize (nums s)[0] = x
      by_cases hx : x = 45
      · subst hx
        rw [if_pos (by decide), if_pos (by omega), if_pos rfl]
        rfl
      · rw [if_neg (by simp [hx]), if_neg (by simp [hx])]
        rfl
  obtain ⟨m, rfl⟩ : ∃ m, k = m + 3 := ⟨k - 3, by omega⟩
  rw [hj, show m + 3 - 1 = m + 2 by omega, wainloadref03_Decimal.j1]
  unfold decP
  have hrun := run_f (cutN s).1 (by omega) (m + 1) (by omega)
  have hnum := number_f (cutN s).1 (by omega) m (by omega)
  have hle := digN_le 10 (cutN s).1
  generalize (cutN s).1 = B at *
  generalize (cutN s).2 = b
  generalize digV 10 B = v at *
  generalize digN 10 B = n at *
  unfold top at hb
  by_cases h0 : B.size = 0
  · rw [if_pos (by omega), wainloadref03_Decimal.j2, if_pos rfl, if_pos (.inl (by omega))]
  · rw [if_neg (by omega), hrun, Option.bind_some, wainloadref03_Decimal.j2]
    by_cases h1 : n < B.size
    · rw [if_pos (by simp; omega), if_pos (.inr h1)]
    · have hno : ¬ (n = 0 ∨ n < B.size) := by omega
      rw [if_neg (by simp; omega), hnum (by omega), Option.bind_some, if_neg hno]
      by_cases h2 : v < 0
      · rw [if_pos h2, if_pos h2]
      · rw [if_neg h2, if_neg h2]
        cases b
        · rw [if_neg (by decide), if_neg (by decide), Int.one_mul, w64 (by omega)]
        · rw [if_pos rfl, if_pos rfl, w64 (by omega), Int.neg_mul, Int.one_mul]
theorem decimals_law (s : ByteArray) (hs : s.size ≤ 140737488355328) : wainloadlaw03_FieldsDecimals.f (s.size + 10) s = some true := by
  unfold wainloadlaw03_FieldsDecimals.f
  rw [show s.size + 10 = (s.size + 8) + 2 by omega, dec_fields s hs, Option.bind_some, dec_ref s hs _ (by omega), Option.bind_some]
  unfold wainloadlaw03_alive.f
  rw [Option.bind_some, if_pos rfl, if_pos rfl]
  simp
theorem octals_law (l : List Int) (hb : ∀ x ∈ l, 0 ≤ x ∧ x < 256) (hl : l.length ≤ 140737488355328) : wainloadlaw03_FieldsOctals.f (l.length + 6) l = some true := by
  unfold wainloadlaw03_FieldsOctals.f fields_Octal.f
  rw [if_pos hl, if_pos (allB_of hb), Option.bind_some, oct_f l hb (by omega), Option.bind_some]
  unfold wainloadlaw03_alive.f
  rw [Option.bind_some, if_pos rfl, if_pos rfl]
  simp
/-! ### Le -/
/-- The number of bytes, the lowest first. -/
def leP : List Int → Int
  | [] => 0
  | x :: r => x + 256 * leP r
theorem leP_bd (l : List Int) (hb : ∀ x ∈ l, 0 ≤ x ∧ x < 256) : 0 ≤ leP l ∧ leP l < 256 ^ l.length := by
  induction l with
  | nil => exact ⟨by decide, by decide⟩
  | cons x r ih =>
    have h := ih (fun y hy => hb y (List.mem_cons_of_mem _ hy))
    have hx := hb x List.mem_cons_self
    rw [leP, List.length_cons, Int.pow_succ]
    omega
theorem leP_append (a b : List Int) : leP (a ++ b) = leP a + 256 ^ a.length * leP b := by
  induction a with
  | nil => simp [leP]
  | cons x r ih =>
    rw [List.cons_append, leP, leP, ih, List.length_cons, Int.pow_succ, Int.mul_add, Int.mul_comm (256 ^ r.length) 256, Int.mul_assoc]
    omega
end Go.Proofs.YtngkbmlmlfofdaaDoor.P
