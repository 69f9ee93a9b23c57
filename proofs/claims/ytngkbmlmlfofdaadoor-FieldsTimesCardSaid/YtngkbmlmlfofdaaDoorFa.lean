/- Digits, numbers with a top: plain; no program in sight. Numbers as tar writes them: the reference's printed functions and the program's are the plain ones. Texts and their bytes as numbers: plain. The machine's side of fields.digits: what a call comes to. The machine's side of fields.Octal: what a call comes to. Given contracts for the printer: fields.digits (bases 8 and 10) and the search of one byte. -/
import Derived.Test.YtngkbmlmlfofdaaDoorWMore
import Derived.Test.YtngkbmlmlfofdaaDoorHAx
import Derived.Laws.BitsLemmas
import Derived.IntWalk
import Derived.Lib.SlTrimSet
import Derived.Lib.TrimByte
import Derived.Laws.BytesArg
import Derived.Laws.RangeAny
import Derived.Test.YtngkbmlmlfofdaaDoorShelf
import Derived.Shelf.Strings.SlTrimAscii
namespace Go.Proofs.YtngkbmlmlfofdaaDoor.P
open Go.RowKit Go.Proofs.YtngkbmlmlfofdaaDoorW.PrintWords Go.Proofs.YtngkbmlmlfofdaaDoorW.PrintLast Go.Proofs.YtngkbmlmlfofdaaDoorW.PrintMore
set_option linter.unusedVariables false

/-- The bytes of a text as numbers. -/
def nums (s : ByteArray) : List Int := s.data.toList.map fun b => (b.toNat : Int)
theorem nums_len (s : ByteArray) : (nums s).length = s.size := by
  unfold nums
  rw [List.length_map]
  rfl
theorem nums_get (s : ByteArray) (i : Nat) (h : i < s.size) : (nums s)[i]? = some ((s[i]'h).toNat : Int) := by
  have h1 : i < s.data.size := h
  have h2 : s.data.toList[i]? = some (s.data[i]'h1) := by rw [Array.getElem?_toList]; exact Array.getElem?_eq_getElem h1
  unfold nums
  rw [List.getElem?_map, h2]
  rfl
theorem nums_byte (s : ByteArray) : ∀ x ∈ nums s, 0 ≤ x ∧ x < 256 := by
  intro x hx
  simp only [nums, List.mem_map] at hx
  obtain ⟨b, _, rfl⟩ := hx
  have := b.toNat_lt
  omega
def top : Int := 4611686018427387904
/-- A number with one digit more; below 0: it is above the top, or was. -/
def addP (b v d : Int) : Int := if v < 0 then -1 else if v > (top - d) / b then -1 else v * b + d
def numP (b : Int) (ds : List Int) : Int := ds.foldl (addP b) 0
theorem numP_snoc (b : Int) (ds : List Int) (d : Int) : numP b (ds ++ [d]) = addP b (numP b ds) d := by simp [numP]
theorem addP_bd (b v d : Int) (hb : 0 < b) (hd : 0 ≤ d) (hdt : d ≤ top) : -1 ≤ addP b v d ∧ addP b v d ≤ top := by
  unfold addP
  split
  · unfold top; omega
  · split
    · unfold top; omega
    · rename_i h1 h2
      have h3 : v ≤ (top - d) / b := by omega
      have h4 : v * b ≤ top - d := by
        have := Int.mul_le_mul_of_nonneg_right h3 (Int.le_of_lt hb)
        have h5 : (top - d) / b * b ≤ top - d := Int.ediv_mul_le _ (by omega)
        omega
      have h6 : 0 ≤ v * b := Int.mul_nonneg (by omega) (by omega)
      omega
theorem numP_bd (b : Int) (hb : 0 < b) (ds : List Int) (h : ∀ d ∈ ds, 0 ≤ d ∧ d ≤ top) : -1 ≤ numP b ds ∧ numP b ds ≤ top := by
  unfold numP
  have : ∀ (ds : List Int) (v : Int), (∀ d ∈ ds, 0 ≤ d ∧ d ≤ top) → -1 ≤ v ∧ v ≤ top → -1 ≤ ds.foldl (addP b) v ∧ ds.foldl (addP b) v ≤ top := by
    intro ds
    induction ds with
    | nil => intro v _ hv; exact hv
    | cons d ds ih =>
      intro v hd hv
      have h1 := hd d List.mem_cons_self
      exact ih _ (fun x hx => hd x (List.mem_cons_of_mem _ hx)) (addP_bd b v d hb h1.1 h1.2)
  exact this ds 0 h (by unfold top; omega)
/-- Is a byte a digit below a base? -/
def isDig (b c : Int) : Bool := decide (48 ≤ c) && decide (c < 48 + b)
/-- The digits that a text begins with, as numbers. -/
def digs (b : Int) (l : List Int) : List Int := (l.takeWhile (isDig b)).map (· - 48)
theorem digs_len (b : Int) (l : List Int) : (digs b l).length = (l.takeWhile (isDig b)).length := by simp [digs]
theorem digs_ok (b : Int) (l : List Int) : ∀ d ∈ digs b l, 0 ≤ d ∧ d < b := by
  intro d hd
  simp only [digs, List.mem_map] at hd
  obtain ⟨c, hc, rfl⟩ := hd
  have := List.all_takeWhile (p := isDig b) (l := l)
  rw [List.all_eq_true] at this
  have h := this c hc
  simp [isDig] at h
  omega
theorem takeWhile_at {α : Type} (p : α → Bool) (l : List α) (k : Nat) (h1 : ∀ x ∈ l.take k, p x = true) (h2 : ∀ x, l[k]? = some x → p x = false) (hk : k ≤ l.length) : l.takeWhile p = l.take k := by
  have e : l = l.take k ++ l.drop k := (List.take_append_drop k l).symm
  have : (l.take k ++ l.drop k).takeWhile p = l.take k := by
    rw [List.takeWhile_append_of_pos h1]
    cases hd : l.drop k with
    | nil => simp
    | cons x r =>
      have hx : l[k]? = some x := by
        have := List.getElem?_drop (xs := l) (i := k) (j := 0)
        rw [hd] at this
        simpa using this.symm
      rw [List.takeWhile_cons, h2 x hx]
      simp
  rw [← e] at this
  exact this
end Go.Proofs.YtngkbmlmlfofdaaDoor.P
namespace Go.Proofs.YtngkbmlmlfofdaaDoor.P
open Go.RowKit Go.Proofs.YtngkbmlmlfofdaaDoorW.PrintWords Go.Proofs.YtngkbmlmlfofdaaDoorW.PrintLast Go.Proofs.YtngkbmlmlfofdaaDoorW.PrintMore
open Go.Proofs.YtngkbmlmlfofdaaDoor.HA
set_option linter.unusedVariables false
set_option linter.unusedSectionVars false

theorem rd_nat (l : List Int) (i : Nat) (h : i < l.length) : rd l (i : Int) = l[i] := by
  simp [rd, List.getD_eq_getElem?_getD, h]
theorem w64 {n : Int} (h : -9223372036854775808 ≤ n ∧ n ≤ 9223372036854775807) : wrap64 n = n := IntWalk.wrap64_in n h
/-- A number, or that it is above the top. -/
def resP (v : Int) : Int × Int := if v < 0 then (0, 31) else (v, 0)
theorem addP_neg (b : Int) (ds : List Int) : ds.foldl (addP b) (-1) = -1 := by
  induction ds with
  | nil => rfl
  | cons d ds ih =>
    rw [List.foldl_cons]
    have : addP b (-1) d = -1 := by unfold addP; rw [if_pos (by omega)]
    rw [this, ih]
theorem i64_or8 (x y : Int) (h0 : 0 ≤ x) (h1 : x % 256 = 0) (h2 : x < 9223372036854775808) (h3 : 0 ≤ y) (h4 : y < 256) : Go.bits .or .i64 x y = x + y := by
  refine bits_join .i64 63 (by decide) (fun n h0 h1 => ?_) 8 x y h0 (by omega) (by omega) h3 (by omega) (by omega)
  have h1' : n < 9223372036854775808 := h1
  rw [IntKind.wrap_i64]
  omega
theorem add_f8 (v d : Int) (hv : -1 ≤ v ∧ v ≤ top) (hd : 0 ≤ d ∧ d < 8) : wainloadref03_add.f v 8 d = some (addP 8 v d) := by
  unfold wainloadref03_add.f addP
  unfold top at *
  by_cases h : v < 0
  · rw [if_pos h, if_pos h]
  · rw [if_neg h, if_neg h, if_neg (by decide), w64 (n := 4611686018427387904 - d) (by omega), Int.tdiv_eq_ediv_of_nonneg (by omega), w64 (n := (4611686018427387904 - d) / 8) (by omega)]
    by_cases h2 : v > (4611686018427387904 - d) / 8
    · rw [if_pos h2, if_pos h2]
    · rw [if_neg h2, if_neg h2, w64 (n := v * 8) (by omega), w64 (n := v * 8 + d) (by omega)]
theorem addP_bd8 (v d : Int) (hd : 0 ≤ d ∧ d < 8) : -1 ≤ addP 8 v d ∧ addP 8 v d ≤ top := addP_bd 8 v d (by decide) hd.1 (by unfold top; omega)
theorem add_f10 (v d : Int) (hv : -1 ≤ v ∧ v ≤ top) (hd : 0 ≤ d ∧ d < 10) : wainloadref03_add.f v 10 d = some (addP 10 v d) := by
  unfold wainloadref03_add.f addP
  unfold top at *
  by_cases h : v < 0
  · rw [if_pos h, if_pos h]
  · rw [if_neg h, if_neg h, if_neg (by decide), w64 (n := 4611686018427387904 - d) (by omega), Int.tdiv_eq_ediv_of_nonneg (by omega), w64 (n := (4611686018427387904 - d) / 10) (by omega)]
    by_cases h2 : v > (4611686018427387904 - d) / 10
    · rw [if_pos h2, if_pos h2]
    · rw [if_neg h2, if_neg h2, w64 (n := v * 10) (by omega), w64 (n := v * 10 + d) (by omega)]
theorem addP_bd10 (v d : Int) (hd : 0 ≤ d ∧ d < 10) : -1 ≤ addP 10 v d ∧ addP 10 v d ≤ top := addP_bd 10 v d (by decide) hd.1 (by unfold top; omega)
theorem add_f256 (v d : Int) (hv : -1 ≤ v ∧ v ≤ top) (hd : 0 ≤ d ∧ d < 256) : wainloadref03_add.f v 256 d = some (addP 256 v d) := by
  unfold wainloadref03_add.f addP
  unfold top at *
  by_cases h : v < 0
  · rw [if_pos h, if_pos h]
  · rw [if_neg h, if_neg h, if_neg (by decide), w64 (n := 4611686018427387904 - d) (by omega), Int.tdiv_eq_ediv_of_nonneg (by omega), w64 (n := (4611686018427387904 - d) / 256) (by omega)]
    by_cases h2 : v > (4611686018427387904 - d) / 256
    · rw [if_pos h2, if_pos h2]
    · rw [if_neg h2, if_neg h2, w64 (n := v * 256) (by omega), w64 (n := v * 256 + d) (by omega)]
theorem addP_bd256 (v d : Int) (hd : 0 ≤ d ∧ d < 256) : -1 ≤ addP 256 v d ∧ addP 256 v d ≤ top := addP_bd 256 v d (by decide) hd.1 (by unfold top; omega)
/-- The program's loop over the highest byte first. -/
theorem high_l0 (l : List Int) (hb : ∀ x ∈ l, 0 ≤ x ∧ x < 256) (hl : l.length < 9223372036854775807) : ∀ (d k i : Nat) (v : Int), i + d = l.length → d < k → 0 ≤ v → v ≤ top + 255 →
    fields_high.l0 k v l (l.length : Int) (i : Int) = some (resP ((l.drop i).foldl (addP 256) (if v > top then -1 else v))) := by
  intro d
  induction d with
  | zero =>
    intro k i v hi hk h0 h1
    obtain ⟨k, rfl⟩ : ∃ m, k = m + 1 := ⟨k - 1, by omega⟩
    rw [fields_high.l0, if_neg (by omega), List.drop_of_length_le (by omega), List.foldl_nil]
    unfold top resP
    by_cases h : v > 4611686018427387904
    · rw [if_pos h, if_pos h, if_pos (by omega)]
    · rw [if_neg h, if_neg h, if_neg (by omega)]
  | succ d ih =>
    intro k i v hi hk h0 h1
    obtain ⟨k, rfl⟩ : ∃ m, k = m + 1 := ⟨k - 1, by omega⟩
    have hlt : i < l.length := by omega
    have hx := hb _ (List.getElem_mem hlt)
    rw [fields_high.l0, if_pos (by omega), if_pos (by omega), if_pos (by omega), rd_nat l i hlt, List.drop_eq_getElem_cons hlt, List.foldl_cons]
    generalize l[i] = x at hx
    unfold top at *
    by_cases h : v > 18014398509481984
    · rw [if_pos h]
      have e : addP 256 (if v > 4611686018427387904 then -1 else v) x = -1 := by
        unfold addP top
        split
        · rw [if_pos (by omega)]
        · rw [if_neg (by omega), if_pos (by omega)]
      rw [e, addP_neg]
      rfl
    · rw [if_neg h, w64 (n := v * 256) (by omega), w64 (n := x) (by omega), i64_or8 _ _ (by omega) (by omega) (by omega) hx.1 hx.2, w64 (n := (i : Int) + 1) (by omega), show ((i : Int) + 1) = ((i + 1 : Nat) : Int) by omega, ih k (i + 1) _ (by omega) (by omega) (by omega) (by omega)]
      refine congrArg (fun z => some (resP ((l.drop (i + 1)).foldl (addP 256) z))) ?_
      rw [if_neg (show ¬ v > 4611686018427387904 by omega)]
      unfold addP top
      rw [if_neg (show ¬ v < 0 by omega)]
      by_cases h2 : v * 256 + x > 4611686018427387904
      · rw [if_pos h2, if_pos (show v > (4611686018427387904 - x) / 256 by omega)]
      · rw [if_neg h2, if_neg (show ¬ v > (4611686018427387904 - x) / 256 by omega)]
def highP (l : List Int) : Int × Int := resP (numP 256 l)
theorem high_f (l : List Int) (hb : ∀ x ∈ l, 0 ≤ x ∧ x < 256) (hl : l.length < 9223372036854775807) : fields_high.f (l.length + 1) l = some (highP l) := by
  unfold fields_high.f
  have := high_l0 l hb hl l.length (l.length + 1) 0 0 (by omega) (by omega) (by omega) (by unfold top; omega)
  rw [if_neg (by unfold top; omega)] at this
  exact this

/-! ### The reference's Octal -/
def isBl (c : Int) : Bool := c == 32 || c == 0
def restP (v : Int) (r : List Int) : Int × Int := if r.all isBl then resP v else (0, 30)
def octD (v : Int) (r : List Int) : Int × Int := restP (((r.takeWhile (isDig 8)).map (· - 48)).foldl (addP 8) v) (r.dropWhile (isDig 8))
def octalP (l : List Int) : Int × Int := if l.head? = some 128 then highP l.tail else octD 0 (l.dropWhile (· == 32))
section
variable (l : List Int) (hb : ∀ x ∈ l, 0 ≤ x ∧ x < 256) (hl : l.length < 9223372036854775807)
include hb hl
theorem oct_l0 : ∀ (d k i : Nat) (v : Int), i + d = l.length → d < k → -1 ≤ v ∧ v ≤ top → wainloadref03_Octal.l0 k l v (i : Int) = some (resP ((l.drop i).foldl (addP 256) v)) := by
  intro d
  induction d with
  | zero =>
    intro k i v hi hk hv
    obtain ⟨k, rfl⟩ : ∃ m, k = m + 1 := ⟨k - 1, by omega⟩
    rw [wainloadref03_Octal.l0, if_neg (by omega), List.drop_of_length_le (by omega), List.foldl_nil]
    unfold resP
    split <;> rfl
  | succ d ih =>
    intro k i v hi hk hv
    obtain ⟨k, rfl⟩ : ∃ m, k = m + 1 := ⟨k - 1, by omega⟩
    have hlt : i < l.length := by omega
    have hx := hb _ (List.getElem_mem hlt)
    rw [wainloadref03_Octal.l0, if_pos (by omega), if_pos (by omega), rd_nat l i hlt, List.drop_eq_getElem_cons hlt, List.foldl_cons]
    generalize l[i] = x at hx
    rw [w64 (n := x) (by omega), add_f256 v x hv hx, Option.bind_some, w64 (n := (i : Int) + 1) (by omega), show ((i : Int) + 1) = ((i + 1 : Nat) : Int) by omega, ih k (i + 1) _ (by omega) (by omega) (addP_bd256 v x hx)]
theorem oct_l3 : ∀ (d k i : Nat) (v : Int), i + d = l.length → d < k → wainloadref03_Octal.l3 k l v (i : Int) = some (restP v (l.drop i)) := by
  intro d
  induction d with
  | zero =>
    intro k i v hi hk
    obtain ⟨k, rfl⟩ : ∃ m, k = m + 1 := ⟨k - 1, by omega⟩
    rw [wainloadref03_Octal.l3, if_neg (by omega), List.drop_of_length_le (by omega)]
    unfold restP resP
    simp only [List.all_nil, if_true]
    split <;> rfl
  | succ d ih =>
    intro k i v hi hk
    obtain ⟨k, rfl⟩ : ∃ m, k = m + 1 := ⟨k - 1, by omega⟩
    have hlt : i < l.length := by omega
    have hw : wrap64 ((i : Int) + 1) = ((i + 1 : Nat) : Int) := by rw [w64 (by omega)]; omega
    have ih' := ih k (i + 1) v (by omega) (by omega)
    rw [wainloadref03_Octal.l3, if_pos (by omega), if_pos (by omega), rd_nat l i hlt, hw, ih', List.drop_eq_getElem_cons hlt]
    unfold restP
    generalize l[i] = x
    by_cases h1 : x = 32
    · subst h1; rfl
    · by_cases h2 : x = 0
      · subst h2; rfl
      · have hbk : isBl x = false := by simp [isBl, h1, h2]
        rw [if_neg h1, if_neg h2, List.all_cons, hbk]
        rfl
theorem oct_l2 : ∀ (d k i : Nat) (v : Int), i + d = l.length → d + 2 < k → -1 ≤ v ∧ v ≤ top → wainloadref03_Octal.l2 k l v (i : Int) = some (octD v (l.drop i)) := by
  intro d
  induction d with
  | zero =>
    intro k i v hi hk hv
    obtain ⟨k, rfl⟩ : ∃ m, k = m + 2 := ⟨k - 2, by omega⟩
    rw [wainloadref03_Octal.l2, if_neg (by omega), wainloadref03_Octal.j5, oct_l3 l hb hl 0 k i v hi (by omega), List.drop_of_length_le (by omega)]
    rfl
  | succ d ih =>
    intro k i v hi hk hv
    obtain ⟨k, rfl⟩ : ∃ m, k = m + 2 := ⟨k - 2, by omega⟩
    have hlt : i < l.length := by omega
    have hx := hb _ (List.getElem_mem hlt)
    have hw : wrap64 ((i : Int) + 1) = ((i + 1 : Nat) : Int) := by rw [w64 (by omega)]; omega
    have h3 := oct_l3 l hb hl (d + 1) k i v hi (by omega)
    rw [wainloadref03_Octal.l2, if_pos (by omega), if_pos (by omega), rd_nat l i hlt, hw, wainloadref03_Octal.j5, h3, List.drop_eq_getElem_cons hlt]
    generalize l[i] = x at hx
    by_cases h1 : x ≥ 48
    · by_cases h2 : x ≤ 55
      · have hd : isDig 8 x = true := by simp [isDig]; omega
        rw [if_pos h1, if_pos h2, w64 (n := x) (by omega), w64 (n := x - 48) (by omega), add_f8 v (x - 48) hv (by omega), Option.bind_some, ih (k + 1) (i + 1) _ (by omega) (by omega) (addP_bd8 v (x - 48) (by omega))]
        unfold octD
        rw [List.takeWhile_cons, List.dropWhile_cons, hd]
        rfl
      · have hd : isDig 8 x = false := by simp [isDig]; omega
        rw [if_pos h1, if_neg h2]
        unfold octD
        rw [List.takeWhile_cons, List.dropWhile_cons, hd]
        rfl
    · have hd : isDig 8 x = false := by simp [isDig]; omega
      rw [if_neg h1]
      unfold octD
      rw [List.takeWhile_cons, List.dropWhile_cons, hd]
      rfl
theorem oct_l1 : ∀ (d k i : Nat), i + d = l.length → d + 4 < k → wainloadref03_Octal.l1 k l 0 (i : Int) = some (octD 0 ((l.drop i).dropWhile (· == 32))) := by
  intro d
  induction d with
  | zero =>
    intro k i hi hk
    obtain ⟨k, rfl⟩ : ∃ m, k = m + 2 := ⟨k - 2, by omega⟩
    rw [wainloadref03_Octal.l1, if_neg (by omega), wainloadref03_Octal.j3, oct_l2 l hb hl 0 k i 0 hi (by omega) (by unfold top; omega), List.drop_of_length_le (by omega)]
    rfl
  | succ d ih =>
    intro k i hi hk
    obtain ⟨k, rfl⟩ : ∃ m, k = m + 2 := ⟨k - 2, by omega⟩
    have hlt : i < l.length := by omega
    have hw : wrap64 ((i : Int) + 1) = ((i + 1 : Nat) : Int) := by rw [w64 (by omega)]; omega
    have h2 := oct_l2 l hb hl (d + 1) k i 0 hi (by omega) (by unfold top; omega)
    rw [wainloadref03_Octal.l1, if_pos (by omega), if_pos (by omega), rd_nat l i hlt, hw, ih (k + 1) (i + 1) (by omega) (by omega), wainloadref03_Octal.j3, h2, List.drop_eq_getElem_cons hlt, List.dropWhile_cons]
    by_cases h1 : l[i] = 32
    · simp [h1]
    · simp [h1]
theorem oct_f : wainloadref03_Octal.f (l.length + 6) l = some (octalP l) := by
  unfold wainloadref03_Octal.f octalP
  cases l with
  | nil =>
    have h := oct_l1 [] hb hl 0 5 0 rfl (by decide)
    rw [if_neg (by decide), wainloadref03_Octal.j0, if_neg (by decide)]
    exact h
  | cons x r =>
    have hlen : (x :: r).length = r.length + 1 := rfl
    rw [if_pos (by omega), if_pos (by omega), show (x :: r).length + 6 = (r.length + 6) + 1 by omega, wainloadref03_Octal.j0]
    have e : rd (x :: r) 0 = x := rfl
    rw [e]
    by_cases h1 : x = 128
    · subst h1
      have h := oct_l0 (128 :: r) hb hl r.length (r.length + 6) 1 0 (by omega) (by omega) (by unfold top; omega)
      rw [if_pos (by decide), if_pos (show (128 :: r).head? = some 128 from rfl)]
      exact h
    · have h := oct_l1 (x :: r) hb hl (r.length + 1) (r.length + 6) 0 (by omega) (by omega)
      rw [if_neg (by simp [h1]), if_neg (by simp [h1])]
      exact h
end
end Go.Proofs.YtngkbmlmlfofdaaDoor.P
namespace Go.Proofs.YtngkbmlmlfofdaaDoor.P
open Go.RowKit Go.Proofs.YtngkbmlmlfofdaaDoorW.PrintWords Go.Proofs.YtngkbmlmlfofdaaDoorW.PrintLast Go.Proofs.YtngkbmlmlfofdaaDoorW.PrintMore
set_option linter.unusedVariables false

def byteOk (x : Int) : Prop := 0 ≤ x ∧ x < 256
/-- Bytes as numbers. -/
def toN (l : List UInt8) : List Int := l.map fun b => (b.toNat : Int)
theorem toN_mk (l : List UInt8) : nums ⟨l.toArray⟩ = toN l := rfl
theorem nums_eq (s : ByteArray) : nums s = toN s.data.toList := rfl
theorem toN_len (l : List UInt8) : (toN l).length = l.length := by simp [toN]
theorem nums_str (l : List Int) (h : ∀ x ∈ l, byteOk x) : nums (strOfNums l) = l := by
  rw [nums_eq, strOfNums_data]
  unfold toN
  rw [List.map_map]
  conv => rhs; rw [← List.map_id l]
  refine List.map_congr_left (fun x hx => ?_)
  have := h x hx
  obtain ⟨h0, h1⟩ := this
  simp [UInt8.toNat_ofNat']
  omega
theorem size_mk (l : List UInt8) : (⟨l.toArray⟩ : ByteArray).size = l.length := by
  show l.toArray.size = _
  simp
theorem toN_dropWhile (p : UInt8 → Bool) (q : Int → Bool) (h : ∀ b : UInt8, p b = q (b.toNat : Int)) (l : List UInt8) : toN (l.dropWhile p) = (toN l).dropWhile q := by
  unfold toN
  induction l with
  | nil => rfl
  | cons x r ih =>
    rw [List.dropWhile_cons, List.map_cons, List.dropWhile_cons, h x]
    split
    · exact ih
    · rfl
theorem trimLeft_nums (l : List UInt8) : toN (Lib.trimLeftB l 32) = (toN l).dropWhile (· == 32) := by
  refine toN_dropWhile _ _ (fun b => ?_) l
  rw [Bool.eq_iff_iff]
  simp only [beq_iff_eq]
  constructor
  · rintro rfl; rfl
  · intro h
    exact UInt8.toNat_inj.1 (by have : ((32 : UInt8).toNat : Int) = 32 := rfl; omega)
theorem dropWhile_nil {α : Type} (p : α → Bool) (l : List α) : l.dropWhile p = [] ↔ ∀ x ∈ l, p x = true := by
  induction l with
  | nil => simp
  | cons x r ih =>
    rw [List.dropWhile_cons]
    by_cases h : p x = true
    · rw [if_pos h, ih]
      simp [h]
    · rw [if_neg h]
      simp [h]
theorem trimS_nil (l cs : List UInt8) : (Lib.trimS l cs = []) ↔ ∀ x ∈ l, cs.contains x = true := by
  unfold Lib.trimS Lib.trimLeftS Lib.trimRightS
  constructor
  · intro h
    have h1 : ∀ x ∈ (l.reverse.dropWhile (cs.contains ·)).reverse, cs.contains x = true := by
      intro x hx
      by_cases hc : cs.contains x = true
      · exact hc
      · exfalso
        have hd := (dropWhile_nil _ _).1 h
        exact hc (hd x hx)
    have h2 : l.reverse.dropWhile (cs.contains ·) = [] := by
      cases hh : l.reverse.dropWhile (cs.contains ·) with
      | nil => rfl
      | cons y ys =>
        exfalso
        have h3 := h1 y (by rw [hh]; simp)
        have := List.head_dropWhile_not (p := (cs.contains ·)) (l := l.reverse) (by rw [hh]; simp)
        simp only [hh, List.head_cons] at this
        rw [h3] at this
        cases this
    intro x hx
    exact (dropWhile_nil _ _).1 h2 x (List.mem_reverse.2 hx)
  · intro h
    have : l.reverse.dropWhile (cs.contains ·) = [] := (dropWhile_nil _ _).2 (fun x hx => h x (List.mem_reverse.1 hx))
    rw [this]
    rfl
theorem extract_end (s : ByteArray) (k : Nat) (h : k ≤ s.size) : nums (s.extract k s.size) = (nums s).drop k := by
  have : (s.extract k s.size).data.toList = s.data.toList.drop k := by
    have hs : s.size = s.data.toList.length := by rw [Array.length_toList]; rfl
    rw [ByteArray.data_extract, Array.toList_extract]
    simp only [List.extract]
    rw [hs, List.take_of_length_le (by simp)]
  rw [nums_eq, this, nums_eq]
  unfold toN
  rw [List.map_drop]
theorem drop_takeWhile (p : Int → Bool) (l : List Int) : l.drop (l.takeWhile p).length = l.dropWhile p := by
  induction l with
  | nil => rfl
  | cons x r ih =>
    rw [List.takeWhile_cons, List.dropWhile_cons]
    split
    · rw [List.length_cons, List.drop_succ_cons]; exact ih
    · rfl
end Go.Proofs.YtngkbmlmlfofdaaDoor.P
namespace Go.Proofs.YtngkbmlmlfofdaaDoor.F
open Go.RowKit Go.Proofs.YtngkbmlmlfofdaaDoorW.PrintWords Go.Proofs.YtngkbmlmlfofdaaDoorW.PrintLast Go.Proofs.YtngkbmlmlfofdaaDoorW.PrintMore
open Go.Proofs.YtngkbmlmlfofdaaDoor.HA Go.Proofs.YtngkbmlmlfofdaaDoor.P
set_option linter.unusedVariables false
set_option linter.unusedSimpArgs false

/-- The letter that stands at a place: a byte below 128 is itself; else it is above 127. -/
theorem decode_rune (s : ByteArray) (k : Nat) (h : k < s.size) : ∃ r n : Nat, Utf8.decode s k = (r, n) ∧ r ≤ 2147483647 ∧ ((s[k]'h).toNat < 128 → r = (s[k]'h).toNat ∧ n = 1) ∧ (¬ (s[k]'h).toNat < 128 → 128 ≤ r) := by
  obtain ⟨r, n, e⟩ : ∃ r n : Nat, Utf8.decode s k = (r, n) := ⟨_, _, rfl⟩
  have h0 := decode_le s k
  rw [e] at h0
  refine ⟨r, n, e, h0, fun h1 => ?_, fun h1 => ?_⟩
  · have h2 := decode_ascii s k h h1
    rw [e] at h2
    injection h2 with h3 h4
    exact ⟨h3, h4⟩
  · have h2 := (decode_high s k h (by omega)).1
    rw [e] at h2
    exact h2
/-- What digits tells of a text: the number, and how many digits. -/
def digV (b : Int) (s : ByteArray) : Int := numP b (digs b (nums s))
def digN (b : Int) (s : ByteArray) : Nat := (digs b (nums s)).length
def DigV (b : Int) (s : ByteArray) (w : World) (e : Ending) (w' : World) : Prop := e = .returned (.tuple #[.int .i64 (digV b s), .int .i64 (digN b s)]) ∧ Below w.heap.size w w'
theorem dig_at (b : Int) (s : ByteArray) (k : Nat) (hk : k ≤ s.size) (h1 : ∀ x ∈ (nums s).take k, isDig b x = true) (h2 : ∀ x, (nums s)[k]? = some x → isDig b x = false) : digV b s = numP b (((nums s).map (· - 48)).take k) ∧ digN b s = k := by
  have := takeWhile_at (isDig b) (nums s) k h1 h2 (by rw [nums_len]; exact hk)
  unfold digV digN digs
  rw [this]
  exact ⟨by rw [List.map_take], by rw [List.length_map, List.length_take, nums_len]; omega⟩

set_option maxHeartbeats 2000000 in
set_option maxRecDepth 100000 in
theorem digits_calls8 (s : ByteArray) (w : World) (hs : s.size ≤ 140737488355328) : Calls Tryd.prog 27 #[.string s, .int .i64 8] w (DigV 8 s w) := by
  go_enter Tryd.func27, Tryd.ntmps27
  go_upto_block 0 with fail
  go_cut [6, 7] (fun v6 v7 wr => v6 = .int .i64 (digV 8 s) ∧ v7 = .int .i64 (digN 8 s) ∧ Aside0 (Below w.heap.size w wr))
  case first =>
    go_wp2_with fail
    go_loopg [6, 7] s.size (fun gk v6 v7 wr => ∃ k : Nat, v6 = .int .i64 (numP 8 (((nums s).map (· - 48)).take k)) ∧ v7 = .int .i64 k ∧ Aside0 (gk + k = s.size) ∧ k ≤ s.size ∧ Aside0 (∀ x ∈ (nums s).take k, isDig 8 x = true) ∧ wr = w.iter s k)
    case atStart => exact ⟨0, rfl, rfl, ⟨rfl⟩, by omega, ⟨by simp⟩, rfl⟩
    case round =>
      obtain ⟨k, rfl, rfl, hgk, hk, hd, rfl⟩ := hrel
      by_cases hks : k < s.size
      · obtain ⟨r, n, hdec, hr1, hr2, hr3⟩ := decode_rune s k hks
        have hnx := fun ty => run_next_any (P := Tryd.prog) w s k ty hks
        rw [hdec] at hnx
        have hg := nums_get s k hks
        have hbd : (s[k]'hks).toNat < 256 := UInt8.toNat_lt _
        have htk : (nums s).take (k + 1) = (nums s).take k ++ [((s[k]'hks).toNat : Int)] := by
          rw [List.take_add_one, hg]; rfl
        generalize (s[k]'hks).toNat = c at hr2 hr3 hg hbd htk
        by_cases hdg : isDig 8 (c : Int) = true
        · have hc := hdg
          simp only [isDig, Bool.and_eq_true, decide_eq_true_eq] at hc
          obtain ⟨rfl, rfl⟩ := hr2 (by omega)
          have hvb := numP_bd 8 (by omega) (((nums s).map (· - 48)).take k) (by
            intro d hd2
            rw [← List.map_take, List.mem_map] at hd2
            obtain ⟨x, hx, rfl⟩ := hd2
            have h3 := hd.out x hx
            simp [isDig] at h3
            unfold top
            omega)
          have hsn : Aside0 (numP 8 (((nums s).map (· - 48)).take (k + 1)) = addP 8 (numP 8 (((nums s).map (· - 48)).take k)) ((r : Int) - 48)) := ⟨by rw [← List.map_take, htk, List.map_append, List.map_cons, List.map_nil, numP_snoc, List.map_take]⟩
          have hd2 : Aside0 (∀ x ∈ (nums s).take (k + 1), isDig 8 x = true) := ⟨by
            intro x hx
            rw [htk] at hx
            rcases List.mem_append.1 hx with hx | hx
            · exact hd.out x hx
            · simp at hx; rw [hx]; exact hdg⟩
          generalize numP 8 (((nums s).map (· - 48)).take k) = v at hvb hsn ⊢
          have hv1 : v ≤ 4611686018427387904 := hvb.2
          have hv0 : -1 ≤ v := hvb.1
          have hc1 := hc.1
          have hc2 := hc.2
          clear hg hdg hvb hd hdec htk hr2 hr3 hc
          by_cases hneg : v < 0
          · have hv : v = -1 := by omega
            subst hv
            have hadd : addP 8 (-1) ((r : Int) - 48) = -1 := by unfold addP; rw [if_pos (by omega)]
            rw [hadd] at hsn
            go_wp2_with fail
            go_roundg (gk - 1)
            case measure => have := hgk.out; omega
            case rel => exact ⟨k + 1, by rw [hsn.out], by go_num, ⟨by have := hgk.out; omega⟩, by omega, hd2, rfl⟩
          · have hv : 0 ≤ v := by omega
            by_cases hbig : (4611686018427387904 - ((r : Int) - 48)) / 8 < v
            · have hadd : addP 8 v ((r : Int) - 48) = -1 := by unfold addP top; rw [if_neg hneg, if_pos hbig]
              rw [hadd] at hsn
              go_wp2_with fail
              go_roundg (gk - 1)
              case measure => have := hgk.out; omega
              case rel => exact ⟨k + 1, by rw [hsn.out], by go_num, ⟨by have := hgk.out; omega⟩, by omega, hd2, rfl⟩
            · have hadd : addP 8 v ((r : Int) - 48) = v * 8 + ((r : Int) - 48) := by unfold addP top; rw [if_neg hneg, if_neg hbig]
              rw [hadd] at hsn
              have hsm : v * 8 + ((r : Int) - 48) ≤ 4611686018427387904 := by omega
              go_wp2_with fail
              go_roundg (gk - 1)
              case measure => have := hgk.out; omega
              case rel => exact ⟨k + 1, by rw [hsn.out], by go_num, ⟨by have := hgk.out; omega⟩, by omega, hd2, rfl⟩
        · have hat := Aside0.mk (dig_at 8 s k hk hd.out (fun x hx => by rw [hg] at hx; injection hx with hx; rw [← hx]; simpa using hdg))
          have hout : (r : Int) - 48 < 0 ∨ (¬ (r : Int) - 48 < 0 ∧ 8 ≤ (r : Int) - 48) := by
            by_cases hc : c < 128
            · obtain ⟨rfl, _⟩ := hr2 hc
              simp [isDig] at hdg
              omega
            · have := hr3 hc
              omega
          clear hg hdg hd hdec htk hr2 hr3
          rcases hout with h1 | ⟨h1, h2⟩
          all_goals
            go_wp2_with fail
            go_meet
            exact ⟨by rw [hat.out.1], by rw [hat.out.2], ⟨below_alloc (Below.refl _ _) _⟩⟩
      · have hnx := fun ty => run_next_end (P := Tryd.prog) w s k ty hks
        have hat := Aside0.mk (dig_at 8 s k hk hd.out (fun x hx => by rw [List.getElem?_eq_none (by rw [nums_len]; omega)] at hx; cases hx))
        go_wp2_with fail
        go_meet
        exact ⟨by rw [hat.out.1], by rw [hat.out.2], ⟨below_alloc (Below.refl _ _) _⟩⟩
  case rest =>
    obtain ⟨rfl, rfl, HB⟩ := hcut
    go_wp2_with fail
    go_ret2
    exact ⟨rfl, HB.out⟩
set_option maxHeartbeats 2000000 in
set_option maxRecDepth 100000 in
theorem digits_calls10 (s : ByteArray) (w : World) (hs : s.size ≤ 140737488355328) : Calls Tryd.prog 27 #[.string s, .int .i64 10] w (DigV 10 s w) := by
  go_enter Tryd.func27, Tryd.ntmps27
  go_upto_block 0 with fail
  go_cut [6, 7] (fun v6 v7 wr => v6 = .int .i64 (digV 10 s) ∧ v7 = .int .i64 (digN 10 s) ∧ Aside0 (Below w.heap.size w wr))
  case first =>
    go_wp2_with fail
    go_loopg [6, 7] s.size (fun gk v6 v7 wr => ∃ k : Nat, v6 = .int .i64 (numP 10 (((nums s).map (· - 48)).take k)) ∧ v7 = .int .i64 k ∧ Aside0 (gk + k = s.size) ∧ k ≤ s.size ∧ Aside0 (∀ x ∈ (nums s).take k, isDig 10 x = true) ∧ wr = w.iter s k)
    case atStart => exact ⟨0, rfl, rfl, ⟨rfl⟩, by omega, ⟨by simp⟩, rfl⟩
    case round =>
      obtain ⟨k, rfl, rfl, hgk, hk, hd, rfl⟩ := hrel
      by_cases hks : k < s.size
      · obtain ⟨r, n, hdec, hr1, hr2, hr3⟩ := decode_rune s k hks
        have hnx := fun ty => run_next_any (P := Tryd.prog) w s k ty hks
        rw [hdec] at hnx
        have hg := nums_get s k hks
        have hbd : (s[k]'hks).toNat < 256 := UInt8.toNat_lt _
        have htk : (nums s).take (k + 1) = (nums s).take k ++ [((s[k]'hks).toNat : Int)] := by
          rw [List.take_add_one, hg]; rfl
        generalize (s[k]'hks).toNat = c at hr2 hr3 hg hbd htk
        by_cases hdg : isDig 10 (c : Int) = true
        · have hc := hdg
          simp only [isDig, Bool.and_eq_true, decide_eq_true_eq] at hc
          obtain ⟨rfl, rfl⟩ := hr2 (by omega)
          have hvb := numP_bd 10 (by omega) (((nums s).map (· - 48)).take k) (by
            intro d hd2
            rw [← List.map_take, List.mem_map] at hd2
            obtain ⟨x, hx, rfl⟩ := hd2
            have h3 := hd.out x hx
            simp [isDig] at h3
            unfold top
            omega)
          have hsn : Aside0 (numP 10 (((nums s).map (· - 48)).take (k + 1)) = addP 10 (numP 10 (((nums s).map (· - 48)).take k)) ((r : Int) - 48)) := ⟨by rw [← List.map_take, htk, List.map_append, List.map_cons, List.map_nil, numP_snoc, List.map_take]⟩
          have hd2 : Aside0 (∀ x ∈ (nums s).take (k + 1), isDig 10 x = true) := ⟨by
            intro x hx
            rw [htk] at hx
            rcases List.mem_append.1 hx with hx | hx
            · exact hd.out x hx
            · simp at hx; rw [hx]; exact hdg⟩
          generalize numP 10 (((nums s).map (· - 48)).take k) = v at hvb hsn ⊢
          have hv1 : v ≤ 4611686018427387904 := hvb.2
          have hv0 : -1 ≤ v := hvb.1
          have hc1 := hc.1
          have hc2 := hc.2
          clear hg hdg hvb hd hdec htk hr2 hr3 hc
          by_cases hneg : v < 0
          · have hv : v = -1 := by omega
            subst hv
            have hadd : addP 10 (-1) ((r : Int) - 48) = -1 := by unfold addP; rw [if_pos (by omega)]
            rw [hadd] at hsn
            go_wp2_with fail
            go_roundg (gk - 1)
            case measure => have := hgk.out; omega
            case rel => exact ⟨k + 1, by rw [hsn.out], by go_num, ⟨by have := hgk.out; omega⟩, by omega, hd2, rfl⟩
          · have hv : 0 ≤ v := by omega
            by_cases hbig : (4611686018427387904 - ((r : Int) - 48)) / 10 < v
            · have hadd : addP 10 v ((r : Int) - 48) = -1 := by unfold addP top; rw [if_neg hneg, if_pos hbig]
              rw [hadd] at hsn
              go_wp2_with fail
              go_roundg (gk - 1)
              case measure => have := hgk.out; omega
              case rel => exact ⟨k + 1, by rw [hsn.out], by go_num, ⟨by have := hgk.out; omega⟩, by omega, hd2, rfl⟩
            · have hadd : addP 10 v ((r : Int) - 48) = v * 10 + ((r : Int) - 48) := by unfold addP top; rw [if_neg hneg, if_neg hbig]
              rw [hadd] at hsn
              have hsm : v * 10 + ((r : Int) - 48) ≤ 4611686018427387904 := by omega
              go_wp2_with fail
              go_roundg (gk - 1)
              case measure => have := hgk.out; omega
              case rel => exact ⟨k + 1, by rw [hsn.out], by go_num, ⟨by have := hgk.out; omega⟩, by omega, hd2, rfl⟩
        · have hat := Aside0.mk (dig_at 10 s k hk hd.out (fun x hx => by rw [hg] at hx; injection hx with hx; rw [← hx]; simpa using hdg))
          have hout : (r : Int) - 48 < 0 ∨ (¬ (r : Int) - 48 < 0 ∧ 10 ≤ (r : Int) - 48) := by
            by_cases hc : c < 128
            · obtain ⟨rfl, _⟩ := hr2 hc
              simp [isDig] at hdg
              omega
            · have := hr3 hc
              omega
          clear hg hdg hd hdec htk hr2 hr3
          rcases hout with h1 | ⟨h1, h2⟩
          all_goals
            go_wp2_with fail
            go_meet
            exact ⟨by rw [hat.out.1], by rw [hat.out.2], ⟨below_alloc (Below.refl _ _) _⟩⟩
      · have hnx := fun ty => run_next_end (P := Tryd.prog) w s k ty hks
        have hat := Aside0.mk (dig_at 10 s k hk hd.out (fun x hx => by rw [List.getElem?_eq_none (by rw [nums_len]; omega)] at hx; cases hx))
        go_wp2_with fail
        go_meet
        exact ⟨by rw [hat.out.1], by rw [hat.out.2], ⟨below_alloc (Below.refl _ _) _⟩⟩
  case rest =>
    obtain ⟨rfl, rfl, HB⟩ := hcut
    go_wp2_with fail
    go_ret2
    exact ⟨rfl, HB.out⟩
end Go.Proofs.YtngkbmlmlfofdaaDoor.F
namespace Go.Proofs.YtngkbmlmlfofdaaDoor.F
open Go.RowKit Go.Proofs.YtngkbmlmlfofdaaDoorW.PrintWords Go.Proofs.YtngkbmlmlfofdaaDoorW.PrintLast Go.Proofs.YtngkbmlmlfofdaaDoorW.PrintMore
open Go.Proofs.YtngkbmlmlfofdaaDoor.HA Go.Proofs.YtngkbmlmlfofdaaDoor.P
set_option linter.unusedVariables false
set_option linter.unusedSimpArgs false

theorem trimLeft_calls (s : ByteArray) (w : World) : Calls Tryd.prog 26 #[.string s, .string ⟨#[32]⟩] w fun e w' => e = .returned (.string ⟨(Lib.trimLeftB s.data.toList 32).toArray⟩) ∧ w = w' := by
  refine (Tryd.strings_TrimLeft_one s 32 (by decide) w).mono ?_
  rintro e w' ⟨rfl, rfl⟩
  exact ⟨rfl, rfl⟩
theorem trim_calls (s : ByteArray) (w : World) (hs : s.size ≤ 9223372036854775807) : Calls Tryd.prog 28 #[.string s, .string ⟨#[32, 0]⟩] w fun e w' => e = .returned (.string ⟨(Lib.trimS s.data.toList [32, 0]).toArray⟩) ∧ Below w.heap.size w w' :=
  Any.strings_Trim_laid Tryd.lays160 (by kernel_rfl) s ⟨#[32, 0]⟩ w hs (by decide) (ascii_of_all (by decide))
def OctalV (l : List Int) (w : World) (e : Ending) (w' : World) : Prop := e = .returned (.tuple #[.int .i64 (octalP l).1, .int .i64 (octalP l).2]) ∧ Below w.heap.size w w'
theorem str_of {W : World} {A : Option Addr} {n c : Nat} {l : List Int} (h : Kd.C (Kd.int .u8) W A n l) : (convert 22 9 (.slice A n c)).run Tryd.prog W = .ok (.string (strOfNums l)) W := Kd.C_string Tryd.underlying22 Tryd.underlying5 Tryd.underlying9 h
/-- A row of bytes without its first. -/
theorem C_tail {W : World} {ad : Addr} {x : Int} {r : List Int} {c : Nat} (h : Kd.C (Kd.int .u8) W (some ad) (x :: r).length (x :: r)) (hc : (x :: r).length ≤ c) :
    Kd.C (Kd.int .u8) W (if c = 1 then some ad else some (ad.add 1)) r.length r := by
  refine ⟨rfl, by have := h.2.1; simp at this; omega, fun h0 => ?_⟩
  have hc1 : ¬ c = 1 := by simp at hc; omega
  rw [if_neg hc1]
  obtain ⟨ad', e, hcell⟩ := h.2.2 (by simp)
  cases e
  refine ⟨_, rfl, fun j p hj => ?_⟩
  obtain ⟨cs, h1, h2, h3⟩ := hcell (j + 1) p (by simpa using hj)
  refine ⟨cs, h1, h2, fun i u hu => ?_⟩
  have := h3 i u hu
  rw [Addr.add_add]
  have e2 : (j + 1) * (Kd.int IntKind.u8).sz + i = 1 + (j * (Kd.int IntKind.u8).sz + i) := by
    have hs : (Kd.int IntKind.u8).sz = 1 := rfl
    rw [hs]; omega
  rw [e2] at this
  exact this
theorem C_head {W : World} {ad : Addr} {x : Int} {r : List Int} (h : Kd.C (Kd.int .u8) W (some ad) (x :: r).length (x :: r)) : W.cell? ad = some (.int .u8 x) := by
  obtain ⟨ad', e, hcell⟩ := h.2.2 (by simp)
  cases e
  obtain ⟨cs, h1, h2, h3⟩ := hcell 0 x (by simp)
  have h2' : cs = [Value.int .u8 x] := h2
  subst h2'
  have := h3 0 _ rfl
  simpa [Addr.add] using this
theorem high_n (A : Option Addr) (n c : Nat) (l : List Int) (w : World) (e : l.length = n) (hC : Kd.C (Kd.int .u8) w A n l) (hc : n ≤ c) (hb : ∀ x ∈ l, byteOk x) (hs : n < 9223372036854775807) :
    Calls Tryd.prog 25 #[.slice A n c] w fun e w' => e = .returned (.tuple #[.int .i64 (highP l).1, .int .i64 (highP l).2]) ∧ Drawn0 w w' := by
  subst e
  exact fields_high.calls _ A c l _ _ w hC hc (high_f l hb hs)
set_option maxHeartbeats 2000000 in
set_option maxRecDepth 100000 in
theorem octal_high (A : Option Addr) (c : Nat) (r : List Int) (w : World) (hC : Kd.C (Kd.int .u8) w A (128 :: r).length (128 :: r)) (hc : (128 :: r).length ≤ c) (hb : ∀ x ∈ r, byteOk x) (hs : r.length < 9223372036854775806) :
    Calls Tryd.prog 10 #[.slice A (r.length + 1) c] w (OctalV (128 :: r) w) := by
  obtain ⟨ad, rfl, _⟩ := hC.2.2 (by simp)
  have hcell := C_head hC
  have HT := Aside0.mk (C_tail hC hc)
  have HH := Aside0.mk (high_f r hb (by omega))
  have hc' : r.length + 1 ≤ c := hc
  have HP : Aside0 (octalP (128 :: r) = highP r) := ⟨rfl⟩
  clear hC hc
  have k1 : decide ((0 : Int) < ((r.length + 1 : Nat) : Int)) = true := by simp
  have k2 : (0 : Int) < ((r.length + 1 : Nat) : Int) := by omega
  have k3 : (1 : Int) ≤ ((r.length + 1 : Nat) : Int) := by omega
  obtain ⟨ad1, hadd⟩ : ∃ a1, ad.add 1 = a1 := ⟨_, rfl⟩
  rw [hadd] at HT
  by_cases hc1 : c = 1
  · subst hc1
    have hr : r = [] := List.length_eq_zero_iff.1 (by omega)
    subst hr
    rw [if_pos rfl] at HT
    have HN := Aside0.mk (high_n (some ad) 0 0 [] w rfl HT.out (Nat.zero_le _) (by simp) (by simp))
    go_enter Tryd.func10, Tryd.ntmps10
    go_wp2_with (first
      | (go_at_call 25; (with_reducible refine HN.out.mono ?_); rintro e w1 ⟨rfl, hd1⟩; have HB1 := Aside0.mk hd1.below; clear hd1)
      | fail)
    go_ret2
    exact ⟨by rw [HP.out]; rfl, HB1.out⟩
  · rw [if_neg hc1] at HT
    go_enter Tryd.func10, Tryd.ntmps10
    go_wp2_with (first
      | (go_at_call 25; (with_reducible refine (fields_high.calls _ _ _ r _ _ _ HT.out (by omega) HH.out).mono ?_); rintro e w1 ⟨rfl, hd1⟩; have HB1 := Aside0.mk hd1.below; clear hd1)
      | fail)
    go_ret2
    exact ⟨by rw [HP.out]; rfl, HB1.out⟩

set_option maxHeartbeats 2000000 in
set_option maxRecDepth 100000 in
theorem octal_plain (A : Option Addr) (c : Nat) (l : List Int) (w : World) (hC : Kd.C (Kd.int .u8) w A l.length l) (hc : l.length ≤ c) (hb : ∀ x ∈ l, byteOk x) (hs : l.length ≤ 140737488355328) (h128 : l.head? ≠ some 128) :
    Calls Tryd.prog 10 #[.slice A l.length c] w (OctalV l w) := by
  have HP : Aside0 (octalP l = octD 0 (l.dropWhile (· == 32))) := ⟨by unfold octalP; rw [if_neg h128]⟩
  have hst := str_of (c := c) hC
  generalize hS : (⟨(Lib.trimLeftB (strOfNums l).data.toList 32).toArray⟩ : ByteArray) = S
  have hSn : nums S = l.dropWhile (· == 32) := by
    rw [← hS, toN_mk, trimLeft_nums, ← nums_eq, nums_str l hb]
  have hSl : S.size ≤ 140737488355328 := by
    have h1 := nums_len S
    rw [hSn] at h1
    have h2 := (List.dropWhile_sublist (fun x : Int => x == 32) (l := l)).length_le
    omega
  have hHS := Aside0.mk hS
  have hHN := Aside0.mk hSn
  have hdN := Aside0.mk (show digN 8 S = ((nums S).takeWhile (isDig 8)).length from digs_len 8 _)
  have hdV := Aside0.mk (show digV 8 S = (((nums S).takeWhile (isDig 8)).map (· - 48)).foldl (addP 8) 0 from rfl)
  have hdk : digN 8 S ≤ S.size := by
    have h1 := (List.takeWhile_sublist (isDig 8) (l := nums S)).length_le
    rw [nums_len] at h1
    have := hdN.out
    omega
  have hT := Aside0.mk (extract_end S (digN 8 S) hdk)
  have hdc : Aside0 (∀ W, Calls Tryd.prog 27 #[.string S, .int .i64 8] W fun e w' => e = .returned (.tuple #[.int .i64 (digV 8 S), .int .i64 (digN 8 S)]) ∧ Below W.heap.size W w') := ⟨fun W => digits_calls8 S W hSl⟩
  clear hS hSn
  generalize digN 8 S = N at hdN hdk hT hdc
  generalize digV 8 S = V at hdV hdc
  have hfin : Aside0 (octalP l = restP V ((nums S).drop N)) := ⟨by rw [HP.out, ← hHN.out, hdN.out, drop_takeWhile, hdV.out]; rfl⟩
  have hrest : Aside0 ((nums S).drop N = toN (S.extract N S.size).data.toList) := ⟨by rw [← hT.out, nums_eq]⟩
  have hte : Aside0 ((Lib.trimS (S.extract N S.size).data.toList [32, 0] = []) ↔ ((nums S).drop N).all isBl = true) := ⟨by
    rw [trimS_nil, hrest.out, List.all_eq_true]
    unfold toN
    constructor
    · intro h x hx
      rw [List.mem_map] at hx
      obtain ⟨b, hb, rfl⟩ := hx
      have := h b hb
      simp [isBl] at this ⊢
      rcases this with rfl | rfl
      · exact .inl rfl
      · exact .inr rfl
    · intro h b hb
      have := h _ (List.mem_map.2 ⟨b, hb, rfl⟩)
      simp [isBl] at this ⊢
      rcases this with h1 | h1
      · exact .inl (UInt8.toNat_inj.1 (by have : ((32 : UInt8).toNat : Int) = 32 := rfl; omega))
      · exact .inr (UInt8.toNat_inj.1 (by have : ((0 : UInt8).toNat : Int) = 0 := rfl; omega))⟩
  have hVb : Aside0 (restP V ((nums S).drop N) = if ((nums S).drop N).all isBl then resP V else (0, 30)) := ⟨rfl⟩
  have hel : (S.extract N S.size).size ≤ 9223372036854775807 := by
    have : (S.extract N S.size).size = S.size - N := by simp
    omega
  have htc := Aside0.mk (fun W => trim_calls (S.extract N S.size) W hel)
  generalize hE : S.extract N S.size = E at hte htc hel
  replace hE := Aside0.mk hE
  have i1 : (0 : Int) ≤ (N : Int) := by omega
  have i2 : (N : Int) ≤ (S.size : Int) := by omega
  have hnil : (⟨([] : List UInt8).toArray⟩ : ByteArray) = ⟨#[]⟩ := rfl
  have hend : ∀ W, (V < 0 → ((nums S).drop N).all isBl = true → Below w.heap.size w W → OctalV l w (.returned (.tuple #[.int .i64 0, .int .i64 31])) W) ∧ (¬ V < 0 → ((nums S).drop N).all isBl = true → Below w.heap.size w W → OctalV l w (.returned (.tuple #[.int .i64 V, .int .i64 0])) W) ∧ (¬ ((nums S).drop N).all isBl = true → Below w.heap.size w W → OctalV l w (.returned (.tuple #[.int .i64 0, .int .i64 30])) W) := by
    intro W
    refine ⟨fun h1 h2 hb => ⟨?_, hb⟩, fun h1 h2 hb => ⟨?_, hb⟩, fun h2 hb => ⟨?_, hb⟩⟩
    · rw [hfin.out, hVb.out, if_pos h2]; unfold resP; rw [if_pos h1]
    · rw [hfin.out, hVb.out, if_pos h2]; unfold resP; rw [if_neg h1]
    · rw [hfin.out, hVb.out, if_neg h2]
  replace hend := Aside0.mk hend
  by_cases hbl : ((nums S).drop N).all isBl = true
  · have hT0 := hte.out.2 hbl
    rw [hT0, hnil] at htc
    replace hbl := Aside0.mk hbl
    clear hT0
    rcases l with _ | ⟨x, r⟩
    · have hst2 : (convert 22 9 (.slice A 0 c)).run Tryd.prog w = .ok (.string (strOfNums [])) w := hst
      clear hst
      by_cases hv : V < 0
      all_goals
        go_enter Tryd.func10, Tryd.ntmps10
        go_wp2_with (first
        | (go_at_call 26; (with_reducible refine (trimLeft_calls _ _).mono ?_); rintro e w1 ⟨rfl, rfl⟩; rw [hHS.out])
        | (go_at_call 27; (with_reducible refine (hdc.out _).mono ?_); rintro e w2 ⟨rfl, hb2⟩; have HB2 := Aside0.mk hb2; clear hb2)
        | (go_at_call 28; rw [hE.out]; (with_reducible refine (htc.out _).mono ?_); rintro e w3 ⟨rfl, hb3⟩; have HB3 := Aside0.mk (below_step HB2.out hb3); clear hb3)
        | fail)
        go_ret2
        first | exact (hend.out _).1 hv hbl.out HB3.out | exact (hend.out _).2.1 hv hbl.out HB3.out
    · obtain ⟨ad, rfl, _⟩ := hC.2.2 (by simp)
      have hcell := C_head hC
      have hx : ¬ x = 128 := fun h => h128 (by rw [h]; rfl)
      have hxb : (x == 128) = false := by simp [hx]
      have hst2 : (convert 22 9 (.slice (some ad) (r.length + 1) c)).run Tryd.prog w = .ok (.string (strOfNums (x :: r))) w := hst
      clear hC hst
      by_cases hv : V < 0
      all_goals
        go_enter Tryd.func10, Tryd.ntmps10
        go_wp2_with (first
        | (go_at_call 26; (with_reducible refine (trimLeft_calls _ _).mono ?_); rintro e w1 ⟨rfl, rfl⟩; rw [hHS.out])
        | (go_at_call 27; (with_reducible refine (hdc.out _).mono ?_); rintro e w2 ⟨rfl, hb2⟩; have HB2 := Aside0.mk hb2; clear hb2)
        | (go_at_call 28; rw [hE.out]; (with_reducible refine (htc.out _).mono ?_); rintro e w3 ⟨rfl, hb3⟩; have HB3 := Aside0.mk (below_step HB2.out hb3); clear hb3)
        | fail)
        go_ret2
        first | exact (hend.out _).1 hv hbl.out HB3.out | exact (hend.out _).2.1 hv hbl.out HB3.out
  · obtain ⟨t0, tr, hT0⟩ : ∃ t0 tr, Lib.trimS E.data.toList [32, 0] = t0 :: tr := by
      cases h : Lib.trimS E.data.toList [32, 0] with
      | nil => exact absurd (hte.out.1 h) hbl
      | cons a b => exact ⟨a, b, rfl⟩
    rw [hT0] at htc
    replace hbl := Aside0.mk hbl
    clear hT0
    generalize hTT : (⟨(t0 :: tr).toArray⟩ : ByteArray) = TT at htc
    have hne1 : (TT.toList == []) = false := by rw [← hTT, Lib.toList_data]; rfl
    have hne2 : TT.toList.isEmpty = false := by rw [← hTT, Lib.toList_data]; rfl
    have hne3 : ¬ TT.toList = [] := by rw [← hTT, Lib.toList_data]; simp
    clear hTT
    rcases l with _ | ⟨x, r⟩
    · have hst2 : (convert 22 9 (.slice A 0 c)).run Tryd.prog w = .ok (.string (strOfNums [])) w := hst
      clear hst
      go_enter Tryd.func10, Tryd.ntmps10
      go_wp2_with (first
        | (go_at_call 26; (with_reducible refine (trimLeft_calls _ _).mono ?_); rintro e w1 ⟨rfl, rfl⟩; rw [hHS.out])
        | (go_at_call 27; (with_reducible refine (hdc.out _).mono ?_); rintro e w2 ⟨rfl, hb2⟩; have HB2 := Aside0.mk hb2; clear hb2)
        | (go_at_call 28; rw [hE.out]; (with_reducible refine (htc.out _).mono ?_); rintro e w3 ⟨rfl, hb3⟩; have HB3 := Aside0.mk (below_step HB2.out hb3); clear hb3)
        | fail)
      go_ret2
      exact (hend.out _).2.2 hbl.out HB3.out
    · obtain ⟨ad, rfl, _⟩ := hC.2.2 (by simp)
      have hcell := C_head hC
      have hx : ¬ x = 128 := fun h => h128 (by rw [h]; rfl)
      have hxb : (x == 128) = false := by simp [hx]
      have hst2 : (convert 22 9 (.slice (some ad) (r.length + 1) c)).run Tryd.prog w = .ok (.string (strOfNums (x :: r))) w := hst
      clear hC hst
      go_enter Tryd.func10, Tryd.ntmps10
      go_wp2_with (first
        | (go_at_call 26; (with_reducible refine (trimLeft_calls _ _).mono ?_); rintro e w1 ⟨rfl, rfl⟩; rw [hHS.out])
        | (go_at_call 27; (with_reducible refine (hdc.out _).mono ?_); rintro e w2 ⟨rfl, hb2⟩; have HB2 := Aside0.mk hb2; clear hb2)
        | (go_at_call 28; rw [hE.out]; (with_reducible refine (htc.out _).mono ?_); rintro e w3 ⟨rfl, hb3⟩; have HB3 := Aside0.mk (below_step HB2.out hb3); clear hb3)
        | fail)
      go_ret2
      exact (hend.out _).2.2 hbl.out HB3.out
theorem octal_calls (A : Option Addr) (c : Nat) (l : List Int) (w : World) (hC : Kd.C (Kd.int .u8) w A l.length l) (hc : l.length ≤ c) (hb : ∀ x ∈ l, byteOk x) (hs : l.length ≤ 140737488355328) :
    Calls Tryd.prog 10 #[.slice A l.length c] w (OctalV l w) := by
  by_cases h : l.head? = some 128
  · match l, h with
    | x :: r, h =>
      injection h with h
      subst h
      exact octal_high A c r w hC hc (fun x hx => hb x (List.mem_cons_of_mem _ hx)) (by simp at hs; omega)
  · exact octal_plain A c l w hC hc hb hs h
end Go.Proofs.YtngkbmlmlfofdaaDoor.F
namespace Go.Proofs.YtngkbmlmlfofdaaDoor.G
open Go.RowKit Go.Proofs.YtngkbmlmlfofdaaDoorW.PrintWords Go.Proofs.YtngkbmlmlfofdaaDoorW.PrintLast Go.Proofs.YtngkbmlmlfofdaaDoorW.PrintMore
open Go.Proofs.YtngkbmlmlfofdaaDoor.HA Go.Proofs.YtngkbmlmlfofdaaDoor.P Go.Proofs.YtngkbmlmlfofdaaDoor.F
set_option linter.unusedVariables false

def fields_digits.f (a0 : ByteArray) (a1 : Int) : Option (Int × Int) := if a0.size ≤ 140737488355328 then (if a1 = 8 then some (digV 8 a0, (digN 8 a0 : Int)) else (if a1 = 10 then some (digV 10 a0, (digN 10 a0 : Int)) else none)) else none
theorem fields_digits.calls (a0 : ByteArray) (a1 : Int) (r1 : Int) (r2 : Int) (w : World) (h : fields_digits.f a0 a1 = some (r1, r2)) :
    Calls Tryd.prog 27 #[.string a0, .int .i64 a1] w fun e w' => e = .returned (.tuple #[.int .i64 r1, .int .i64 r2]) ∧ Below w.heap.size w w' := by
  unfold fields_digits.f at h
  split at h
  · rename_i hs
    split at h
    · rename_i h8
      subst h8
      injection h with h
      injection h with h1 h2
      subst h1
      subst h2
      exact digits_calls8 a0 w hs
    · split at h
      · rename_i h10
        subst h10
        injection h with h
        injection h with h1 h2
        subst h1
        subst h2
        exact digits_calls10 a0 w hs
      · cases h
  · cases h
def stringslite_Index.f (a0 : ByteArray) (a1 : ByteArray) : Option Int := match a1.data.toList with
  | [c] => some (Lib.indexByte a0.data.toList c)
  | _ => none
theorem stringslite_Index.calls (a0 : ByteArray) (a1 : ByteArray) (r : Int) (w : World) (h : stringslite_Index.f a0 a1 = some r) :
    Calls Tryd.prog 70 #[.string a0, .string a1] w fun e w' => e = .returned (.int .i64 r) ∧ Drawn0 w w' := by
  unfold stringslite_Index.f at h
  split at h
  · rename_i c hc
    injection h with h
    subst h
    have ha : a1 = ⟨#[c]⟩ := by
      cases a1 with
      | mk d => simp only at hc; rw [← Array.toList_inj.1 (show d.toList = (#[c] : Array UInt8).toList from hc)]
    subst ha
    refine (Tryd.stringslite_Index_one a0 c w).mono ?_
    rintro e w' ⟨rfl, rfl⟩
    exact ⟨rfl, ⟨0, rfl⟩⟩
  · cases h
end Go.Proofs.YtngkbmlmlfofdaaDoor.G
