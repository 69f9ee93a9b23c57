/- Seconds: the reference's and the program's printed functions are the plain one. -/
import Derived.Test.YtngkbmlmlfofdaaDoorPd
namespace Go.Proofs.YtngkbmlmlfofdaaDoor.P
open Go.RowKit Go.Proofs.YtngkbmlmlfofdaaDoorW.PrintWords Go.Proofs.YtngkbmlmlfofdaaDoorW.PrintLast Go.Proofs.YtngkbmlmlfofdaaDoorW.PrintMore
open Go.Proofs.YtngkbmlmlfofdaaDoor.HA Go.Proofs.YtngkbmlmlfofdaaDoor.HB Go.Proofs.YtngkbmlmlfofdaaDoor.HC Go.Proofs.YtngkbmlmlfofdaaDoor.HD Go.Proofs.YtngkbmlmlfofdaaDoor.G Go.Proofs.YtngkbmlmlfofdaaDoor.F
set_option linter.unusedVariables false

theorem ext_nums (s : ByteArray) (a b : Nat) (hb : b ≤ s.size) : nums (s.extract a b) = ((nums s).take b).drop a := by
  have : (s.extract a b).data.toList = (s.data.toList.take b).drop a := by
    rw [ByteArray.data_extract, Array.toList_extract]
    simp only [List.extract]
    rw [List.drop_take]
  rw [nums_eq, this, nums_eq]
  unfold toN
  rw [List.map_drop, List.map_take]
theorem bytes_ext {a b : ByteArray} (h : nums a = nums b) : a = b := by
  rw [nums_eq, nums_eq] at h
  unfold toN at h
  have h2 : a.data.toList = b.data.toList := List.map_inj_right (fun x y hxy => UInt8.toNat_inj.1 (by omega)) |>.1 h
  cases a; cases b
  simp only at h2
  rw [Array.toList_inj.1 h2]
theorem takeWhile_take (f : Int → Bool) (l : List Int) (p : Nat) : (l.take p).takeWhile f = (l.takeWhile f).take p := by
  induction l generalizing p with
  | nil => simp
  | cons x r ih =>
    cases p with
    | zero => simp
    | succ p =>
      rw [List.take_succ_cons, List.takeWhile_cons, List.takeWhile_cons]
      split
      · rw [List.take_succ_cons, ih]
      · rfl
theorem dig_take (B : ByteArray) (o : Nat) (h1 : digN 10 B ≤ o) (h2 : o ≤ B.size) : digN 10 (B.extract 0 o) = digN 10 B ∧ digV 10 (B.extract 0 o) = digV 10 B ∧ (B.extract 0 o).size = o := by
  have e : nums (B.extract 0 o) = (nums B).take o := by rw [ext_nums B 0 o h2]; rfl
  have hn : digN 10 B = ((nums B).takeWhile (isDig 10)).length := digs_len 10 _
  have e2 : (nums (B.extract 0 o)).takeWhile (isDig 10) = (nums B).takeWhile (isDig 10) := by
    rw [e, takeWhile_take, List.take_of_length_le (by omega)]
  refine ⟨?_, ?_, ?_⟩
  · unfold digN digs
    rw [e2]
  · unfold digV digs
    rw [e2]
  · rw [ByteArray.size_extract]
    omega
theorem dig_at_lt (B : ByteArray) (k : Nat) (hk : k < digN 10 B) : ∃ x, (nums B)[k]? = some x ∧ isDig 10 x = true := by
  have hn : digN 10 B = ((nums B).takeWhile (isDig 10)).length := digs_len 10 _
  have hlt : k < ((nums B).takeWhile (isDig 10)).length := by omega
  refine ⟨((nums B).takeWhile (isDig 10))[k], ?_, ?_⟩
  · have hp : (nums B).takeWhile (isDig 10) <+: nums B := List.takeWhile_prefix _
    exact List.prefix_iff_getElem?.1 hp k hlt
  · have := List.all_takeWhile (p := isDig 10) (l := nums B)
    rw [List.all_eq_true] at this
    exact this _ (List.getElem_mem hlt)
theorem dig_stop (B : ByteArray) (x : Int) (h : (nums B)[digN 10 B]? = some x) : isDig 10 x = false := by
  have hn : digN 10 B = ((nums B).takeWhile (isDig 10)).length := digs_len 10 _
  have e : (nums B).dropWhile (isDig 10) = (nums B).drop (digN 10 B) := by rw [hn, drop_takeWhile]
  have hd : ((nums B).dropWhile (isDig 10)).head? = some x := by rw [e, List.head?_drop]; exact h
  cases hc : (nums B).dropWhile (isDig 10) with
  | nil => rw [hc] at hd; cases hd
  | cons y r =>
    rw [hc] at hd
    injection hd with hd
    have := List.head_dropWhile_not (p := isDig 10) (l := nums B) (by rw [hc]; simp)
    simp only [hc, List.head_cons] at this
    rw [← hd]
    exact this
theorem at46 (B : ByteArray) (k : Nat) : B.data.toList[k]? = some 46 ↔ (nums B)[k]? = some 46 := by
  unfold nums
  rw [List.getElem?_map]
  cases h : B.data.toList[k]? with
  | none => simp
  | some b =>
    simp
    constructor
    · rintro rfl; rfl
    · intro h; exact UInt8.toNat_inj.1 (by have : ((46 : UInt8).toNat : Int) = 46 := rfl; omega)
/-- What the search of the point tells. -/
theorem point_cases (B : ByteArray) : (Lib.indexByte B.data.toList 46 = -1 ∧ ∀ k : Nat, (nums B)[k]? ≠ some 46) ∨ ∃ o : Nat, Lib.indexByte B.data.toList 46 = (o : Int) ∧ (nums B)[o]? = some 46 ∧ o < B.size ∧ digN 10 B ≤ o ∧ ∀ k : Nat, k < o → (nums B)[k]? ≠ some 46 := by
  by_cases h : Lib.indexByte B.data.toList 46 = -1
  · exact .inl ⟨h, fun k hk => Lib.indexByte_none h k ((at46 B k).2 hk)⟩
  · have hg := Lib.indexByte_ge B.data.toList 46
    obtain ⟨o, ho⟩ : ∃ o : Nat, Lib.indexByte B.data.toList 46 = (o : Int) := ⟨(Lib.indexByte B.data.toList 46).toNat, by omega⟩
    obtain ⟨h1, h2⟩ := Lib.indexByte_some ho
    have h3 := (at46 B o).1 h1
    refine .inr ⟨o, ho, h3, ?_, ?_, fun k hk hkk => h2 k hk ((at46 B k).2 hkk)⟩
    · have := (List.getElem?_eq_some_iff.1 h3).1
      rw [nums_len] at this
      exact this
    · by_cases hlt : o < digN 10 B
      · obtain ⟨x, hx, hd⟩ := dig_at_lt B o hlt
        rw [h3] at hx
        injection hx with hx
        subst hx
        exact absurd hd (by decide)
      · omega
/-- The number of nanoseconds that the digits behind a point tell. -/
def nanP (part : List Int) : Int := (((part.map (· - 48)) ++ List.replicate 9 0).take 9).foldl (fun v d => v * 10 + d) 0
def partP (B : ByteArray) : ByteArray := B.extract (digN 10 B + 1) B.size
def okPart (B : ByteArray) : Prop := digN 10 B = B.size ∨ ((nums B)[digN 10 B]? = some 46 ∧ 0 < (partP B).size ∧ (partP B).size ≤ digN 10 (partP B))
instance (B : ByteArray) : Decidable (okPart B) := by unfold okPart; exact inferInstance
def secP (s : ByteArray) : Int × Int :=
  if digN 10 (cutN s).1 = 0 ∨ ¬ okPart (cutN s).1 then (0, 30)
  else if digV 10 (cutN s).1 < 0 ∨ 9000000000 < digV 10 (cutN s).1 then (0, 31)
  else if (cutN s).2 = true then (-(digV 10 (cutN s).1 * 1000000000 + nanP (nums (partP (cutN s).1))), 0)
  else (digV 10 (cutN s).1 * 1000000000 + nanP (nums (partP (cutN s).1)), 0)
theorem cut_none (B : ByteArray) (h : Lib.indexByte B.data.toList 46 = -1) : strings_Cut.f B ⟨#[46]⟩ = some (B, ⟨#[]⟩, false) := by
  unfold strings_Cut.f stringslite_Cut.f stringslite_Index.f
  show (Option.bind (Option.bind (some (Lib.indexByte B.data.toList 46)) _) _) = _
  rw [h, Option.bind_some, if_neg (by decide)]
  rfl
theorem cut_some (B : ByteArray) (o : Nat) (h : Lib.indexByte B.data.toList 46 = (o : Int)) (ho : o < B.size) (hs : B.size ≤ 140737488355328) : strings_Cut.f B ⟨#[46]⟩ = some (B.extract 0 o, B.extract (o + 1) B.size, true) := by
  unfold strings_Cut.f stringslite_Cut.f stringslite_Index.f
  show (Option.bind (Option.bind (some (Lib.indexByte B.data.toList 46)) _) _) = _
  have e1 : ((⟨#[46]⟩ : ByteArray).size : Int) = 1 := rfl
  have hw : wrap64 ((o : Int) + 1) = ((o + 1 : Nat) : Int) := by rw [w64 (by omega)]; omega
  rw [h, Option.bind_some, e1, hw, if_pos (by omega), if_pos (by omega), if_pos (by omega), if_pos (by omega), if_pos (by omega)]
  rfl
theorem tw_all (f : Int → Bool) (l : List Int) (h : ∀ x ∈ l, f x = true) : l.takeWhile f = l := by
  induction l with
  | nil => rfl
  | cons x r ih => rw [List.takeWhile_cons, h x List.mem_cons_self, if_pos rfl, ih (fun y hy => h y (List.mem_cons_of_mem _ hy))]
theorem ten_pos (n : Nat) : (1 : Int) ≤ 10 ^ n := by
  induction n with
  | zero => decide
  | succ n ih => rw [Int.pow_succ]; omega
theorem foldl_add (ds : List Int) (hd : ∀ d ∈ ds, 0 ≤ d ∧ d < 10) : ∀ v : Int, 0 ≤ v → (v + 1) * 10 ^ ds.length ≤ top → ds.foldl (addP 10) v = ds.foldl (fun v d => v * 10 + d) v ∧ 0 ≤ ds.foldl (fun v d => v * 10 + d) v ∧ ds.foldl (fun v d => v * 10 + d) v < (v + 1) * 10 ^ ds.length := by
  induction ds with
  | nil => intro v h0 _; simp; omega
  | cons d r ih =>
    intro v h0 ht
    have hd0 := hd d List.mem_cons_self
    have hp := ten_pos r.length
    rw [List.length_cons, Int.pow_succ] at ht ⊢
    have h1 : (v * 10 + d + 1) * 10 ^ r.length ≤ (v + 1) * (10 ^ r.length * 10) := by
      have h2 : (v * 10 + d + 1) * 10 ^ r.length ≤ ((v + 1) * 10) * 10 ^ r.length := Int.mul_le_mul_of_nonneg_right (by omega) (by omega)
      have h3 : ((v + 1) * 10) * 10 ^ r.length = (v + 1) * (10 ^ r.length * 10) := by rw [Int.mul_assoc, Int.mul_comm 10]
      omega
    have h4 : v * 10 + d + 1 ≤ (v * 10 + d + 1) * 10 ^ r.length := by
      have := Int.mul_le_mul_of_nonneg_left hp (show 0 ≤ v * 10 + d + 1 by omega)
      omega
    have ha : addP 10 v d = v * 10 + d := by
      unfold addP
      rw [if_neg (by omega), if_neg (by omega)]
    obtain ⟨e1, e2, e3⟩ := ih (fun x hx => hd x (List.mem_cons_of_mem _ hx)) (v * 10 + d) (by omega) (by omega)
    rw [List.foldl_cons, List.foldl_cons, ha]
    exact ⟨e1, e2, by omega⟩
theorem nines (part : List Int) (hd : ∀ x ∈ part, isDig 10 x = true) : ∀ d ∈ ((part.map (· - 48)) ++ List.replicate 9 (0 : Int)).take 9, 0 ≤ d ∧ d < 10 := by
  intro d hm
  rcases List.mem_append.1 (List.mem_of_mem_take hm) with h | h
  · rw [List.mem_map] at h
    obtain ⟨x, hx, rfl⟩ := h
    have := hd x hx
    simp [isDig] at this
    omega
  · have := List.eq_of_mem_replicate h
    omega
theorem nines_len (part : List Int) : (((part.map (· - 48)) ++ List.replicate 9 (0 : Int)).take 9).length = 9 := by
  rw [List.length_take, List.length_append, List.length_replicate]
  omega
theorem nan_bd (part : List Int) (hd : ∀ x ∈ part, isDig 10 x = true) : 0 ≤ nanP part ∧ nanP part < 1000000000 ∧ numP 10 (((part.map (· - 48)) ++ List.replicate 9 0).take 9) = nanP part := by
  have h := foldl_add _ (nines part hd) 0 (by omega) (by rw [nines_len]; unfold top; decide)
  rw [nines_len] at h
  unfold nanP numP
  exact ⟨h.2.1, by have := h.2.2; rw [show ((0 : Int) + 1) * 10 ^ 9 = 1000000000 by decide] at this; exact this, h.1⟩
/-- What digits tells of the nine places behind the point. -/
theorem nano_f (P : ByteArray) (hd : ∀ x ∈ nums P, isDig 10 x = true) : digV 10 ((P ++ ⟨#[48, 48, 48, 48, 48, 48, 48, 48, 48]⟩).extract 0 9) = nanP (nums P) := by
  have hz : nums (⟨#[48, 48, 48, 48, 48, 48, 48, 48, 48]⟩ : ByteArray) = List.replicate 9 48 := rfl
  have hsz : 9 ≤ (P ++ (⟨#[48, 48, 48, 48, 48, 48, 48, 48, 48]⟩ : ByteArray)).size := by rw [ByteArray.size_append]; have : (⟨#[48, 48, 48, 48, 48, 48, 48, 48, 48]⟩ : ByteArray).size = 9 := rfl; omega
  have hn : nums ((P ++ (⟨#[48, 48, 48, 48, 48, 48, 48, 48, 48]⟩ : ByteArray)).extract 0 9) = (nums P ++ List.replicate 9 48).take 9 := by
    rw [ext_nums _ 0 9 hsz, F.nums_append, hz]
    rfl
  have ha : ∀ x ∈ (nums P ++ List.replicate 9 (48 : Int)).take 9, isDig 10 x = true := by
    intro x hx
    rcases List.mem_append.1 (List.mem_of_mem_take hx) with h | h
    · exact hd x h
    · rw [List.eq_of_mem_replicate h]; decide
  rw [← (nan_bd (nums P) hd).2.2]
  unfold digV digs
  rw [hn, show ((nums P ++ List.replicate 9 (48 : Int)).take 9).takeWhile (isDig 10) = (nums P ++ List.replicate 9 (48 : Int)).take 9 from tw_all _ _ ha]
  rw [List.map_take, List.map_append]
  rfl
theorem nan_end (neg : Bool) (v x : Int) (hv : 0 ≤ v ∧ v ≤ 9000000000) (hx : 0 ≤ x ∧ x < 1000000000) : wrap64 (v * 1000000000) = v * 1000000000 ∧ wrap64 (v * 1000000000 + x) = v * 1000000000 + x ∧ wrap64 (-(v * 1000000000 + x)) = -(v * 1000000000 + x) :=
  ⟨w64 (by omega), w64 (by omega), w64 (by omega)⟩
theorem digits10_f (s : ByteArray) (hs : s.size ≤ 140737488355328) : fields_digits.f s 10 = some (digV 10 s, (digN 10 s : Int)) := by
  unfold fields_digits.f
  rw [if_pos hs, if_neg (by decide), if_pos rfl]
/-- What the program does behind the cut. -/
theorem sec_tail (neg point : Bool) (whole part : ByteArray) (hs : part.size ≤ 140737488355328) (k : Nat) (ha : ∀ x ∈ nums part, isDig 10 x = true) :
    fields_Seconds.j0 (k + 3) neg part (digV 10 whole) false = some (if digV 10 whole < 0 ∨ 9000000000 < digV 10 whole then (0, 31) else if neg = true then (-(digV 10 whole * 1000000000 + nanP (nums part)), 0) else (digV 10 whole * 1000000000 + nanP (nums part), 0)) := by
  have hn := nan_bd (nums part) ha
  have hf := nano_f part ha
  have hsz : (part ++ (⟨#[48, 48, 48, 48, 48, 48, 48, 48, 48]⟩ : ByteArray)).size = part.size + 9 := by rw [ByteArray.size_append]; rfl
  have hex : ((part ++ (⟨#[48, 48, 48, 48, 48, 48, 48, 48, 48]⟩ : ByteArray)).extract 0 9).size = 9 := by rw [ByteArray.size_extract]; omega
  generalize digV 10 whole = v
  rw [fields_Seconds.j0, if_neg (by decide)]
  by_cases h0 : v < 0
  · rw [if_pos h0, fields_Seconds.j1, if_pos rfl, if_pos (.inl h0)]
  · rw [if_neg h0, fields_Seconds.j1]
    by_cases h1 : v > 9000000000
    · rw [if_pos (by simpa using h1), if_pos (.inr h1)]
    · have hno : ¬ (v < 0 ∨ 9000000000 < v) := by omega
      obtain ⟨e1, e2, e3⟩ := nan_end neg v (nanP (nums part)) (by omega) ⟨hn.1, hn.2.1⟩
      rw [if_neg (by simpa using h1), if_pos (by omega), if_pos (by decide), if_pos (by rw [hsz]; omega)]
      unfold fields_digits.f
      rw [if_pos (by rw [hex]; omega), if_neg (by decide), if_pos rfl, Option.bind_some]
      simp only [hf]
      rw [if_neg hno, e1, e2, e3]
      cases neg
      · rfl
      · rfl
theorem part_all (P : ByteArray) (h : P.size ≤ digN 10 P) : ∀ x ∈ nums P, isDig 10 x = true := (digN_all P h).1
theorem sec_fields (s : ByteArray) (hs : s.size ≤ 140737488355328) (k : Nat) : fields_Seconds.f (k + 3) s = some (secP s) := by
  have hz := cutN_size s
  unfold fields_Seconds.f secP
  rw [cut_f, Option.bind_some]
  generalize hB : (cutN s).1 = B at *
  generalize (cutN s).2 = neg
  have hle := digN_le 10 B
  rcases point_cases B with ⟨hi, hno⟩ | ⟨o, hi, ho, hos, hno, hfirst⟩
  · rw [cut_none B hi, Option.bind_some]
    have e0 : digN 10 (⟨#[]⟩ : ByteArray) = 0 := rfl
    have es : (⟨#[]⟩ : ByteArray).size = 0 := rfl
    simp only
    rw [digits10_f B (by omega), Option.bind_some, digits10_f ⟨#[]⟩ (by rw [es]; omega), Option.bind_some]
    simp only [es, e0]
    by_cases h0 : digN 10 B = 0
    · rw [if_pos (by omega), fields_Seconds.j0, if_pos rfl, if_pos (.inl h0)]
    · rw [if_neg (by omega)]
      by_cases h1 : digN 10 B < B.size
      · have hok : ¬ okPart B := by
          unfold okPart
          rintro (h | h)
          · omega
          · exact hno _ h.1
        rw [if_pos (by omega), fields_Seconds.j0, if_pos rfl, if_pos (.inr hok)]
      · have hok : okPart B := .inl (by omega)
        have hn : ¬ (digN 10 B = 0 ∨ ¬ okPart B) := by rintro (h | h); exact h0 h; exact h hok
        have hp : nums (partP B) = [] := List.eq_nil_of_length_eq_zero (by rw [nums_len]; unfold partP; rw [ByteArray.size_extract]; omega)
        have hp0 : nums (⟨#[]⟩ : ByteArray) = [] := rfl
        have ht := sec_tail neg false B ⟨#[]⟩ (by rw [es]; omega) k (by rw [hp0]; simp)
        rw [if_neg (by omega), if_neg (by decide), if_neg hn, hp, ← hp0]
        exact ht
  · obtain ⟨t1, t2, t3⟩ := dig_take B o hno (by omega)
    rw [cut_some B o hi hos (by omega), Option.bind_some]
    have hps : (B.extract (o + 1) B.size).size = B.size - (o + 1) := by rw [ByteArray.size_extract]; omega
    simp only
    rw [digits10_f (B.extract 0 o) (by rw [t3]; omega), Option.bind_some, digits10_f (B.extract (o + 1) B.size) (by rw [hps]; omega), Option.bind_some]
    simp only [t1, t2, t3]
    by_cases h0 : digN 10 B = 0
    · rw [if_pos (by omega), fields_Seconds.j0, if_pos rfl, if_pos (.inl h0)]
    · rw [if_neg (by omega)]
      by_cases h1 : digN 10 B < o
      · have hok : ¬ okPart B := by
          unfold okPart
          rintro (h | h)
          · omega
          · exact hfirst _ h1 h.1
        rw [if_pos (by omega), fields_Seconds.j0, if_pos rfl, if_pos (.inr hok)]
      · have ho2 : o = digN 10 B := by omega
        subst ho2
        have hpe : B.extract (digN 10 B + 1) B.size = partP B := rfl
        rw [hpe] at hps ⊢
        rw [if_neg (by omega), if_pos trivial]
        by_cases h2 : digN 10 (partP B) = 0
        · have hok : ¬ okPart B := by
            unfold okPart
            rintro (h | h)
            · omega
            · omega
          rw [if_pos (by omega), fields_Seconds.j0, if_pos rfl, if_pos (.inr hok)]
        · rw [if_neg (by omega)]
          by_cases h3 : digN 10 (partP B) < (partP B).size
          · have hok : ¬ okPart B := by
              unfold okPart
              rintro (h | h)
              · omega
              · omega
            rw [show decide ((digN 10 (partP B) : Int) < ((partP B).size : Int)) = true by simp; omega, fields_Seconds.j0, if_pos rfl, if_pos (.inr hok)]
          · have hle2 := digN_le 10 (partP B)
            have hok : okPart B := .inr ⟨ho, by omega, by omega⟩
            have hn : ¬ (digN 10 B = 0 ∨ ¬ okPart B) := by rintro (h | h); exact h0 h; exact h hok
            rw [show decide ((digN 10 (partP B) : Int) < ((partP B).size : Int)) = false by simp; omega, if_neg hn]
            exact sec_tail neg true B (partP B) (by omega) k (part_all _ (by omega))
/-- The nine places. -/
def nineP (P : ByteArray) : List Int := (((nums P).map (· - 48)) ++ List.replicate 9 0).take 9
theorem nineP_at (P : ByteArray) (i : Nat) (hi : i < 9) (h : i < (nineP P).length) : (nineP P)[i] = if i < P.size then bt P i - 48 else 0 := by
  have hg : (nineP P)[i]? = some (if i < P.size then bt P i - 48 else 0) := by
    unfold nineP
    rw [List.getElem?_take_of_lt hi]
    by_cases hlt : i < P.size
    · have hl : i < (nums P).length := by rw [nums_len]; exact hlt
      rw [if_pos hlt, List.getElem?_append_left (by rw [List.length_map]; exact hl), List.getElem?_map, bt_nums P i hl, List.getElem?_eq_getElem hl]
      rfl
    · rw [if_neg hlt, List.getElem?_append_right (by rw [List.length_map, nums_len]; omega), List.getElem?_replicate, if_pos (by rw [List.length_map, nums_len]; omega)]
  rw [List.getElem?_eq_getElem h] at hg
  injection hg
theorem sec_l0 (sg v : Int) (P : ByteArray) (hs : P.size ≤ 140737488355328) (ha : ∀ x ∈ nums P, isDig 10 x = true) : ∀ (d k i : Nat) (x : Int), i + d = 9 → d < k → 0 ≤ x → x < 10 ^ i →
    wainloadref03_Seconds.l0 k sg P v x (i : Int) = some (wrap64 (sg * (wrap64 ((wrap64 (v * 1000000000)) + ((nineP P).drop i).foldl (fun v d => v * 10 + d) x))), 0) := by
  intro d
  induction d with
  | zero =>
    intro k i x hi hk h0 h1
    obtain ⟨k, rfl⟩ : ∃ m, k = m + 1 := ⟨k - 1, by omega⟩
    have hl : (nineP P).length = 9 := nines_len _
    rw [wainloadref03_Seconds.l0, if_neg (by omega), List.drop_of_length_le (by omega)]
    rfl
  | succ d ih =>
    intro k i x hi hk h0 h1
    obtain ⟨k, rfl⟩ : ∃ m, k = m + 1 := ⟨k - 1, by omega⟩
    have hl : (nineP P).length = 9 := nines_len _
    have hlt : i < (nineP P).length := by omega
    have hat := nineP_at P i (by omega) hlt
    have hb := nines (nums P) ha _ (List.getElem_mem hlt)
    have hw : wrap64 ((i : Int) + 1) = ((i + 1 : Nat) : Int) := by rw [w64 (by omega)]; omega
    have hp8 : (10 : Int) ^ i ≤ 10 ^ 8 := by
      rcases (show i = 0 ∨ i = 1 ∨ i = 2 ∨ i = 3 ∨ i = 4 ∨ i = 5 ∨ i = 6 ∨ i = 7 ∨ i = 8 by omega) with rfl | rfl | rfl | rfl | rfl | rfl | rfl | rfl | rfl <;> decide
    have hp9 : (10 : Int) ^ 8 = 100000000 := by decide
    have hps : (10 : Int) ^ (i + 1) = 10 ^ i * 10 := Int.pow_succ ..
    rw [List.drop_eq_getElem_cons hlt, List.foldl_cons, wainloadref03_Seconds.l0, if_pos (by omega), hw, w64 (n := x * 10) (by omega)]
    generalize (nineP P)[i] = D at hat hb
    by_cases hc : i < P.size
    · rw [if_pos hc] at hat
      rw [if_pos (by omega), if_pos (by omega), w64 (n := bt P i) (by omega), w64 (n := x * 10 + bt P i) (by omega), w64 (n := x * 10 + bt P i - 48) (by omega), ih k (i + 1) _ (by omega) (by omega) (by omega) (by omega)]
      rw [show x * 10 + bt P i - 48 = x * 10 + D by omega]
    · rw [if_neg hc] at hat
      rw [if_neg (by omega), ih k (i + 1) _ (by omega) (by omega) (by omega) (by omega)]
      rw [hat, Int.add_zero]
theorem nines_nan (P : ByteArray) : (nineP P).foldl (fun v d => v * 10 + d) 0 = nanP (nums P) := rfl
theorem sec_j2 (neg : Bool) (B P : ByteArray) (hB : B.size ≤ 140737488355328) (hs : P.size ≤ 140737488355328) (ha : ∀ x ∈ nums P, isDig 10 x = true) (k : Nat) (hk : B.size + 15 ≤ k) :
    wainloadref03_Seconds.j2 k B (if neg then -1 else 1) (digN 10 B) P = some (if digV 10 B < 0 ∨ 9000000000 < digV 10 B then (0, 31) else if neg = true then (-(digV 10 B * 1000000000 + nanP (nums P)), 0) else (digV 10 B * 1000000000 + nanP (nums P), 0)) := by
  obtain ⟨m, rfl⟩ : ∃ m, k = m + 2 := ⟨k - 2, by omega⟩
  have hle := digN_le 10 B
  obtain ⟨t1, t2, t3⟩ := dig_take B (digN 10 B) (Nat.le_refl _) hle
  have hnum := number_f (B.extract 0 (digN 10 B)) (by omega) (m + 1) (by omega) (by omega)
  have hn := nan_bd (nums P) ha
  rw [t2] at hnum
  rw [wainloadref03_Seconds.j2, if_pos (by omega), if_pos (by omega), Int.toNat_natCast, hnum, Option.bind_some]
  generalize digV 10 B = v
  by_cases h0 : v < 0
  · rw [if_pos h0, wainloadref03_Seconds.j3, if_pos rfl, if_pos (.inl h0)]
  · rw [if_neg h0, wainloadref03_Seconds.j3]
    by_cases h1 : v > 9000000000
    · rw [if_pos (by simpa using h1), if_pos (.inr h1)]
    · have hno : ¬ (v < 0 ∨ 9000000000 < v) := by omega
      obtain ⟨e1, e2, e3⟩ := nan_end neg v (nanP (nums P)) (by omega) ⟨hn.1, hn.2.1⟩
      have hl := sec_l0 (if neg then -1 else 1) v P hs ha 9 m 0 0 rfl (by omega) (by omega) (by decide)
      rw [List.drop_zero, nines_nan] at hl
      rw [if_neg (by simpa using h1), if_neg hno]
      refine hl.trans ?_
      rw [e1, e2]
      cases neg
      · rw [if_neg (by decide), if_neg (by decide), Int.one_mul, e2]
      · rw [if_pos rfl, if_pos rfl, Int.neg_mul, Int.one_mul, e3]
theorem sec_ref (s : ByteArray) (hs : s.size ≤ 140737488355328) (k : Nat) (hk : s.size + 25 ≤ k) : wainloadref03_Seconds.f k s = some (secP s) := by
  have hz := cutN_size s
  have hj : wainloadref03_Seconds.f k s = wainloadref03_Seconds.j1 (k - 1) (cutN s).1 (if (cutN s).2 then -1 else 1) := by
    unfold wainloadref03_Seconds.f cutN
    obtain ⟨m, rfl⟩ : ∃ m, k = m + 1 := ⟨k - 1, by omega⟩
    by_cases h0 : s.size = 0
    · have hn : nums s = [] := List.eq_nil_of_length_eq_zero (by rw [nums_len]; exact h0)
      rw [if_neg (by omega), hn, wainloadref03_Seconds.j0, if_neg (by decide)]
      rfl
    · have hlt : 0 < (nums s).length := by rw [nums_len]; omega
      have hb0 := bt_nums s 0 hlt
      have hh : (nums s).head? = some ((nums s)[0]) := by rw [List.head?_eq_getElem?, List.getElem?_eq_getElem hlt]
      rw [if_pos (by omega), if_pos (by omega), wainloadref03_Seconds.j0, hh]
      have e0 : bt s 0 = (nums s)[0] := hb0
      rw [e0]
      generalize (nums s)[0] = x
      by_cases hx : x = 45
      · subst hx
        rw [if_pos (by decide), if_pos (by omega), if_pos rfl]
        rfl
      · rw [if_neg (by simp [hx]), if_neg (by simp [hx])]
        rfl
  obtain ⟨m, rfl⟩ : ∃ m, k = m + 2 := ⟨k - 2, by omega⟩
  rw [hj, show m + 2 - 1 = m + 1 by omega, wainloadref03_Seconds.j1]
  unfold secP
  generalize (cutN s).1 = B at *
  generalize (cutN s).2 = neg
  have hle := digN_le 10 B
  rw [run_f B (by omega) m (by omega), Option.bind_some]
  by_cases h0 : digN 10 B = 0
  · rw [if_pos (by omega), if_pos (.inl h0)]
  · rw [if_neg (by omega)]
    by_cases h1 : digN 10 B < B.size
    · have hlt : digN 10 B < (nums B).length := by rw [nums_len]; exact h1
      have hw : wrap64 ((digN 10 B : Int) + 1) = ((digN 10 B + 1 : Nat) : Int) := by rw [w64 (by omega)]; omega
      have hbt := bt_nums B (digN 10 B) hlt
      have hg : (nums B)[digN 10 B]? = some (bt B (digN 10 B)) := by rw [hbt, List.getElem?_eq_getElem hlt]
      have hpz : (partP B).size = B.size - (digN 10 B + 1) := by unfold partP; rw [ByteArray.size_extract]; omega
      rw [if_pos (by omega), hw, if_pos (by omega), if_pos (by omega), if_pos (by omega), Int.toNat_natCast]
      have hpe : B.extract (digN 10 B + 1) B.size = partP B := rfl
      rw [hpe]
      by_cases h46 : bt B (digN 10 B) = 46
      · rw [if_pos h46]
        by_cases h2 : (partP B).size = 0
        · have hok : ¬ okPart B := by
            unfold okPart
            rintro (h | h)
            · omega
            · omega
          rw [if_pos (by omega), if_pos (.inr hok)]
        · have hle2 := digN_le 10 (partP B)
          rw [if_neg (by omega), run_f (partP B) (by omega) m (by omega), Option.bind_some]
          by_cases h3 : digN 10 (partP B) < (partP B).size
          · have hok : ¬ okPart B := by
              unfold okPart
              rintro (h | h)
              · omega
              · omega
            rw [if_pos (by omega), if_pos (.inr hok)]
          · have hok : okPart B := .inr ⟨by rw [hg, h46], by omega, by omega⟩
            have hn : ¬ (digN 10 B = 0 ∨ ¬ okPart B) := by rintro (h | h); exact h0 h; exact h hok
            rw [if_neg (by omega), if_neg hn]
            exact sec_j2 neg B (partP B) (by omega) (by omega) (part_all _ (by omega)) m (by omega)
      · have hok : ¬ okPart B := by
          unfold okPart
          rintro (h | h)
          · omega
          · rw [hg] at h
            have := h.1
            injection this with this
            exact h46 this
        rw [if_neg h46, if_pos (.inr hok)]
    · have hok : okPart B := .inl (by omega)
      have hn : ¬ (digN 10 B = 0 ∨ ¬ okPart B) := by rintro (h | h); exact h0 h; exact h hok
      have hp : nums (partP B) = [] := List.eq_nil_of_length_eq_zero (by rw [nums_len]; unfold partP; rw [ByteArray.size_extract]; omega)
      have hp0 : nums (⟨#[]⟩ : ByteArray) = [] := rfl
      rw [if_neg (by omega), if_neg hn, hp, ← hp0]
      exact sec_j2 neg B ⟨#[]⟩ (by omega) (by decide) (by rw [hp0]; simp) m (by omega)
theorem seconds_law (s : ByteArray) (hs : s.size ≤ 140737488355328) : wainloadlaw03_FieldsSeconds.f (s.size + 30) s = some true := by
  unfold wainloadlaw03_FieldsSeconds.f
  rw [show s.size + 30 = (s.size + 27) + 3 by omega, sec_fields s hs, Option.bind_some, sec_ref s hs _ (by omega), Option.bind_some]
  unfold wainloadlaw03_alive.f
  rw [Option.bind_some, if_pos rfl, if_pos rfl]
  simp
end Go.Proofs.YtngkbmlmlfofdaaDoor.P
