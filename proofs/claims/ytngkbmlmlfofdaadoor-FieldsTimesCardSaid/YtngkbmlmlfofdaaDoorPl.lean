/- The law of seconds written. -/
import Derived.Test.YtngkbmlmlfofdaaDoorPk
namespace Go.Proofs.YtngkbmlmlfofdaaDoor.P
open Go.RowKit Go.Proofs.YtngkbmlmlfofdaaDoorW.PrintWords Go.Proofs.YtngkbmlmlfofdaaDoorW.PrintLast Go.Proofs.YtngkbmlmlfofdaaDoorW.PrintMore
open Go.Proofs.YtngkbmlmlfofdaaDoor.HA Go.Proofs.YtngkbmlmlfofdaaDoor.HB Go.Proofs.YtngkbmlmlfofdaaDoor.HC Go.Proofs.YtngkbmlmlfofdaaDoor.HD Go.Proofs.YtngkbmlmlfofdaaDoor.G Go.Proofs.YtngkbmlmlfofdaaDoor.F
set_option linter.unusedVariables false

theorem part_nums (B : ByteArray) : nums (partP B) = (nums B).drop (digN 10 B + 1) := by
  unfold partP
  rw [ext_nums B _ _ (Nat.le_refl _), ← nums_len, List.take_of_length_le (Nat.le_refl _)]
theorem all_digN (P : ByteArray) (h : ∀ x ∈ nums P, isDig 10 x = true) : digN 10 P = P.size := by
  unfold digN digs
  rw [List.length_map, tw_all _ _ h, nums_len]
theorem body_sec (B : ByteArray) (q r : Nat) (hq : q ≤ 9000000000) (hr : r < 1000000000) (hB : nums B = ddI q ++ (if r = 0 then [] else 46 :: tz 9 r)) :
    digN 10 B ≠ 0 ∧ okPart B ∧ digV 10 B = (q : Int) ∧ nanP (nums (partP B)) = (r : Int) := by
  obtain ⟨h1, h2⟩ := body_dig B q _ hB (by
    by_cases h : r = 0
    · rw [if_pos h]; exact .inl rfl
    · rw [if_neg h]; exact .inr ⟨_, rfl⟩)
  have hne := dd_ne q
  have hl : 0 < (ddI q).length := List.length_pos_iff.2 hne
  have hp := part_nums B
  rw [h1, hB] at hp
  by_cases h : r = 0
  · subst h
    rw [if_pos rfl, List.append_nil] at hB hp
    rw [List.drop_of_length_le (by omega)] at hp
    refine ⟨by omega, .inl ?_, h2 (by omega), ?_⟩
    · rw [h1, ← nums_len, hB]
    · rw [hp]; rfl
  · rw [if_neg h] at hB hp
    have hp2 : nums (partP B) = tz 9 r := by
      rw [hp, List.drop_append, List.drop_of_length_le (by omega), List.nil_append, show (ddI q).length + 1 - (ddI q).length = 1 by omega]
      rfl
    have hd := tz_byte r
    have hz : (partP B).size = (tz 9 r).length := by rw [← nums_len, hp2]
    have hn0 : tz 9 r ≠ [] := fun h3 => h ((tz_nil 9 r (by rw [show (10 : Nat) ^ 9 = 1000000000 by decide]; exact hr)).1 h3)
    refine ⟨by omega, .inr ⟨?_, ?_, ?_⟩, h2 (by omega), ?_⟩
    · rw [h1, hB, List.getElem?_append_right (Nat.le_refl _), Nat.sub_self]
      rfl
    · rw [hz]; exact List.length_pos_iff.2 hn0
    · rw [all_digN (partP B) (by rw [hp2]; exact hd)]
      exact Nat.le_refl _
    · rw [hp2]; exact nan_tz r hr
theorem psU_nums (sg : ByteArray) (u : Nat) : nums (psU sg u) = nums sg ++ (ddI (u / 1000000000) ++ (if u % 1000000000 = 0 then [] else 46 :: tz 9 (u % 1000000000))) := by
  unfold psU
  by_cases h : u % 1000000000 = 0
  · rw [if_pos h, if_pos h, F.nums_append, decB_nums, List.append_nil]
  · rw [if_neg h, if_neg h, F.nums_append, F.nums_append, F.nums_append, decB_nums, frac_nums _ (by omega), List.append_assoc, List.append_assoc]
    rfl
theorem cut_ps (t : Int) : nums (cutN (psB t)).1 = ddI (t.natAbs / 1000000000) ++ (if t.natAbs % 1000000000 = 0 then [] else 46 :: tz 9 (t.natAbs % 1000000000)) ∧ (cutN (psB t)).2 = decide (t < 0) := by
  have hn := psU_nums (if t < 0 then ⟨#[45]⟩ else ⟨#[]⟩) t.natAbs
  have hps : psB t = psU (if t < 0 then ⟨#[45]⟩ else ⟨#[]⟩) t.natAbs := rfl
  rw [← hps] at hn
  generalize hT : ddI (t.natAbs / 1000000000) ++ (if t.natAbs % 1000000000 = 0 then [] else 46 :: tz 9 (t.natAbs % 1000000000)) = T at hn ⊢
  by_cases h : t < 0
  · rw [if_pos h] at hn
    have hn2 : nums (psB t) = 45 :: T := hn
    unfold cutN
    rw [if_pos (by rw [hn2]; rfl), decide_eq_true h]
    refine ⟨?_, rfl⟩
    rw [ext_nums _ _ _ (Nat.le_refl _), ← nums_len, List.take_of_length_le (Nat.le_refl _), hn2]
    rfl
  · rw [if_neg h] at hn
    have hn2 : nums (psB t) = T := hn
    have hh : (nums (psB t)).head? ≠ some 45 := by
      rw [hn2, ← hT]
      cases hd : ddI (t.natAbs / 1000000000) with
      | nil => exact absurd hd (dd_ne _)
      | cons y l =>
        have := dd_byte (t.natAbs / 1000000000) y (by rw [hd]; exact List.mem_cons_self)
        intro h3
        injection h3 with h3
        omega
    unfold cutN
    rw [if_neg hh, decide_eq_false h]
    exact ⟨hn2, rfl⟩
theorem sec_ps (t : Int) (h : -9000000000000000000 < t ∧ t < 9000000000000000000) : secP (psB t) = (t, 0) := by
  obtain ⟨h1, h2⟩ := cut_ps t
  obtain ⟨b1, b2, b3, b4⟩ := body_sec (cutN (psB t)).1 (t.natAbs / 1000000000) (t.natAbs % 1000000000) (by omega) (by omega) h1
  unfold secP
  rw [if_neg (by rintro (h3 | h3); exact b1 h3; exact h3 b2), b3, b4, if_neg (by omega), h2]
  by_cases h0 : t < 0
  · rw [if_pos (by simpa using h0)]
    refine Prod.ext ?_ rfl
    show -(((t.natAbs / 1000000000 : Nat) : Int) * 1000000000 + ((t.natAbs % 1000000000 : Nat) : Int)) = t
    omega
  · rw [if_neg (by simpa using h0)]
    refine Prod.ext ?_ rfl
    show ((t.natAbs / 1000000000 : Nat) : Int) * 1000000000 + ((t.natAbs % 1000000000 : Nat) : Int) = t
    omega
theorem ps_size (t : Int) (ht : -9223372036854775808 ≤ t ∧ t ≤ 9223372036854775807) : (psB t).size ≤ 100 := by
  have hdb := decB_pos (t.natAbs / 1000000000) (by omega)
  have hl : (tz 9 (t.natAbs % 1000000000)).length ≤ 9 := by
    have := (trimZ_pad ((beB 10 9 (t.natAbs % 1000000000)).map (48 + ·))).2
    rw [List.length_map, beB_len] at this
    exact this
  have hd : (ddI (t.natAbs / 1000000000)).length ≤ 20 := by rw [← decB_nums, nums_len]; exact hdb.2
  have hps : psB t = psU (if t < 0 then ⟨#[45]⟩ else ⟨#[]⟩) t.natAbs := rfl
  rw [← nums_len, hps, psU_nums, List.length_append, List.length_append]
  have h1 : (nums (if t < 0 then (⟨#[45]⟩ : ByteArray) else ⟨#[]⟩)).length ≤ 1 := by split <;> decide
  have h2 : (if t.natAbs % 1000000000 = 0 then ([] : List Int) else 46 :: tz 9 (t.natAbs % 1000000000)).length ≤ 10 := by
    split
    · simp
    · rw [List.length_cons]; omega
  omega
theorem times_law (t : Int) (ht : -9223372036854775808 ≤ t ∧ t ≤ 9223372036854775807) : wainloadlaw03_FieldsTimes.f 30 t = some true := by
  have hz := ps_size t ht
  have hs := sec_fields (psB t) (by omega) 27
  have hal : wainloadlaw03_alive.f = some true := rfl
  have hp : fields_PutSeconds.f t = some (psB t) := by unfold fields_PutSeconds.f; rw [if_pos ht]
  unfold wainloadlaw03_FieldsTimes.f
  rw [hp, Option.bind_some, show (30 : Nat) = 27 + 3 from rfl, hs, Option.bind_some, hal, rps_f t ht]
  simp only [Option.bind_some, if_true]
  by_cases h1 : t > -9000000000000000000
  · rw [if_pos h1]
    by_cases h2 : t < 9000000000000000000
    · rw [if_pos h2, sec_ps t ⟨h1, h2⟩]
      simp
    · rw [if_neg h2]
  · rw [if_neg h1]
end Go.Proofs.YtngkbmlmlfofdaaDoor.P
