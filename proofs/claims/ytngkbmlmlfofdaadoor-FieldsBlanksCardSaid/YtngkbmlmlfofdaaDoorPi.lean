/- The law of blanks. -/
import Derived.Test.YtngkbmlmlfofdaaDoorPh
namespace Go.Proofs.YtngkbmlmlfofdaaDoor.P
open Go.RowKit Go.Proofs.YtngkbmlmlfofdaaDoorW.PrintWords Go.Proofs.YtngkbmlmlfofdaaDoorW.PrintLast Go.Proofs.YtngkbmlmlfofdaaDoorW.PrintMore
open Go.Proofs.YtngkbmlmlfofdaaDoor.HA Go.Proofs.YtngkbmlmlfofdaaDoor.HB Go.Proofs.YtngkbmlmlfofdaaDoor.HC Go.Proofs.YtngkbmlmlfofdaaDoor.HD Go.Proofs.YtngkbmlmlfofdaaDoor.G Go.Proofs.YtngkbmlmlfofdaaDoor.F
set_option linter.unusedVariables false

theorem bl_byte (tl : List Int) (h : tl.all isBl = true) : ∀ x ∈ tl, 0 ≤ x ∧ x < 256 := by
  intro x hx
  rw [List.all_eq_true] at h
  have := h x hx
  simp [isBl] at this
  omega
theorem bl_l1 (v : Int) (L : List Int) (b : Nat) (hb : b ≤ 100) (hL : L.length < 1000) (hLb : ∀ x ∈ L, 0 ≤ x ∧ x < 256) (hoct : ∀ tl : List Int, tl.all isBl = true → octalP (L ++ tl) = (v, 0)) :
    ∀ (d k i : Nat) (tl : List Int), i + d = b → d < k → tl.length = i → tl.all isBl = true → wainloadlaw03_FieldsBlanks.l1 k v true (L ++ tl) (b : Int) (i : Int) = some true := by
  intro d
  induction d with
  | zero =>
    intro k i tl hi hk hl ht
    obtain ⟨k, rfl⟩ : ∃ m, k = m + 1 := ⟨k - 1, by omega⟩
    rw [wainloadlaw03_FieldsBlanks.l1, if_neg (by omega)]
    unfold fields_Octal.f wainloadlaw03_alive.f
    rw [if_pos (by rw [List.length_append]; omega), if_pos (allB_of (fun x hx => by
      rcases List.mem_append.1 hx with h | h
      · exact hLb x h
      · exact bl_byte tl ht x h)), Option.bind_some, hoct tl ht, Option.bind_some, if_pos rfl, if_pos rfl, if_pos rfl]
    simp
  | succ d ih =>
    intro k i tl hi hk hl ht
    obtain ⟨k, rfl⟩ : ∃ m, k = m + 1 := ⟨k - 1, by omega⟩
    have hw : wrap64 ((i : Int) + 1) = ((i + 1 : Nat) : Int) := by rw [w64 (by omega)]; omega
    have hm : Int.tmod (i : Int) 2 = (i : Int) % 2 := Int.tmod_eq_emod_of_nonneg (by omega)
    have hx : wrap64 (32 * (Int.tmod (i : Int) 2)) % 256 = 32 * ((i : Int) % 2) := by rw [hm, w64 (by omega)]; omega
    have hbl : isBl (32 * ((i : Int) % 2)) = true := by
      unfold isBl
      simp
      omega
    rw [wainloadlaw03_FieldsBlanks.l1, if_pos (by omega), if_pos (by rw [List.length_append]; omega), hx, hw, List.append_assoc, ih k (i + 1) (tl ++ [32 * ((i : Int) % 2)]) (by omega) (by omega) (by simp [hl]) (by rw [List.all_append, ht, List.all_cons, hbl]; rfl)]
theorem bl_l0 (v b : Int) (c : List Int) (n : Nat) (hn : n ≤ 100) (hc : c.length < 1000) : ∀ (d k i : Nat), i + d = n → d < k →
    wainloadlaw03_FieldsBlanks.l0 k v b c true (List.replicate i 32 ++ List.replicate d 0) (n : Int) (i : Int) = wainloadlaw03_FieldsBlanks.l1 (k - d - 1) v true (List.replicate n 32 ++ c) b 0 := by
  intro d
  induction d with
  | zero =>
    intro k i hi hk
    obtain ⟨k, rfl⟩ : ∃ m, k = m + 1 := ⟨k - 1, by omega⟩
    obtain rfl : i = n := by omega
    rw [wainloadlaw03_FieldsBlanks.l0, if_neg (by omega), List.replicate_zero, List.append_nil, if_pos (by rw [List.length_replicate]; omega)]
    rfl
  | succ d ih =>
    intro k i hi hk
    obtain ⟨k, rfl⟩ : ∃ m, k = m + 1 := ⟨k - 1, by omega⟩
    have hw : wrap64 ((i : Int) + 1) = ((i + 1 : Nat) : Int) := by rw [w64 (by omega)]; omega
    have hset : (List.replicate i (32 : Int) ++ List.replicate (d + 1) 0).set i 32 = List.replicate (i + 1) 32 ++ List.replicate d 0 := by
      rw [List.set_append_right _ _ (by simp), List.length_replicate, Nat.sub_self, List.replicate_succ, List.set_cons_zero, List.replicate_succ', List.append_assoc]
      rfl
    rw [wainloadlaw03_FieldsBlanks.l0, if_pos (by omega), if_pos (by omega), if_pos (by simp; omega), hw, Int.toNat_natCast, hset, ih k (i + 1) (by omega) (by omega)]
    rw [show k + 1 - (d + 1) - 1 = k - d - 1 by omega]
theorem po24 (u : Nat) (hu : u ≤ 4611686018427387904) : poP u 24 = (List.replicate (23 - (odI u).length) 48 ++ odI u ++ [0], true) ∧ (odI u).length ≤ 23 := by
  have h : (odI u).length ≤ 23 := (odI_len 23 u (by decide)).2 (by rw [show (8 : Nat) ^ 23 = 590295810358705651712 by decide]; omega)
  refine ⟨?_, h⟩
  unfold poP
  rw [if_neg (by omega), Int.toNat_natCast, if_pos (by omega)]
  rfl
theorem blanks_law (v a b : Int) : wainloadlaw03_FieldsBlanks.f 1000 v a b = some true := by
  have hj : ∀ x : Nat, wainloadlaw03_FieldsBlanks.j0 1000 v a b true = some true := fun _ => by
    rw [wainloadlaw03_FieldsBlanks.j0, if_pos rfl]
    rfl
  unfold wainloadlaw03_FieldsBlanks.f
  by_cases h1 : v < 0
  · rw [if_pos h1]; exact hj 0
  · rw [if_neg h1]
    by_cases h2 : v > 4611686018427387904
    · rw [if_pos h2]; exact hj 0
    · rw [if_neg h2]
      by_cases h3 : a < 0
      · rw [if_pos h3]; exact hj 0
      · rw [if_neg h3]
        by_cases h4 : a > 100
        · rw [if_pos h4]; exact hj 0
        · rw [if_neg h4]
          by_cases h5 : b < 0
          · rw [if_pos h5]; exact hj 0
          · rw [if_neg h5]
            by_cases h6 : b > 100
            · rw [show decide (b > 100) = true by simpa using h6]; exact hj 0
            · obtain ⟨u, rfl⟩ : ∃ u : Nat, v = u := ⟨v.toNat, by omega⟩
              obtain ⟨n, rfl⟩ : ∃ n : Nat, a = n := ⟨a.toNat, by omega⟩
              obtain ⟨m, rfl⟩ : ∃ m : Nat, b = m := ⟨b.toNat, by omega⟩
              obtain ⟨hpo, hle⟩ := po24 u (by omega)
              have hcl : (List.replicate (23 - (odI u).length) (48 : Int) ++ odI u ++ [0]).length = 24 := by simp; omega
              have hcb : ∀ x ∈ List.replicate (23 - (odI u).length) (48 : Int) ++ odI u ++ [0], 0 ≤ x ∧ x < 256 := by
                intro x hx
                rcases List.mem_append.1 hx with h | h
                · rcases List.mem_append.1 h with h | h
                  · rw [List.eq_of_mem_replicate h]; omega
                  · have := odI_byte u x h; omega
                · rw [List.mem_singleton.1 h]; omega
              rw [show decide ((m : Int) > 100) = false by simpa using h6, wainloadlaw03_FieldsBlanks.j0, if_neg (by decide), rpo_f _ _ _ (by decide), Option.bind_some, hpo, if_pos (by omega), if_pos (by omega), Option.bind_some, Int.toNat_natCast, List.length_replicate]
              have h0 := bl_l0 (u : Int) m (List.replicate (23 - (odI u).length) (48 : Int) ++ odI u ++ [0]) n (by omega) (by omega) n 999 0 (by omega) (by omega)
              rw [List.replicate_zero, List.nil_append] at h0
              refine h0.trans ?_
              have h1 := bl_l1 (u : Int) (List.replicate n 32 ++ (List.replicate (23 - (odI u).length) (48 : Int) ++ odI u ++ [0])) m (by omega) (by rw [List.length_append, hcl, List.length_replicate]; omega) (fun x hx => by
                rcases List.mem_append.1 hx with h | h
                · rw [List.eq_of_mem_replicate h]; omega
                · exact hcb x h) (fun tl ht => octal_written n _ u tl (by omega) ht) m (999 - n - 1) 0 [] (by omega) (by omega) rfl rfl
              rw [List.append_nil] at h1
              exact h1
end Go.Proofs.YtngkbmlmlfofdaaDoor.P
