/- The reference's PutOctal is the plain one. -/
import Derived.Test.YtngkbmlmlfofdaaDoorPd
namespace Go.Proofs.YtngkbmlmlfofdaaDoor.P
open Go.RowKit Go.Proofs.YtngkbmlmlfofdaaDoorW.PrintWords Go.Proofs.YtngkbmlmlfofdaaDoorW.PrintLast Go.Proofs.YtngkbmlmlfofdaaDoorW.PrintMore
open Go.Proofs.YtngkbmlmlfofdaaDoor.HA Go.Proofs.YtngkbmlmlfofdaaDoor.HB Go.Proofs.YtngkbmlmlfofdaaDoor.HC Go.Proofs.YtngkbmlmlfofdaaDoor.HD Go.Proofs.YtngkbmlmlfofdaaDoor.G Go.Proofs.YtngkbmlmlfofdaaDoor.F
set_option linter.unusedVariables false

theorem wr_l0 (b : Nat) (hb : 2 ≤ b ∧ b ≤ 256) : ∀ (c k v : Nat) (ds : List Int), c < 100 → c < k → v ≤ 4611686018427387904 → ds.length + c < 1000 →
    wainloadref03_written.l0 k (v : Int) (b : Int) (List.replicate c 0 ++ ds) ((c : Int) - 1) = some (beB b c v ++ ds, v / b ^ c == 0) := by
  intro c
  induction c with
  | zero =>
    intro k v ds hc hk hv hd
    obtain ⟨k, rfl⟩ : ∃ m, k = m + 1 := ⟨k - 1, by omega⟩
    rw [wainloadref03_written.l0, if_neg (by omega)]
    have e : ((v : Int) == 0) = (v / b ^ 0 == 0) := by
      rw [Nat.pow_zero, Nat.div_one, Bool.eq_iff_iff]
      simp
    rw [e]
    rfl
  | succ c ih =>
    intro k v ds hc hk hv hd
    obtain ⟨k, rfl⟩ : ∃ m, k = m + 1 := ⟨k - 1, by omega⟩
    have hi : ((c + 1 : Nat) : Int) - 1 = (c : Int) := by omega
    have hq : wrap64 (Int.tdiv (v : Int) (b : Int)) = ((v / b : Nat) : Int) := by
      rw [Int.tdiv_eq_ediv_of_nonneg (by omega), ← Int.natCast_ediv]
      have h0 := Nat.div_le_self v b
      generalize v / b = q at h0 ⊢
      exact w64 (by omega)
    have hm : Int.tmod (v : Int) (b : Int) % 256 = ((v % b : Nat) : Int) := by
      rw [Int.tmod_eq_emod_of_nonneg (by omega), ← Int.natCast_emod]
      have := Nat.mod_lt v (show b > 0 by omega)
      omega
    have hw : wrap64 ((c : Int) - 1) = (c : Int) - 1 := w64 (by omega)
    have hset : (List.replicate (c + 1) (0 : Int) ++ ds).set c ((v % b : Nat) : Int) = List.replicate c 0 ++ (((v % b : Nat) : Int) :: ds) := by
      rw [List.replicate_succ', List.append_assoc, List.set_append_right _ _ (by simp)]
      simp
    have hdv := Nat.div_le_self v b
    rw [hi, wainloadref03_written.l0, if_pos (by omega), if_neg (by omega), if_pos (by omega), if_pos (by simp; omega), hq, hm, hw, Int.toNat_natCast, hset, ih k (v / b) _ (by omega) (by omega) (by omega) (by simp; omega)]
    rw [beB, List.append_assoc, Nat.div_div_eq_div_mul, Nat.pow_succ, Nat.mul_comm b]
    rfl
theorem wr_f (b : Nat) (hb : 2 ≤ b ∧ b ≤ 256) (k v m : Nat) (hm : m < 100) (hk : m < k) (hv : v ≤ 4611686018427387904) : wainloadref03_written.f k (v : Int) (b : Int) (m : Int) = some (beB b m v, v / b ^ m == 0) := by
  unfold wainloadref03_written.f
  have hw : wrap64 ((m : Int) - 1) = (m : Int) - 1 := w64 (by omega)
  have := wr_l0 b hb m k v [] hm hk hv (by simp; omega)
  rw [List.append_nil, List.append_nil] at this
  rw [if_pos (by omega), if_pos (by omega), hw, Int.toNat_natCast, this]
theorem odI_len (k u : Nat) (hk : 1 ≤ k) : (odI u).length ≤ k ↔ u < 8 ^ k := by
  induction k generalizing u with
  | zero => omega
  | succ k ih =>
    by_cases h : u < 8
    · rw [odI_small h]
      have : 8 ^ 1 ≤ 8 ^ (k + 1) := Nat.pow_le_pow_right (by decide) (by omega)
      simp
      omega
    · rw [odI_big h, List.length_append, List.length_singleton]
      by_cases h0 : k = 0
      · subst h0
        have h1 : 1 ≤ (odI (u / 8)).length := by
          by_cases h2 : u / 8 < 8
          · rw [odI_small h2]; simp
          · rw [odI_big h2]; simp
        rw [show (8 : Nat) ^ (0 + 1) = 8 by decide]
        omega
      · have := ih (u / 8) (by omega)
        rw [Nat.pow_succ]
        constructor
        · intro h3
          have := this.1 (by omega)
          omega
        · intro h3
          have := this.2 (by omega)
          omega
theorem be8_od (k u : Nat) (hk : 1 ≤ k) (hu : u < 8 ^ k) : (beB 8 k u).map (48 + ·) = List.replicate (k - (odI u).length) 48 ++ odI u := by
  induction k generalizing u with
  | zero => omega
  | succ k ih =>
    rw [beB, List.map_append]
    by_cases h : u < 8
    · rw [show u / 8 = 0 by omega, beB_zero 8 k (by decide), odI_small h, List.map_replicate, show u % 8 = u by omega]
      simp
    · have h0 : 1 ≤ k := by
        rcases k with _ | k
        · simp at hu; omega
        · omega
      have hu2 : u / 8 < 8 ^ k := by rw [Nat.pow_succ] at hu; omega
      rw [ih (u / 8) h0 hu2, odI_big h, List.append_assoc, List.length_append, List.length_singleton, show k + 1 - ((odI (u / 8)).length + 1) = k - (odI (u / 8)).length by omega]
      simp
theorem be8_bd (k u : Nat) : ∀ x ∈ beB 8 k u, 0 ≤ x ∧ x < 8 := by
  induction k generalizing u with
  | zero => intro x hx; cases hx
  | succ k ih =>
    intro x hx
    rw [beB] at hx
    rcases List.mem_append.1 hx with hx | hx
    · exact ih _ x hx
    · rw [List.mem_singleton] at hx; omega
/-- The loop that turns digits to letters. -/
theorem rpo_l0 : ∀ (d k i : Nat) (l : List Int), i + d = l.length → d < k → l.length < 1000 → (∀ j, i ≤ j → ∀ x, l[j]? = some x → 0 ≤ x ∧ x < 8) →
    wainloadref03_PutOctal.l0 k l (i : Int) = some (l.take i ++ (l.drop i).map (48 + ·) ++ [0], true) := by
  intro d
  induction d with
  | zero =>
    intro k i l hi hk hl hb
    obtain ⟨k, rfl⟩ : ∃ m, k = m + 1 := ⟨k - 1, by omega⟩
    rw [wainloadref03_PutOctal.l0, if_neg (by omega), if_pos (by omega), List.take_of_length_le (by omega), List.drop_of_length_le (by omega)]
    simp
  | succ d ih =>
    intro k i l hi hk hl hb
    obtain ⟨k, rfl⟩ : ∃ m, k = m + 1 := ⟨k - 1, by omega⟩
    have hlt : i < l.length := by omega
    have hx := hb i (Nat.le_refl _) _ (List.getElem?_eq_getElem hlt)
    have hw : wrap64 ((i : Int) + 1) = ((i + 1 : Nat) : Int) := by rw [w64 (by omega)]; omega
    have e : (rd l (i : Int) + 48) % 256 = 48 + l[i] := by rw [rd_nat l i hlt]; omega
    rw [wainloadref03_PutOctal.l0, if_pos (by omega), if_pos (by omega), hw, e, Int.toNat_natCast, ih k (i + 1) (l.set i (48 + l[i])) (by simp; omega) (by omega) (by simp; omega) (fun j hj x hx => hb j (by omega) x (by rw [List.getElem?_set_ne (by omega)] at hx; exact hx))]
    have h1 : (l.set i (48 + l[i])).take (i + 1) = l.take i ++ [48 + l[i]] := by
      rw [List.take_add_one, List.take_set, List.getElem?_set_self hlt]
      rw [List.set_eq_of_length_le (by simp; omega)]
      rfl
    have h2 : (l.set i (48 + l[i])).drop (i + 1) = l.drop (i + 1) := by rw [List.drop_set_of_lt (by omega)]
    rw [h1, h2, List.drop_eq_getElem_cons hlt, List.map_cons]
    simp only [List.append_assoc, List.cons_append, List.nil_append]
theorem rpo_f (v n : Int) (k : Nat) (hk : 200 ≤ k) : wainloadref03_PutOctal.f k v n = some (poP v n) := by
  unfold wainloadref03_PutOctal.f poP
  obtain ⟨k, rfl⟩ : ∃ m, k = m + 1 := ⟨k - 1, by omega⟩
  by_cases h1 : v < 0
  · rw [if_pos h1, wainloadref03_PutOctal.j0, if_pos rfl, if_pos (.inl h1)]
  · rw [if_neg h1]
    by_cases h2 : v > 4611686018427387904
    · rw [if_pos h2, wainloadref03_PutOctal.j0, if_pos rfl, if_pos (.inr (.inl h2))]
    · rw [if_neg h2]
      by_cases h3 : n < 2
      · rw [if_pos h3, wainloadref03_PutOctal.j0, if_pos rfl, if_pos (.inr (.inr (.inl h3)))]
      · rw [if_neg h3]
        by_cases h4 : n > 64
        · rw [show decide (n > 64) = true by simpa using h4, wainloadref03_PutOctal.j0, if_pos rfl, if_pos (.inr (.inr (.inr h4)))]
        · have hno : ¬ (v < 0 ∨ v > 4611686018427387904 ∨ n < 2 ∨ n > 64) := by omega
          obtain ⟨u, rfl⟩ : ∃ u : Nat, v = u := ⟨v.toNat, by omega⟩
          obtain ⟨m, rfl⟩ : ∃ m : Nat, n = (m : Int) + 1 := ⟨n.toNat - 1, by omega⟩
          have hw : wrap64 ((m : Int) + 1 - 1) = (m : Int) := by rw [w64 (by omega)]; omega
          have hm1 : ((m : Int) + 1).toNat - 1 = m := by omega
          have h8 := odI_len m u (by omega)
          have w8 := wr_f 8 (by decide) k u m (by omega) (by omega) (by omega)
          have w256 := wr_f 256 (by decide) k u m (by omega) (by omega) (by omega)
          rw [show ((8 : Nat) : Int) = 8 from rfl] at w8
          rw [show ((256 : Nat) : Int) = 256 from rfl] at w256
          rw [show decide ((m : Int) + 1 > 64) = false by simpa using h4, wainloadref03_PutOctal.j0, if_neg (by decide), if_neg hno, hw, w8, Option.bind_some, hm1, Int.toNat_natCast]
          simp only
          by_cases hf : u < 8 ^ m
          · have hz : (u / 8 ^ m == 0) = true := by rw [Nat.div_eq_of_lt hf]; rfl
            have hl := h8.2 hf
            rw [hz, if_pos rfl, if_pos (by omega)]
            have := rpo_l0 (beB 8 m u).length k 0 (beB 8 m u) (by omega) (by rw [beB_len]; omega) (by rw [beB_len]; omega) (fun j _ x hx => be8_bd m u x (List.mem_of_getElem? hx))
            rw [List.take_zero, List.drop_zero, List.nil_append, be8_od m u (by omega) hf] at this
            exact this
          · have hz : (u / 8 ^ m == 0) = false := by
              have : 0 < u / 8 ^ m := Nat.div_pos (by omega) (Nat.pow_pos (by decide))
              simp
              omega
            have hl : ¬ (odI u).length ≤ m := fun h => hf (h8.1 h)
            rw [hz, if_neg (by decide), if_neg (by omega), w256, Option.bind_some]
            simp only
            by_cases hov : u / 256 ^ m = 0
            · rw [hov, if_pos (by decide), if_neg (by omega), Option.bind_some, if_pos (by rw [beB_len]; simp; omega)]
              rfl
            · have h9 : m < 8 := by
                by_cases h : m < 8
                · exact h
                · exfalso
                  apply hov
                  have : 256 ^ 8 ≤ 256 ^ m := Nat.pow_le_pow_right (by decide) (by omega)
                  exact Nat.div_eq_of_lt (by omega)
              rw [show (u / 256 ^ m == 0) = false by simpa using hov, if_neg (by decide), if_pos ⟨by omega, Nat.pos_of_ne_zero hov⟩]
end Go.Proofs.YtngkbmlmlfofdaaDoor.P
