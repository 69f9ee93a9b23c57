/- What was written is read as it was; blanks do not count. -/
import Derived.Test.YtngkbmlmlfofdaaDoorPg
namespace Go.Proofs.YtngkbmlmlfofdaaDoor.P
open Go.RowKit Go.Proofs.YtngkbmlmlfofdaaDoorW.PrintWords Go.Proofs.YtngkbmlmlfofdaaDoorW.PrintLast Go.Proofs.YtngkbmlmlfofdaaDoorW.PrintMore
open Go.Proofs.YtngkbmlmlfofdaaDoor.HA Go.Proofs.YtngkbmlmlfofdaaDoor.HB Go.Proofs.YtngkbmlmlfofdaaDoor.HC Go.Proofs.YtngkbmlmlfofdaaDoor.HD Go.Proofs.YtngkbmlmlfofdaaDoor.G Go.Proofs.YtngkbmlmlfofdaaDoor.F
set_option linter.unusedVariables false

theorem addP_ok (b u : Nat) (hb : 2 ≤ b ∧ b ≤ 256) (hu : u ≤ 4611686018427387904) : addP b ((u / b : Nat) : Int) ((u % b : Nat) : Int) = (u : Int) := by
  have h1 : b * (u / b) + u % b = u := Nat.div_add_mod u b
  have h2 : (b : Int) * ((u / b : Nat) : Int) + ((u % b : Nat) : Int) = (u : Int) := by exact_mod_cast h1
  have h0 : (0 : Int) ≤ ((u / b : Nat) : Int) := Int.natCast_nonneg _
  have h5 : (0 : Int) ≤ ((u % b : Nat) : Int) := Int.natCast_nonneg _
  unfold addP top
  rw [if_neg (Int.not_lt.2 h0)]
  have h3 : ((u / b : Nat) : Int) ≤ (4611686018427387904 - ((u % b : Nat) : Int)) / (b : Int) := by
    rw [Int.le_ediv_iff_mul_le (by omega), Int.mul_comm]
    omega
  rw [if_neg (by omega), Int.mul_comm]
  exact h2
theorem od_num (u : Nat) (hu : u ≤ 4611686018427387904) : ((odI u).map (· - 48)).foldl (addP 8) 0 = (u : Int) := by
  induction u using Nat.strongRecOn with
  | _ u ih =>
    by_cases h : u < 8
    · rw [odI_small h]
      show addP 8 0 (48 + (u : Int) - 48) = _
      unfold addP top
      rw [if_neg (by omega), if_neg (by omega)]
      omega
    · rw [odI_big h, List.map_append, List.foldl_append, ih (u / 8) (by omega) (by omega)]
      show addP 8 ((u / 8 : Nat) : Int) (48 + ((u % 8 : Nat) : Int) - 48) = _
      rw [show 48 + ((u % 8 : Nat) : Int) - 48 = ((u % 8 : Nat) : Int) by omega]
      exact addP_ok 8 u (by decide) hu
theorem zeros_num (z : Nat) : ((List.replicate z (48 : Int)).map (· - 48)).foldl (addP 8) 0 = 0 := by
  induction z with
  | zero => rfl
  | succ z ih =>
    rw [List.replicate_succ, List.map_cons, List.foldl_cons]
    exact ih
theorem drop_rep (a : Nat) (l : List Int) (h : l.head? ≠ some 32) : (List.replicate a 32 ++ l).dropWhile (· == 32) = l := by
  induction a with
  | zero =>
    rw [List.replicate_zero, List.nil_append]
    cases l with
    | nil => rfl
    | cons x r =>
      rw [List.dropWhile_cons, if_neg]
      intro hx
      apply h
      rw [List.head?_cons, beq_iff_eq.1 hx]
  | succ a ih => rw [List.replicate_succ, List.cons_append, List.dropWhile_cons, if_pos (by decide), ih]
theorem tw_split (f : Int → Bool) (a b : List Int) (ha : ∀ x ∈ a, f x = true) (hb : ∀ x, b.head? = some x → f x = false) : (a ++ b).takeWhile f = a ∧ (a ++ b).dropWhile f = b := by
  induction a with
  | nil =>
    cases b with
    | nil => exact ⟨rfl, rfl⟩
    | cons x r =>
      have := hb x rfl
      rw [List.nil_append, List.takeWhile_cons, List.dropWhile_cons, this]
      exact ⟨rfl, rfl⟩
  | cons y r ih =>
    have hy := ha y List.mem_cons_self
    obtain ⟨i1, i2⟩ := ih (fun x hx => ha x (List.mem_cons_of_mem _ hx))
    rw [List.cons_append, List.takeWhile_cons, List.dropWhile_cons, hy]
    exact ⟨by rw [if_pos rfl, i1], by rw [if_pos rfl, i2]⟩
theorem octal_written (a z u : Nat) (tl : List Int) (hu : u ≤ 4611686018427387904) (ht : tl.all isBl = true) : octalP (List.replicate a 32 ++ (List.replicate z 48 ++ odI u ++ [0]) ++ tl) = ((u : Int), 0) := by
  have hne : odI u ≠ [] := by
    by_cases h : u < 8
    · rw [odI_small h]; simp
    · rw [odI_big h]; simp
  have hdig : ∀ x ∈ List.replicate z (48 : Int) ++ odI u, 48 ≤ x ∧ x < 56 := by
    intro x hx
    rcases List.mem_append.1 hx with h | h
    · rw [List.eq_of_mem_replicate h]; omega
    · exact odI_byte u x h
  obtain ⟨y, r, hyr⟩ : ∃ y r, List.replicate z (48 : Int) ++ odI u = y :: r := by
    cases h : List.replicate z (48 : Int) ++ odI u with
    | nil => exact absurd (List.append_eq_nil_iff.1 h).2 hne
    | cons y r => exact ⟨y, r, rfl⟩
  have hy := hdig y (by rw [hyr]; exact List.mem_cons_self)
  have e : List.replicate a (32 : Int) ++ (List.replicate z 48 ++ odI u ++ [0]) ++ tl = List.replicate a 32 ++ ((List.replicate z 48 ++ odI u) ++ (0 :: tl)) := by
    simp [List.append_assoc]
  have hh : (List.replicate a (32 : Int) ++ ((List.replicate z 48 ++ odI u) ++ (0 :: tl))).head? ≠ some 128 := by
    rw [hyr]
    cases a with
    | zero => intro h; injection h with h; omega
    | succ a => intro h; injection h with h; omega
  have h32 : ((List.replicate z (48 : Int) ++ odI u) ++ (0 :: tl)).head? ≠ some 32 := by
    rw [hyr]
    intro h
    injection h with h
    omega
  obtain ⟨t1, t2⟩ := tw_split (isDig 8) (List.replicate z (48 : Int) ++ odI u) (0 :: tl) (fun x hx => by have := hdig x hx; simp [isDig]; omega) (fun x hx => by injection hx with hx; rw [← hx]; rfl)
  rw [e]
  unfold octalP
  rw [if_neg hh, drop_rep a _ h32]
  unfold octD
  rw [t1, t2, List.map_append, List.foldl_append, zeros_num, od_num u hu]
  unfold restP
  have hb : (0 :: tl).all isBl = true := by rw [List.all_cons, ht]; rfl
  rw [if_pos hb]
  unfold resP
  rw [if_neg (by omega)]
theorem be_num (k u : Nat) (hu : u ≤ 4611686018427387904) (hk : u < 256 ^ k) : numP 256 (beB 256 k u) = (u : Int) := by
  induction k generalizing u with
  | zero =>
    have : u = 0 := by simpa using hk
    subst this
    rfl
  | succ k ih =>
    rw [Nat.pow_succ] at hk
    rw [beB, numP_snoc, ih (u / 256) (by omega) (by omega)]
    exact addP_ok 256 u (by decide) hu
theorem octal_poP (v n : Int) (h : (poP v n).2 = true) : octalP (poP v n).1 = (v, 0) := by
  unfold poP at h ⊢
  split at h
  · cases h
  · rename_i hno
    obtain ⟨u, rfl⟩ : ∃ u : Nat, v = u := ⟨v.toNat, by omega⟩
    rw [if_neg hno]
    rw [Int.toNat_natCast] at h ⊢
    split at h
    · rename_i hs
      rw [if_pos hs]
      have := octal_written 0 (n.toNat - 1 - (odI u).length) u [] (by omega) rfl
      rw [List.append_nil] at this
      exact this
    · rename_i hs
      rw [if_neg hs]
      split at h
      · cases h
      · rename_i hov
        rw [if_neg hov]
        have hlt : u < 256 ^ (n.toNat - 1) := by
          by_cases h9 : n < 9
          · have h0 : u / 256 ^ (n.toNat - 1) = 0 := by
              by_cases h0 : u / 256 ^ (n.toNat - 1) = 0
              · exact h0
              · exact absurd ⟨h9, Nat.pos_of_ne_zero h0⟩ hov
            exact (Nat.div_eq_zero_iff_lt (Nat.pow_pos (by decide))).1 h0
          · have : 256 ^ 8 ≤ 256 ^ (n.toNat - 1) := Nat.pow_le_pow_right (by decide) (by omega)
            omega
        show (if (128 :: beB 256 (n.toNat - 1) u).head? = some 128 then highP (128 :: beB 256 (n.toNat - 1) u).tail else _) = _
        rw [if_pos (show (128 :: beB 256 (n.toNat - 1) u).head? = some 128 from rfl)]
        unfold highP
        rw [List.tail_cons, be_num _ u (by omega) hlt]
        unfold resP
        rw [if_neg (by omega)]
end Go.Proofs.YtngkbmlmlfofdaaDoor.P
