/- Seconds as they are written: digits at base 10, the digits behind the point. -/
import Derived.Test.YtngkbmlmlfofdaaDoorPe
import Derived.Test.YtngkbmlmlfofdaaDoorPg
namespace Go.Proofs.YtngkbmlmlfofdaaDoor.P
open Go.RowKit Go.Proofs.YtngkbmlmlfofdaaDoorW.PrintWords Go.Proofs.YtngkbmlmlfofdaaDoorW.PrintLast Go.Proofs.YtngkbmlmlfofdaaDoorW.PrintMore
open Go.Proofs.YtngkbmlmlfofdaaDoor.HA Go.Proofs.YtngkbmlmlfofdaaDoor.HB Go.Proofs.YtngkbmlmlfofdaaDoor.HC Go.Proofs.YtngkbmlmlfofdaaDoor.HD Go.Proofs.YtngkbmlmlfofdaaDoor.G Go.Proofs.YtngkbmlmlfofdaaDoor.F
set_option linter.unusedVariables false

def ddI (u : Nat) : List Int := toN (Lib.decDigits u)
theorem u8_ofNat (n : Nat) (h : n < 256) : ((UInt8.ofNat n).toNat : Int) = (n : Int) := by
  rw [UInt8.toNat_ofNat', Nat.mod_eq_of_lt h]
theorem dd_small {u : Nat} (h : u < 10) : ddI u = [48 + (u : Int)] := by
  unfold ddI
  rw [Lib.decDigits, dif_pos h]
  unfold toN
  rw [List.map_cons, List.map_nil, u8_ofNat _ (by omega)]
  congr 1
theorem dd_big {u : Nat} (h : ¬ u < 10) : ddI u = ddI (u / 10) ++ [48 + ((u % 10 : Nat) : Int)] := by
  unfold ddI
  rw [Lib.decDigits, dif_neg h]
  unfold toN
  rw [List.map_append, List.map_cons, List.map_nil, u8_ofNat _ (by omega)]
  congr 1
theorem decB_nums (u : Nat) : nums (decB u) = ddI u := rfl
theorem dd_byte (u : Nat) : ∀ x ∈ ddI u, 48 ≤ x ∧ x < 58 := by
  induction u using Nat.strongRecOn with
  | _ u ih =>
    by_cases h : u < 10
    · rw [dd_small h]
      intro x hx
      rw [List.mem_singleton] at hx
      omega
    · rw [dd_big h]
      intro x hx
      rcases List.mem_append.1 hx with hx | hx
      · exact ih _ (by omega) x hx
      · rw [List.mem_singleton] at hx
        omega
theorem one_byte (x : Int) (h : 0 ≤ x ∧ x < 256) : nums (strOfNums [x]) = [x] := nums_str [x] (fun y hy => by rw [List.mem_singleton] at hy; subst hy; exact h)
theorem below_f : ∀ (k u : Nat), u < 10 ^ k → u ≤ 9223372036854775807 → k ≤ 30 → wainloadref03_below.f (k + 1) (-(u : Int)) = some (decB u) := by
  intro k
  induction k with
  | zero =>
    intro u hu _ _
    obtain rfl : u = 0 := by simpa using hu
    rw [wainloadref03_below.f, Option.bind_some, if_pos (by decide)]
    refine congrArg some (bytes_ext ?_)
    rw [decB_nums, dd_small (by decide), show wrap64 (48 - (-((0 : Nat) : Int)).tmod 10) % 256 = 48 by (rw [show (-((0 : Nat) : Int)).tmod 10 = 0 from rfl, w64 (by omega)]; rfl), one_byte 48 (by omega)]
    rfl
  | succ k ih =>
    intro u hu hb hk
    have hm : Int.tmod (-(u : Int)) 10 = -((u % 10 : Nat) : Int) := by
      rw [Int.neg_tmod, Int.tmod_eq_emod_of_nonneg (by omega)]
      omega
    have hq : Int.tdiv (-(u : Int)) 10 = -((u / 10 : Nat) : Int) := by
      rw [Int.neg_tdiv, Int.tdiv_eq_ediv_of_nonneg (by omega)]
      omega
    have hd : wrap64 (48 - -((u % 10 : Nat) : Int)) % 256 = 48 + ((u % 10 : Nat) : Int) := by rw [w64 (by omega)]; omega
    have hn := one_byte (48 + ((u % 10 : Nat) : Int)) (by omega)
    rw [wainloadref03_below.f, Option.bind_some, hm, hd]
    by_cases h : u < 10
    · rw [if_pos (by omega)]
      refine congrArg some (bytes_ext ?_)
      rw [hn, decB_nums, dd_small h, show u % 10 = u by omega]
    · rw [Nat.pow_succ] at hu
      have hs := (decB_pos (u / 10) (by omega)).2
      have hs1 : (strOfNums [48 + ((u % 10 : Nat) : Int)]).size = 1 := by rw [← nums_len, hn]; rfl
      rw [if_neg (by omega), hq, w64 (by omega), ih (u / 10) (by omega) (by omega) (by omega), Option.bind_some, if_pos (by omega)]
      refine congrArg some (bytes_ext ?_)
      rw [F.nums_append, hn, decB_nums, decB_nums, dd_big h]
/-- A digit row without the zeros at its end. -/
def trimZ (l : List Int) : List Int := (l.reverse.dropWhile (· == 48)).reverse
theorem trim_nums (l : List UInt8) : toN (Lib.trimRightB l 48) = trimZ (toN l) := by
  unfold Lib.trimRightB trimZ
  have h := toN_dropWhile (· == 48) (· == 48) (fun b => by
    rw [Bool.eq_iff_iff]
    simp only [beq_iff_eq]
    constructor
    · rintro rfl; rfl
    · intro h
      exact UInt8.toNat_inj.1 (by have : ((48 : UInt8).toNat : Int) = 48 := rfl; omega)) l.reverse
  unfold toN at *
  rw [List.map_reverse, h, List.map_reverse]
theorem dd_lead (k r : Nat) (h : r < 10 ^ k) : ddI (10 ^ k + r) = 49 :: (beB 10 k r).map (48 + ·) := by
  induction k generalizing r with
  | zero =>
    obtain rfl : r = 0 := by simpa using h
    rw [dd_small (by decide)]
    rfl
  | succ k ih =>
    have hp : 0 < 10 ^ k := Nat.pow_pos (by decide)
    rw [Nat.pow_succ] at h ⊢
    rw [dd_big (by omega), show (10 ^ k * 10 + r) / 10 = 10 ^ k + r / 10 by omega, show (10 ^ k * 10 + r) % 10 = r % 10 by omega, ih (r / 10) (by omega), beB, List.map_append]
    rfl
def tz (k s : Nat) : List Int := trimZ ((beB 10 k s).map (48 + ·))
theorem frac_nums (r : Nat) (h : r < 1000000000) : nums (fracB r) = tz 9 r := by
  unfold fracB tz
  rw [toN_mk, trim_nums, ← nums_eq, extract_end _ 1 (decB_pos _ (by omega)).1, decB_nums]
  have := dd_lead 9 r h
  rw [show (10 : Nat) ^ 9 = 1000000000 by decide] at this
  rw [this]
  rfl
theorem be_lead (k s : Nat) (h : s < 10 ^ (k + 1)) : beB 10 (k + 1) s = ((s / 10 ^ k : Nat) : Int) :: beB 10 k (s % 10 ^ k) := by
  induction k generalizing s with
  | zero =>
    rw [Nat.pow_zero, Nat.div_one]
    show [] ++ [((s % 10 : Nat) : Int)] = [((s : Nat) : Int)]
    rw [show s % 10 = s by rw [Nat.pow_succ, Nat.pow_zero] at h; omega]
    rfl
  | succ k ih =>
    have hp : 0 < 10 ^ k := Nat.pow_pos (by decide)
    rw [beB, ih (s / 10) (by rw [Nat.pow_succ] at h ⊢; omega), beB]
    have e1 : s / 10 / 10 ^ k = s / 10 ^ (k + 1) := by rw [Nat.div_div_eq_div_mul, Nat.pow_succ, Nat.mul_comm]
    have e2 : s % 10 ^ (k + 1) / 10 = s / 10 % 10 ^ k := by rw [Nat.pow_succ, Nat.mul_comm, Nat.mod_mul_right_div_self]
    have e3 : s % 10 ^ (k + 1) % 10 = s % 10 := by rw [Nat.mod_mod_of_dvd]; exact ⟨10 ^ k, by rw [Nat.pow_succ, Nat.mul_comm]⟩
    rw [e1, e2, e3]
    rfl
theorem trimZ_cons (d : Int) (l : List Int) : trimZ (d :: l) = if trimZ l = [] ∧ d = 48 then [] else d :: trimZ l := by
  unfold trimZ
  rw [List.reverse_cons]
  by_cases h : l.reverse.dropWhile (· == 48) = []
  · have ha := (dropWhile_nil _ _).1 h
    have e : (l.reverse ++ [d]).dropWhile (· == 48) = [d].dropWhile (· == 48) := List.dropWhile_append_of_pos ha
    rw [e, h]
    by_cases hd : d = 48
    · subst hd
      rfl
    · have hb : (d == 48) = false := by simp [hd]
      rw [List.dropWhile_cons, hb, if_neg (by decide), if_neg (fun h => hd h.2)]
      rfl
  · rw [List.dropWhile_append, if_neg (by simpa using h), List.reverse_append, if_neg (by simp [h])]
    rfl
theorem tz_nil (k s : Nat) (h : s < 10 ^ k) : tz k s = [] ↔ s = 0 := by
  induction k generalizing s with
  | zero =>
    have : s = 0 := by simpa using h
    subst this
    exact ⟨fun _ => rfl, fun _ => rfl⟩
  | succ k ih =>
    have hp : 0 < 10 ^ k := Nat.pow_pos (by decide)
    have hm := Nat.mod_lt s hp
    have hdm := Nat.div_add_mod s (10 ^ k)
    have hi := ih (s % 10 ^ k) hm
    unfold tz at hi ⊢
    rw [be_lead k s h, List.map_cons, trimZ_cons]
    constructor
    · intro h1
      split at h1
      · rename_i h2
        have h3 := hi.1 h2.1
        have h4 : s / 10 ^ k = 0 := by omega
        rw [h3, h4] at hdm
        omega
      · cases h1
    · rintro rfl
      rw [if_pos ⟨hi.2 (Nat.zero_mod _), by rw [Nat.zero_div]; rfl⟩]
theorem tz_succ (k s : Nat) (h : s < 10 ^ (k + 1)) (h0 : s ≠ 0) : tz (k + 1) s = (48 + ((s / 10 ^ k : Nat) : Int)) :: tz k (s % 10 ^ k) := by
  have hp : 0 < 10 ^ k := Nat.pow_pos (by decide)
  have hm := Nat.mod_lt s hp
  have hdm := Nat.div_add_mod s (10 ^ k)
  have hi := tz_nil k (s % 10 ^ k) hm
  unfold tz at hi ⊢
  rw [be_lead k s h, List.map_cons, trimZ_cons, if_neg]
  rintro ⟨h1, h2⟩
  have h3 := hi.1 h1
  have h4 : s / 10 ^ k = 0 := by omega
  rw [h3, h4] at hdm
  omega
end Go.Proofs.YtngkbmlmlfofdaaDoor.P
