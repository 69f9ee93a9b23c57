/- Plain facts: the document's Floor. -/
import Derived.Test.YtnnhplakmagbbaaLb
namespace Go.Proofs.Ytnnhplakmagbbaa.LA
open Go.RowKit Go.Proofs.YtnnhplakmagbbaaW.PrintWords Go.Proofs.YtnnhplakmagbbaaW.PrintLast Go.Proofs.YtnnhplakmagbbaaW.PrintMore
open Go.Proofs.Ytnnhplakmagbbaa.HA Go.Proofs.Ytnnhplakmagbbaa.HB
set_option linter.unusedVariables false
set_option linter.unusedSimpArgs false
theorem in64 {a : Int} (h : (Lit.int .i64 a).wf = true) : inI64 a := by
  have : -9223372036854775808 ≤ a ∧ a ≤ 9223372036854775807 := by simpa [Lit.wf, IntKind.min, IntKind.max, IntKind.signed, IntKind.bits] using h
  exact this
/-- What Floor tells: the number itself where there is no such multiple. -/
def floorTo (t st : Int) : Int := if st < 1 then t else if t / st * st < -9223372036854775808 then t else t / st * st
theorem tmod_cases (t st : Int) (h : 1 ≤ st) : (Int.tmod t st < 0 → Int.tmod t st + st = t % st) ∧ (¬ Int.tmod t st < 0 → Int.tmod t st = t % st) := by
  have h0 := Int.emod_nonneg t (show st ≠ 0 by omega)
  have h1 := Int.emod_lt_of_pos t (show 0 < st by omega)
  by_cases c : 0 ≤ t
  · have e := Int.tmod_eq_emod_of_nonneg (b := st) c
    rw [e]; constructor <;> intro hh <;> omega
  · have e : Int.tmod t st = t % st - if st ∣ t then 0 else st := by
      have := Int.tmod_eq_emod (a := t) (b := st)
      rw [this]
      by_cases d : st ∣ t
      · rw [if_pos (Or.inr d), if_pos d]; rfl
      · rw [if_neg (by simp [d]; omega), if_neg d]
        omega
    by_cases d : st ∣ t
    · rw [if_pos d] at e
      have z : t % st = 0 := Int.emod_eq_zero_of_dvd d
      omega
    · rw [if_neg d] at e
      omega
theorem refFloor_some (t st : Int) (ht : inI64 t) (hs : inI64 st) : wainloadref15_Floor.f t st = some (floorTo t st) := by
  unfold wainloadref15_Floor.f floorTo
  by_cases h1 : st < 1
  · rw [if_pos h1, if_pos h1]
  rw [if_neg h1, if_neg h1, if_neg (by omega)]
  have hd := Int.ediv_mul_add_emod t st
  have hm0 := Int.emod_nonneg t (show st ≠ 0 by omega)
  have hm1 := Int.emod_lt_of_pos t (show 0 < st by omega)
  obtain ⟨c1, c2⟩ := tmod_cases t st (by omega)
  unfold inI64 at ht hs
  by_cases c : Int.tmod t st < 0
  · rw [if_pos c, c1 c, w64 (t % st) (by unfold inI64; omega), w64 (-9223372036854775808 + t % st) (by unfold inI64; omega)]
    by_cases e : t < -9223372036854775808 + t % st
    · rw [if_pos e, if_pos (by omega)]
    · rw [if_neg e, if_neg (by omega), w64 _ (by unfold inI64; omega)]
      congr 1; omega
  · rw [if_neg c, c2 c, w64 (-9223372036854775808 + t % st) (by unfold inI64; omega)]
    by_cases e : t < -9223372036854775808 + t % st
    · rw [if_pos e, if_pos (by omega)]
    · rw [if_neg e, if_neg (by omega), w64 _ (by unfold inI64; omega)]
      congr 1; omega
theorem floor_some (t st : Int) (ht : inI64 t) (hs : inI64 st) : times_Floor.f t st = some (floorTo t st) := by
  unfold times_Floor.f floorTo
  rw [if_pos ⟨ht, hs⟩]
  by_cases h1 : st < 1
  · rw [if_pos h1, if_pos h1]
  rw [if_neg h1, if_neg h1]
  have hd := Int.ediv_mul_add_emod t st
  have hm0 := Int.emod_nonneg t (show st ≠ 0 by omega)
  have hm1 := Int.emod_lt_of_pos t (show 0 < st by omega)
  have e : Int.tdiv 9223372036854775808 st = 9223372036854775808 / st := Int.tdiv_eq_ediv_of_nonneg (by omega)
  have b0 := Int.ediv_le_self st (show (0 : Int) ≤ 9223372036854775808 by omega)
  have b1 := Int.ediv_nonneg (show (0 : Int) ≤ 9223372036854775808 by omega) (show 0 ≤ st by omega)
  have b2 := Int.ediv_mul_add_emod 9223372036854775808 st
  have b3 := Int.emod_nonneg 9223372036854775808 (show st ≠ 0 by omega)
  have b4 := Int.emod_lt_of_pos 9223372036854775808 (show 0 < st by omega)
  unfold inI64 at ht hs
  rw [e, w64 (-(9223372036854775808 / st)) (by unfold inI64; omega)]
  generalize hq : t / st = q at *
  generalize hb : (9223372036854775808 : Int) / st = b at *
  by_cases c : q < -b
  · have : q * st ≤ (-b - 1) * st := Int.mul_le_mul_of_nonneg_right (by omega) (by omega)
    have e2 : (-b - 1) * st = -(b * st) - st := by rw [Int.sub_mul, Int.neg_mul]; omega
    rw [if_pos c, if_pos (by omega)]
  · have : (-b) * st ≤ q * st := Int.mul_le_mul_of_nonneg_right (by omega) (by omega)
    have e2 : (-b) * st = -(b * st) := Int.neg_mul _ _
    rw [if_neg c, if_neg (by omega), w64 _ (by unfold inI64; omega)]
end Go.Proofs.Ytnnhplakmagbbaa.LA
