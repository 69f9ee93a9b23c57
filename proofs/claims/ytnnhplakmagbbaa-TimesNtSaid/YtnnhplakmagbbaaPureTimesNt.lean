/- The plain law of TimesNt: the program's NT numbers and the document's are the same; what was told is rounded down to a hundred; no condition on the numbers. -/
import Derived.Test.YtnnhplakmagbbaaHYx1
import Derived.Test.YtnnhplakmagbbaaLc
namespace Go.Proofs.Ytnnhplakmagbbaa.Pure
open Go.RowKit Go.Proofs.Ytnnhplakmagbbaa.HY Go.Proofs.YtnnhplakmagbbaaW.PrintWords Go.Proofs.YtnnhplakmagbbaaW.PrintLast
open Go.Proofs.Ytnnhplakmagbbaa.HA Go.Proofs.Ytnnhplakmagbbaa.HB Go.Proofs.Ytnnhplakmagbbaa.LA Go.Proofs.Ytnnhplakmagbbaa.HX

theorem nt_same (a : Int) : times_FromNt.f a = wainloadref15_FromNt.f a := by
  unfold times_FromNt.f wainloadref15_FromNt.f
  by_cases c : a > 208678456368547758
  · rw [if_pos c, if_neg (by omega), if_pos c]
  · rw [if_neg c]
    by_cases d : a < 24211015631452242
    · rw [if_pos d, if_pos d]
    · rw [if_neg d, if_neg d, if_neg c]
theorem nt_some (a : Int) : ∃ x b, wainloadref15_FromNt.f a = some (x, b) := by
  unfold wainloadref15_FromNt.f
  split
  · exact ⟨_, _, rfl⟩
  · split <;> exact ⟨_, _, rfl⟩
theorem toNt_some (t : Int) (ht : inI64 t) : times_ToNt.f t = some (t / 100 + 116444736000000000) ∧ wainloadref15_ToNt.f t = some (t / 100 + 116444736000000000) := by
  unfold times_ToNt.f wainloadref15_ToNt.f
  rw [floored_some t 100 ht (by omega) (by omega), down_some t 100 ht (by omega) (by omega)]
  unfold inI64 at ht
  simp only [Option.bind_some]
  rw [w64 _ (by unfold inI64; omega), IntKind.wrap_u64]
  constructor <;> (congr 1; omega)
theorem TimesNt : wainloadlaw15_TimesNt.Pure := by
  intro a0 a1 w0 w1
  have h1 := in64 w1
  have h1' : -9223372036854775808 ≤ a1 ∧ a1 ≤ 9223372036854775807 := h1
  obtain ⟨x, b, h⟩ := nt_some a0
  obtain ⟨n1, n2⟩ := toNt_some a1 h1
  unfold wainloadlaw15_TimesNt.f wainloadlaw15_alive.f
  rw [nt_same, h, n1, n2]
  simp only [Option.bind_some, BEq.rfl, if_true]
  by_cases c : a1 / 100 < -92233720368547758
  · have hb : times_FromNt.f (a1 / 100 + 116444736000000000) = some (0, false) := by
      unfold times_FromNt.f
      rw [if_neg (by omega), if_pos (by omega)]
    rw [hb]
    simp
  · have hb : times_FromNt.f (a1 / 100 + 116444736000000000) = some (a1 / 100 * 100, true) := by
      unfold times_FromNt.f
      rw [if_neg (by omega), if_neg (by omega), w64 (a1 / 100 + 116444736000000000) (by unfold inI64; omega), w64 (a1 / 100 + 116444736000000000 - 116444736000000000) (by unfold inI64; omega), w64 _ (by unfold inI64; omega)]
      congr 2; omega
    have hf : floorTo a1 100 = a1 / 100 * 100 := by unfold floorTo; rw [if_neg (by omega), if_neg (by omega)]
    rw [hb, refFloor_some a1 100 h1 (by unfold inI64; omega), hf]
    simp
end Go.Proofs.Ytnnhplakmagbbaa.Pure
