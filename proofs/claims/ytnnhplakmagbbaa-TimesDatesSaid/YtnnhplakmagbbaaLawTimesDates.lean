/- The row of the law TimesDates: for every date (any six whole numbers) the call returns true, and the date reads behind the call as it read before; no condition. -/
import Derived.Test.YtnnhplakmagbbaaRows
import Derived.Test.YtnnhplakmagbbaaHYex3
import Derived.Test.YtnnhplakmagbbaaLc
import Derived.WalkKit
import Derived.ProofKit
import Derived.OpenShut
import Derived.ShutString
import Derived.ChangeOld
import Derived.Below
import Derived.SizedLaws
namespace Go.Proofs.Ytnnhplakmagbbaa.timesDates
open Go.ChangeShapes Go.WideShapes Go.ChangeAt Go.RowKit
open Go.ChangeMaps (open_string shut_string)
open Go.Proofs.Ytnnhplakmagbbaa.HA Go.Proofs.Ytnnhplakmagbbaa.HB Go.Proofs.Ytnnhplakmagbbaa.LA Go.Proofs.Ytnnhplakmagbbaa.HX Go.Proofs.Ytnnhplakmagbbaa.HYe
set_option linter.unusedVariables false

/-- The plain law. -/
theorem pure (Y M D h mi s : Int) : wainloadlaw15_TimesDates.f 4000 Y M D h mi s = some true := by
  unfold wainloadlaw15_TimesDates.f wainloadlaw15_alive.f
  rw [fromDate_same 4000 Y M D h mi s (by omega)]
  unfold times_FromDate.f
  by_cases hok : okDate Y M D h mi s
  · rw [if_pos hok]
    simp only [Option.bind_some, BEq.rfl, if_true]
    unfold okDate at hok
    have hml := mlen_bd Y M
    have hdb : -100000 ≤ days Y ∧ days Y ≤ 103000 := by unfold days leaps; omega
    have hcb := mcum_bd Y (M.toNat - 1)
    have hmm := mcum_mono Y (M.toNat - 1) 12 (by omega)
    have hmn : mcum Y (M.toNat - 1 + 1) ≤ mcum Y 12 := mcum_mono Y _ 12 (by omega)
    have hsc : mcum Y (M.toNat - 1 + 1) = mcum Y (M.toNat - 1) + mlen Y ((M.toNat - 1 : Nat) + 1) := rfl
    have e1 : (((M.toNat - 1 : Nat) : Int) + 1) = M := by omega
    rw [e1] at hsc
    have hyy := mcum_year Y
    have hy2 := days_lt 1699 Y (by omega)
    have hy3 : days (Y + 1) ≤ days 2251 := by
      by_cases e : Y + 1 = 2251
      · rw [e]; exact Int.le_refl _
      · have := days_lt (Y + 1) 2251 (by omega); omega
    have z1 : days 1699 = -98980 := by decide
    have z2 : days 2251 = 102633 := by decide
    generalize hN : days Y + D - 1 + mcum Y (M.toNat - 1) = N at *
    have hNb : days Y ≤ N ∧ N < days (Y + 1) := by omega
    generalize hT : (N * 86400 + (3600 * h + 60 * mi + s)) * 1000000000 = T at *
    have hTi : inI64 T := by unfold inI64; omega
    rw [w64 T hTi]
    have hs1 : T / 1000000000 = N * 86400 + (3600 * h + 60 * mi + s) := by omega
    have hd1 : dayOf T = N := by unfold dayOf; omega
    have hyr : yearOf N = Y := (year_unique N Y hNb.1 hNb.2).symm
    have hmo : monthOf Y (N - days Y) = M.toNat - 1 := (month_unique Y (N - days Y) (M.toNat - 1) (by omega) (by omega) (by omega) (by omega)).symm
    unfold times_ToDate.f
    rw [if_pos hTi, hd1, hyr, hmo, hs1]
    simp only [Option.bind_some]
    have g2 : N - days Y - mcum Y (M.toNat - 1) + 1 = D := by omega
    have g3 : (N * 86400 + (3600 * h + 60 * mi + s) - N * 86400) / 3600 = h := by omega
    have g4 : (N * 86400 + (3600 * h + 60 * mi + s) - N * 86400) / 60 % 60 = mi := by omega
    have g5 : (N * 86400 + (3600 * h + 60 * mi + s) - N * 86400) % 60 = s := by omega
    rw [e1, g2, g3, g4, g5]
    simp
  · rw [if_neg hok]
    simp

theorem array6 {α : Type} {cs : Array α} (h : cs.size = 6) : ∃ c0 c1 c2 c3 c4 c5, cs = #[c0, c1, c2, c3, c4, c5] := by
  obtain ⟨l⟩ := cs
  match l, h with
  | [c0, c1, c2, c3, c4, c5], _ => exact ⟨c0, c1, c2, c3, c4, c5, rfl⟩
theorem cells3 : Try.prog.cellsOf 3 = 1 := by kernel_rfl
theorem cells23 : Try.prog.cellsOf 23 = 6 := by kernel_rfl
theorem open_date {H : Type} {enc : TypeId × Value → H} {W : World} {base b1 : Nat} {r : Reach} {spare : Nat → Bool} {held : Bool} {v : Value} {d : DataW H} {p : List MemPlace}
    (hv : Value.okWide Try.prog W r b1 23 v) (h : DataW.Trod enc Try.prog W base spare held 23 v d p) :
    ∃ a b c d e f : Int, v = .agg #[.int .i64 a, .int .i64 b, .int .i64 c, .int .i64 d, .int .i64 e, .int .i64 f] := by
  obtain ⟨cs, rfl, hsz⟩ := okWide_struct Try.underlying23 hv
  obtain ⟨c0, c1, c2, c3, c4, c5, rfl⟩ := array6 (hsz.trans cells23)
  obtain ⟨fuel, hf⟩ := h
  simp only [Value.cells] at hf
  obtain ⟨xs, n, _, hx, hl, hlen, hg⟩ := DataW.trod_struct Try.underlying23 hf
  have one : ∀ (i : Nat) (fl : Field) (x : Value), #[{ name := "Year", type := 3, offset := 0, embedded := false, tag := "", pkgPath := "", byteOffset := 0 }, { name := "Month", type := 3, offset := 1, embedded := false, tag := "", pkgPath := "", byteOffset := 8 }, { name := "Day", type := 3, offset := 2, embedded := false, tag := "", pkgPath := "", byteOffset := 16 }, { name := "Hour", type := 3, offset := 3, embedded := false, tag := "", pkgPath := "", byteOffset := 24 }, { name := "Minute", type := 3, offset := 4, embedded := false, tag := "", pkgPath := "", byteOffset := 32 }, { name := "Second", type := 3, offset := 5, embedded := false, tag := "", pkgPath := "", byteOffset := 40 }][i]? = some fl →
      fl.type = 3 → ([c0, c1, c2, c3, c4, c5].drop fl.offset).take 1 = [x] → i < xs.length → ∃ n : Int, x = .int .i64 n := by
    intro i fl x hi h3 hx1 hlt
    have hh := hg i fl hi
    rw [h3, cells3] at hh
    have hh' : DataW.trod enc Try.prog W base spare held n 3 [x] = some xs[i] := by
      rw [← hx1, hh]
      exact List.getElem?_eq_getElem hlt
    obtain ⟨m, e, _⟩ := DataW.trod_int Try.underlying3 hh'
    exact ⟨m, by simpa using e⟩
  have hl6 : xs.length = 6 := hlen
  obtain ⟨a, ha⟩ := one 0 _ c0 rfl rfl rfl (by omega)
  obtain ⟨b, hb⟩ := one 1 _ c1 rfl rfl rfl (by omega)
  obtain ⟨c, hc⟩ := one 2 _ c2 rfl rfl rfl (by omega)
  obtain ⟨d, hd⟩ := one 3 _ c3 rfl rfl rfl (by omega)
  obtain ⟨e, he⟩ := one 4 _ c4 rfl rfl rfl (by omega)
  obtain ⟨f, hff⟩ := one 5 _ c5 rfl rfl rfl (by omega)
  exact ⟨a, b, c, d, e, f, by rw [ha, hb, hc, hd, he, hff]⟩

theorem own : ownKnob Try.prog.godebug = none := by kernel_rfl
theorem laidOut : laidOutB Try.prog = true := by kernel_rfl
set_option maxRecDepth 100000 in
theorem lifted (os : Os) (started : os.Started) (H : Type) (enc : TypeId × Value → H) :
    ReturnsInHanded {} Try.checked os 3 .any (Rows.timesDatesSpec.pre6 enc Try.prog Try.f3 Rows.timesDatesRow.domain false) (Rows.timesDatesSpec.post enc Try.prog Try.f3 false true false false) := by
  refine returnsInHanded_of_change_sized (C := Try.checked) own started (by kernel_rfl) Try.func3
    (ChangeSpec.witness6 (enc := enc) (C := Try.checked) false ⟨#[], #[.agg #[.int .i64 0, .int .i64 0, .int .i64 0, .int .i64 0, .int .i64 0, .int .i64 0]], []⟩ 8 (by kernel_rfl) (by kernel_rfl) (by kernel_rfl) (by kernel_rfl)) ?_
  intro W base args ds gs before hval0 hW hcnd hsz0 _
  have hval : ∀ (j : Nat) t v, Try.f3.params[j]? = some t → args[j]? = some v → Value.okWide Try.prog W .any base t v := hval0
  have hW' := hW
  obtain ⟨p, q, hA0, hV, rfl, hfz, hnd⟩ := hW
  have hA : DataW.TrodAll enc Try.prog W 0 (fun _ => true) true Try.f3.params.toList args.toList ds p := hA0
  rw [Try.params3] at hA hval
  obtain ⟨v0, vs0, d0, ds0, p0, q0, hargs, rfl, rfl, h0, r0⟩ := trodAll_cons hA
  obtain ⟨rfl, rfl, rfl⟩ := trodAll_nil r0
  obtain rfl : args = #[v0] := by cases args; simp_all
  obtain ⟨rfl, rfl⟩ := trodVars_none hV
  obtain ⟨a, b, c, d, e, f, rfl⟩ := open_date (hval 0 23 v0 rfl rfl) h0
  have lt0 : ∀ x ∈ p0, x.block < W.heap.size := by obtain ⟨m, hm⟩ := h0; exact DataW.trod_lt m _ _ _ hm
  clear hA0 hval0 hsz0
  refine (wainloadlaw15_TimesDates.calls 4000 a b c d e f true W (pure a b c d e f)).mono fun e W' ⟨he, bel⟩ => ?_
  subst he
  exact ⟨_, rfl, _, _, _, [], _, [], hW', trodAll_mk1 (shut_bool Try.underlying4 _), (trodAll_cons_mk (Below.trod laidOut (by kernel_rfl) (of_decide_eq_true (by kernel_rfl)) h0 bel lt0) trodAll_mk0), rfl, bel.frame _, fun h => by cases h⟩
theorem over : Rows.timesDatesRow.holds Try.pinned (OpenSpec.ofChange Rows.timesDatesSpec) :=
  OpenClaim.holds_of_wide 3 Try.f3 rfl rfl rfl rfl rfl rfl rfl ⟨rfl, rfl, rfl, rfl, rfl⟩ rfl rfl rfl rfl rfl (by kernel_rfl) Try.func3 (by kernel_rfl)
    (of_decide_eq_true (by kernel_rfl)) (by unfold Func.isWrapper; first | (rw [if_pos (by decide +kernel)]; kernel_rfl) | (rw [if_neg (by decide +kernel)]; exact ⟨rfl, rfl⟩))
    (fun os started H enc _ => lifted os started H enc)
theorem proved : Rows.TimesDatesSaid := over
#print axioms proved
end Go.Proofs.Ytnnhplakmagbbaa.timesDates
namespace Go.Proofs.Ytnnhplakmagbbaa
/-- The row, under a short name, for the claim. -/
theorem timesDates_holds : Rows.TimesDatesSaid := timesDates.proved
end Go.Proofs.Ytnnhplakmagbbaa
