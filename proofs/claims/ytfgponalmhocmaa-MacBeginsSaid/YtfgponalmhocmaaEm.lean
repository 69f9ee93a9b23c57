/- A value of the type Ask that can be read: two whole numbers. -/
import Derived.Test.YtfgponalmhocmaaEk
import Derived.WalkKit
import Derived.ProofKit
import Derived.OpenShut
import Derived.ChangeOld
namespace Go.Proofs.Ytfgponalmhocmaa.D
open Go.ChangeShapes Go.WideShapes Go.ChangeAt Go.RowKit
set_option linter.unusedVariables false
theorem array2 {α : Type} {cs : Array α} (h : cs.size = 2) : ∃ c0 c1, cs = #[c0, c1] := by
  obtain ⟨l⟩ := cs
  match l, h with
  | [c0, c1], _ => exact ⟨c0, c1, rfl⟩
theorem cells3 : Try.prog.cellsOf 3 = 1 := by kernel_rfl
theorem cells37 : Try.prog.cellsOf 37 = 2 := by kernel_rfl
theorem open_ask {H : Type} {enc : TypeId × Value → H} {W : World} {base b1 : Nat} {r : Reach} {spare : Nat → Bool} {held : Bool} {v : Value} {d : DataW H} {p : List MemPlace}
    (hv : Value.okWide Try.prog W r b1 37 v) (h : DataW.Trod enc Try.prog W base spare held 37 v d p) :
    ∃ a b : Int, v = .agg #[.int .i64 a, .int .i64 b] := by
  obtain ⟨cs, rfl, hsz⟩ := okWide_struct Try.underlying37 hv
  obtain ⟨c0, c1, rfl⟩ := array2 (hsz.trans cells37)
  obtain ⟨fuel, hf⟩ := h
  simp only [Value.cells] at hf
  obtain ⟨xs, n, _, hx, hl, hlen, hg⟩ := DataW.trod_struct Try.underlying37 hf
  have one : ∀ (i : Nat) (fl : Field) (x : Value), #[{ name := "Rounds", type := 3, offset := 0, embedded := false, tag := "", pkgPath := "", byteOffset := 0 }, { name := "Long", type := 3, offset := 1, embedded := false, tag := "", pkgPath := "", byteOffset := 8 }][i]? = some fl →
      fl.type = 3 → ([c0, c1].drop fl.offset).take 1 = [x] → i < xs.length → ∃ n : Int, x = .int .i64 n := by
    intro i fl x hi h3 hx1 hlt
    have hh := hg i fl hi
    rw [h3, cells3] at hh
    have hh' : DataW.trod enc Try.prog W base spare held n 3 [x] = some xs[i] := by
      rw [← hx1, hh]
      exact List.getElem?_eq_getElem hlt
    obtain ⟨m, e, _⟩ := DataW.trod_int Try.underlying3 hh'
    exact ⟨m, by simpa using e⟩
  have hl6 : xs.length = 2 := hlen
  obtain ⟨a, ha⟩ := one 0 _ c0 rfl rfl rfl (by omega)
  obtain ⟨b, hb⟩ := one 1 _ c1 rfl rfl rfl (by omega)
  exact ⟨a, b, by rw [ha, hb]⟩
end Go.Proofs.Ytfgponalmhocmaa.D
