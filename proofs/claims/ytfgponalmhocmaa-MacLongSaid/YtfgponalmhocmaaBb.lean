/- Two arrays of twenty bytes compared. -/
import Derived.Test.YtfgponalmhocmaaBa
import Derived.ChangeKeysEq
namespace Go.Proofs.Ytfgponalmhocmaa.D
open Go.RowKit Go.Proofs.YtfgponalmhocmaaW.PrintWords Go.Proofs.YtfgponalmhocmaaW.PrintLast Go.Proofs.YtfgponalmhocmaaW.PrintMore
open Go.Proofs.Ytfgponalmhocmaa.V
set_option linter.unusedVariables false

theorem part_u8 (x : List Int) (i : Nat) (h : i < x.length) (W : World) : (part 5 (u8s x).toArray (i * 1)).run Try.prog W = .ok (.int .u8 (x.getD i 0)) W := by
  have he : (isAgg 5).run Try.prog W = .ok false W := by kernel_rfl
  simp only [part, Sem.run_bind, he, Result.andThen_ok, Nat.mul_one, u8_get x i h]
  rfl
theorem items_u8 (x y : List Int) (hx : x.length = 20) (hy : y.length = 20) (W : World) : ∀ is : List Nat, (∀ i ∈ is, i < 20) → (Op.eqItems 9999 5 1 (u8s x).toArray (u8s y).toArray is).run Try.prog W = .ok (is.all fun i => x.getD i 0 == y.getD i 0) W
  | [], _ => by simp [Op.eqItems]
  | i :: is, h => by
    have hi := h i (List.mem_cons_self)
    have ih := items_u8 x y hx hy W is (fun j hj => h j (List.mem_cons_of_mem _ hj))
    have he : (Op.equalIn 9999 5 (.int .u8 (x.getD i 0)) (.int .u8 (y.getD i 0))).run Try.prog W = .ok (x.getD i 0 == y.getD i 0) W := run_equalIn_int W 9998 5 .u8 .u8 _ _ (by kernel_rfl)
    simp only [Op.eqItems, Sem.run_bind, part_u8 x i (by omega) W, part_u8 y i (by omega) W, Result.andThen_ok, he, List.all_cons]
    cases hb : (x.getD i 0 == y.getD i 0)
    · simp
    · simpa using ih
theorem eq_u8s (x y : List Int) (hx : x.length = 20) (hy : y.length = 20) (W : World) : (Op.equalIn 10000 24 (.agg (u8s x).toArray) (.agg (u8s y).toArray)).run Try.prog W = .ok (decide (x = y)) W := by
  have hi : (Try.prog.info? 5).isSome = true := by kernel_rfl
  obtain ⟨i5, hi5⟩ := Option.isSome_iff_exists.1 hi
  have hc : Try.prog.cellsOf 5 = 1 := by kernel_rfl
  rw [run_equalIn_array (P := Try.prog) (w := W) 9999 _ _ Try.underlying24 hi5, hc, items_u8 x y hx hy W _ (fun i h => List.mem_range.1 h)]
  congr 1
  rw [Bool.eq_iff_iff]
  simp only [List.all_eq_true, List.mem_range, beq_iff_eq, decide_eq_true_eq]
  constructor
  · intro h
    refine List.ext_getElem (by omega) (fun i h1 h2 => ?_)
    have := h i (by omega)
    simpa [List.getD_eq_getElem?_getD, h1, h2] using this
  · rintro rfl i _
    rfl
end Go.Proofs.Ytfgponalmhocmaa.D
