/- What the rows of fields list: the tables of Go's library: what the condition gives the walks; a start that meets it. -/
import Derived.Test.YtngkbmlmlfofdaaDoorRows
import Derived.Test.YtngkbmlmlfofdaaDoorFd
import Derived.ProofKit
import Derived.LaidMore
import Derived.LaidSub
import Derived.Lay
import Derived.MakeChecks
namespace Go.Proofs.YtngkbmlmlfofdaaDoor.L
open Go.ChangeShapes Go.WideShapes Go.ChangeAt Go.RowKit
set_option linter.unusedVariables false

theorem own : ownKnob Tryd.prog.godebug = none := by kernel_rfl
theorem laidOut : laidOutB Tryd.prog = true := by kernel_rfl
def lst : List (String × DataW Unit) := Rows.fieldsDecimalsRow.laid
def z64 : List Int := [0, 1, 56, 2, 57, 49, 28, 3, 61, 58, 42, 50, 38, 29, 17, 4, 62, 47, 59, 36, 45, 43, 51, 22, 53, 39, 33, 30, 24, 18, 12, 5, 63, 55, 48, 27, 60, 41, 37, 16, 46, 35, 44, 21, 52, 32, 23, 11, 54, 26, 40, 15, 34, 20, 31, 10, 25, 14, 19, 9, 13, 8, 7, 6]
theorem pow_lst : lst.filter (fun x => x.1 == "internal/strconv.uint64pow10") = [("internal/strconv.uint64pow10", Lib.tabData .u64 Lib.pow10Tab)] := by kernel_rfl
theorem bru_lst : lst.filter (fun x => x.1 == "math/bits.deBruijn64tab") = [("math/bits.deBruijn64tab", Lib.tabData .u8 z64)] := by kernel_rfl
theorem lst_plain : (lst.all fun x => x.2.handleName?.isNone) = true := by kernel_rfl
theorem g_pow : Tryd.prog.globalNamed "internal/strconv.uint64pow10" = some 0 := by kernel_rfl
theorem g_bru : Tryd.prog.globalNamed "math/bits.deBruijn64tab" = some 5 := by kernel_rfl
theorem of_laid {W : World} (h : laidMetH Tryd.prog lst W) : G.Tab W := by
  rw [MakeChecks.laidMetH_plain _ _ _ lst_plain] at h
  constructor
  · have h1 := h.filter (fun x => x.1 == "internal/strconv.uint64pow10")
    rw [pow_lst] at h1
    exact Lib.tabIs_of_head g_pow (by kernel_rfl) Tryd.underlying96 Tryd.underlying37 (by kernel_rfl) (by kernel_rfl) h1
  · have h1 := h.filter (fun x => x.1 == "math/bits.deBruijn64tab")
    rw [bru_lst] at h1
    have h2 := Lib.tabIs_of_head g_bru (by kernel_rfl) Tryd.underlying112 Tryd.underlying5 (by kernel_rfl) (by kernel_rfl) h1
    exact h2.cell g_bru 7 (by decide)
set_option maxRecDepth 100000 in
theorem met (os : Os) (args : Array Value) : laidMetH Tryd.prog lst ((World.laidAll Tryd.prog os lst).forCall (fun _ _ => 0) ⟨#[], args, []⟩).memory := by
  rw [MakeChecks.laidMetH_plain _ _ _ lst_plain]
  exact laidMet_laidAll _ (by kernel_rfl) (by kernel_rfl)
end Go.Proofs.YtngkbmlmlfofdaaDoor.L
