/- What a call keeps that may write one given block; and an array value read at a place. -/
import Derived.Test.YtfgponalmhocmaaHAx
import Derived.Test.YtfgponalmhocmaaVa
import Derived.Laws.CopyOwn
import Derived.Outline
namespace Go.Proofs.Ytfgponalmhocmaa.D
open Go.RowKit Go.Proofs.YtfgponalmhocmaaW.PrintWords Go.Proofs.YtfgponalmhocmaaW.PrintLast Go.Proofs.YtfgponalmhocmaaW.PrintMore
open Go.Proofs.Ytfgponalmhocmaa.V
set_option linter.unusedVariables false

/-- All but block g is as it was; what is new is new. -/
structure But (g : Nat) (w w' : World) : Prop where
  os : w'.os = w.os
  tape : w'.tape = w.tape
  output : w'.output = w.output
  size : w.heap.size ≤ w'.heap.size
  block : ∀ k, k < w.heap.size → k ≠ g → w'.heap[k]? = w.heap[k]?
section
variable {g : Nat} {w w1 w2 : World}
theorem But.refl (g : Nat) (w : World) : But g w w := ⟨rfl, rfl, rfl, Nat.le_refl _, fun _ _ _ => rfl⟩
theorem But.trans (h : But g w w1) (k : But g w1 w2) : But g w w2 :=
  ⟨k.os.trans h.os, k.tape.trans h.tape, k.output.trans h.output, Nat.le_trans h.size k.size, fun i hi hn => (k.block i (Nat.lt_of_lt_of_le hi h.size) hn).trans (h.block i hi hn)⟩
theorem But.of_below (h : Below w.heap.size w w1) : But g w w1 := ⟨h.os, h.tape, h.output, h.size, fun k hk _ => h.block k hk⟩
theorem But.below (h : But g w w1) (k : Below w1.heap.size w1 w2) : But g w w2 := h.trans (But.of_below k)
/-- What is written past the blocks that there were. -/
theorem But.past (h : But g w w1) (k : Below w.heap.size w1 w2) : But g w w2 :=
  ⟨k.os.trans h.os, k.tape.trans h.tape, k.output.trans h.output, Nat.le_trans h.size k.size, fun i hi hn => (k.block i hi).trans (h.block i hi hn)⟩
theorem But.drew (h : But g w w1) : But g w w1.drew := ⟨h.os, h.tape, h.output, h.size, h.block⟩
theorem But.drewN (h : But g w w1) (n : Nat) : But g w (w1.drewN n) := ⟨h.os, h.tape, h.output, h.size, h.block⟩
theorem But.drawn (h : But g w w1) (k : Drawn0 w1 w2) : But g w w2 := by obtain ⟨n, rfl⟩ := k; exact h.drewN n
theorem But.alloc (h : But g w w1) (o : Obj) : But g w (w1.alloc o) := h.below (below_alloc (Below.refl _ _) o)
theorem But.set (h : But g w w1) (j : Nat) (v : Value) : But g w (w1.setCell ⟨g, j, none⟩ v) :=
  ⟨h.os, h.tape, h.output, by simpa [World.setCell] using h.size, fun i hi hn => (Below.heap_setCell w1 ⟨g, j, none⟩ v i hn).trans (h.block i hi hn)⟩
theorem But.setPast (h : But g w w1) (b j : Nat) (hb : w.heap.size ≤ b) (v : Value) : But g w (w1.setCell ⟨b, j, none⟩ v) :=
  ⟨h.os, h.tape, h.output, by simpa [World.setCell] using h.size, fun i hi hn => (Below.heap_setCell w1 ⟨b, j, none⟩ v i (show i ≠ b by omega)).trans (h.block i hi hn)⟩
theorem But.row (h : But g w w1) (cs : Array Value) : But g w (w1.setRow g cs) :=
  ⟨h.os, h.tape, h.output, by rw [setRow_size]; exact h.size, fun i hi hn => (setRow_other w1 g i cs hn).trans (h.block i hi hn)⟩
theorem But.rowPast (h : But g w w1) (b : Nat) (hb : w.heap.size ≤ b) (cs : Array Value) : But g w (w1.setRow b cs) :=
  ⟨h.os, h.tape, h.output, by rw [setRow_size]; exact h.size, fun i hi hn => (setRow_other w1 b i cs (by omega)).trans (h.block i hi hn)⟩
/-- A call that may write a block of the caller's own. -/
theorem below_but {B : Nat} {w0 : World} (h : Below B w0 w) (hg : B ≤ g) (hB : B ≤ w.heap.size) (k : But g w w1) : Below B w0 w1 :=
  ⟨k.os.trans h.os, k.tape.trans h.tape, k.output.trans h.output, Nat.le_trans h.size k.size, fun i hi => (k.block i (Nat.lt_of_lt_of_le hi hB) (by omega)).trans (h.block i hi)⟩
theorem but_past {b : Nat} (h : But g w w1) (hb : w.heap.size ≤ b) (k : But b w1 w2) : But g w w2 :=
  ⟨k.os.trans h.os, k.tape.trans h.tape, k.output.trans h.output, Nat.le_trans h.size k.size, fun i hi hn => (k.block i (Nat.lt_of_lt_of_le hi h.size) (by omega)).trans (h.block i hi hn)⟩
theorem blk_but {i : Nat} {o : Obj} (h : w.heap[i]? = some o) (k : But g w w1) (hn : i ≠ g) : w1.heap[i]? = some o := (k.block i (blk_lt h) hn).trans h
end

theorem blk_new_at (W : World) (o : Obj) (g : Nat) (h : W.heap.size = g) : (W.alloc o).heap[g]? = some o := h ▸ blk_new W o
/-- An array value of numbers of one cell, read at a place. -/
theorem index_agg {P : Program} {ty e : TypeId} {n : Nat} {cs : Array Value} {v : Value} (W : World) (i : Int)
    (hu : P.underlying ty = some (.array n e)) (he : (isAgg e).run P W = .ok false W) (hs : (sizeOf e).run P W = .ok 1 W) (h0 : 0 ≤ i) (h1 : i < n) (hv : cs[i.toNat]? = some v) :
    (Instr.index ty (.agg cs) (.int .i64 i)).run P W = .ok v W := by
  simp [Instr.index, asIntOf, run_underlying hu, h0, h1, hs, part, he, hv]
theorem index_58 (l : List Int) (i : Int) (h0 : 0 ≤ i) (h1 : i < 80) (hl : l.length = 80) (W : World) : (Instr.index 58 (.agg (u32s l).toArray) (.int .i64 i)).run Try.prog W = .ok (.int .u32 (l.getD i.toNat 0)) W :=
  index_agg W i Try.underlying58 (by kernel_rfl) (by kernel_rfl) h0 h1 (u32_get l _ (by omega))
theorem index_43 (a b c d e : Int) (i : Nat) (h1 : i < 5) (W : World) : (Instr.index 43 (.agg #[.int .u32 a, .int .u32 b, .int .u32 c, .int .u32 d, .int .u32 e]) (.int .i64 i)).run Try.prog W = .ok (.int .u32 ([a, b, c, d, e].getD i 0)) W :=
  index_agg W i Try.underlying43 (by kernel_rfl) (by kernel_rfl) (by omega) (by omega) (by
    rcases (show i = 0 ∨ i = 1 ∨ i = 2 ∨ i = 3 ∨ i = 4 by omega) with rfl | rfl | rfl | rfl | rfl <;> rfl)
end Go.Proofs.Ytfgponalmhocmaa.D
