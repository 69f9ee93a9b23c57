/- The row of the law DigestPieces: for every input the call returns true, and each argument reads behind the call as it read before; no condition. -/
import Derived.Test.YtfgponalmhocmaaRows
import Derived.Test.YtfgponalmhocmaaDk
import Derived.WalkKit
import Derived.ProofKit
import Derived.OpenShut
import Derived.ShutString
import Derived.ChangeOld
import Derived.Below
import Derived.SizedLaws
import Derived.Test.YtfgponalmhocmaaWSized
namespace Go.Proofs.Ytfgponalmhocmaa.digestPieces
open Go.ChangeShapes Go.WideShapes Go.ChangeAt Go.RowKit
open Go.ChangeMaps (open_string shut_string)
open Go.Proofs.YtfgponalmhocmaaW
set_option linter.unusedVariables false
theorem own : ownKnob Try.prog.godebug = none := by kernel_rfl
theorem laidOut : laidOutB Try.prog = true := by kernel_rfl
def IsRow (k : IntKind) (w : World) (a : Option Addr) (len cap : Nat) (zs : List Int) : Prop :=
  (a = none ∧ len = 0 ∧ cap = 0 ∧ zs = []) ∨
  ∃ x, a = some x ∧ len ≤ cap ∧ cap ≤ maxLen ∧ zs.length = cap ∧ (∀ i, i < zs.length → w.cell? (x.add i) = some (.int k (zs.getD i 0))) ∧ ∀ n ∈ zs, (Lit.int k n).wf = true
theorem byteOk_wf (x : Int) (h : (Lit.int .u8 x).wf = true) : V.byteOk x := by
  have h1 : IntKind.u8.min = 0 := by decide
  have h2 : IntKind.u8.max = 255 := by decide
  simp [Lit.wf, h1, h2] at h
  exact ⟨by omega, by omega⟩
theorem list_of {α : Type} {P : Nat → α → Prop} : ∀ n : Nat, (∀ i, i < n → ∃ x, P i x) → ∃ ls : List α, ls.length = n ∧ ∀ i x, ls[i]? = some x → P i x
  | 0, _ => ⟨[], rfl, fun i x h => by simp at h⟩
  | n + 1, h => by
    obtain ⟨ls, hl, hp⟩ := list_of n (fun i hi => h i (by omega))
    obtain ⟨x, hx⟩ := h n (by omega)
    refine ⟨ls ++ [x], by simp [hl], fun i y hy => ?_⟩
    by_cases hi : i < ls.length
    · rw [List.getElem?_append_left hi] at hy
      exact hp i y hy
    · have hlt := (List.getElem?_eq_some_iff.1 hy).1
      have e : i = ls.length := by simp at hlt; omega
      subst e
      rw [List.getElem?_append_right (Nat.le_refl _), Nat.sub_self] at hy
      simp at hy
      subst hy
      rw [hl]
      exact hx
set_option maxRecDepth 100000 in
theorem lifted (os : Os) (started : os.Started) (H : Type) (enc : TypeId × Value → H) :
    ReturnsInHanded {} Try.checked os 4 .any (Rows.digestPiecesSpec.pre6 enc Try.prog Try.f4 Rows.digestPiecesRow.domain false) (Rows.digestPiecesSpec.post enc Try.prog Try.f4 false true false false) := by
  refine returnsInHanded_of_change_sized (C := Try.checked) own started (by kernel_rfl) Try.func4
    (ChangeSpec.witness6 (enc := enc) (C := Try.checked) false ⟨#[], #[.slice none 0 0], []⟩ 3 (by kernel_rfl) (by kernel_rfl) (by kernel_rfl) (by kernel_rfl)) ?_
  intro W base args ds gs before hval0 hW hcnd hsz0 _
  have hsz : (DataW.weightsEach Try.prog (Try.f4.params.toList ++ Rows.digestPiecesSpec.plain.varTypes Try.prog) (ds ++ gs)).all (· ≤ reachBytes) = true := hsz0
  have hval : ∀ (j : Nat) t v, Try.f4.params[j]? = some t → args[j]? = some v → Value.okWide Try.prog W .any base t v := hval0
  have hW' := hW
  obtain ⟨p, q, hA0, hV, rfl, hfz, hnd⟩ := hW
  have hA : DataW.TrodAll enc Try.prog W 0 (fun _ => true) true Try.f4.params.toList args.toList ds p := hA0
  rw [Try.params4] at hA hval hsz
  obtain ⟨v0, vs0, d0, ds0, p0, q0, hargs, rfl, rfl, h0, r0⟩ := trodAll_cons hA
  obtain ⟨rfl, rfl, rfl⟩ := trodAll_nil r0
  obtain rfl : args = #[v0] := by cases args; simp_all
  obtain ⟨rfl, rfl⟩ := trodVars_none hV
  obtain ⟨a0, len0, cap0, rfl⟩ := okWide_slice Try.underlying27 (hval 0 27 v0 rfl rfl)
  have k0 := h0
  have lt0 : ∀ x ∈ p0, x.block < W.heap.size := by obtain ⟨m, hm⟩ := k0; exact DataW.trod_lt m _ _ _ hm
  obtain ⟨ls, hll, hcc, hC, hby⟩ : ∃ ls : List (List Int), ls.length = len0 ∧ len0 ≤ cap0 ∧ PrintWords.Kd.C (PrintWords.Kd.slice 5 (PrintWords.Kd.int .u8)) W a0 len0 ls ∧ ∀ l ∈ ls, ∀ x ∈ l, V.byteOk x := by
    obtain ⟨fuel, hf⟩ := h0
    rcases DataW.trod_slice Try.underlying27 hf with ⟨hcs, _⟩ | ⟨x, l, c, elems, rest, n, _, hcs, _, _, hl, hm, hlen, hel, _⟩
    · simp [Value.cells] at hcs
      obtain ⟨rfl, rfl, rfl⟩ := hcs
      exact ⟨[], rfl, Nat.le_refl _, ⟨rfl, by decide, fun h => absurd h (by decide)⟩, by simp⟩
    · simp [Value.cells] at hcs
      obtain ⟨rfl, rfl, rfl⟩ := hcs
      have hc1 : Try.prog.cellsOf 22 = 1 := by kernel_rfl
      have hpc : ∀ i, i < len0 → ∃ ll : List Int, ∃ A c, W.cell? (x.add i) = some (.slice A ll.length c) ∧ ll.length ≤ c ∧ PrintWords.Kd.C (PrintWords.Kd.int .u8) W A ll.length ll ∧ ∀ b ∈ ll, V.byteOk b := by
        intro i hi
        have h1 := hel i hi
        rw [hc1, Nat.mul_one] at h1
        have h2 : elems[i]? = some (elems[i]'(by omega)) := List.getElem?_eq_getElem (by omega)
        rw [h2] at h1
        obtain ⟨cs, h3, h4⟩ := Option.bind_eq_some_iff.1 h1
        rcases open_ints Try.underlying22 Try.underlying5 (by kernel_rfl) h4 with ⟨rfl, _⟩ | ⟨y, l2, c2, zs, rfl, _, hl2, hm2, hz2, _, hcell2, hwz2⟩
        · exact ⟨[], none, 0, cell_of_cells?_one h3, Nat.le_refl _, ⟨rfl, by decide, fun h => absurd h (by decide)⟩, by simp⟩
        · obtain ⟨ll, e1, hr2, hm3, hw3, hc3⟩ := PrintWords.ReadsInt.ofRowC (w := W) (k := .u8) (a := some y) (len := l2) (cap := c2) (zs := zs) (.inr ⟨y, rfl, hl2, hm2, by simpa using hz2, hcell2, hwz2⟩)
          subst e1
          exact ⟨ll, some y, c2, cell_of_cells?_one h3, hc3, PrintWords.Kd.C_of_reads (d := (0 : Int)) (h1 := fun _ => rfl) hr2, fun b hb => byteOk_wf b (hw3 b hb)⟩
      obtain ⟨ls, hll, hp⟩ := list_of len0 hpc
      refine ⟨ls, hll, hl, ⟨hll, by have : maxLen = 9223372036854775807 := rfl; omega, fun _ => ⟨x, rfl, fun j pp hj => ?_⟩⟩, fun l hl x hx => ?_⟩
      · obtain ⟨A, c, g1, g2, g3, g4⟩ := hp j pp hj
        refine ⟨[.slice A pp.length c], rfl, ⟨A, c, rfl, g2, g3⟩, fun i u hu => ?_⟩
        have hi : i = 0 := by have := (List.getElem?_eq_some_iff.1 hu).1; simp at this; omega
        subst hi
        simp at hu
        subst hu
        show W.cell? (x.add (j * 1 + 0)) = _
        rw [Nat.mul_one, Nat.add_zero]
        exact g1
      · obtain ⟨j, hj, e⟩ := List.getElem_of_mem hl
        obtain ⟨A, c, g1, g2, g3, g4⟩ := hp j l (by rw [List.getElem?_eq_getElem hj, e])
        exact g4 x hx
  clear hA0 hval0 hsz0 hsz
  subst hll
  refine (D.pieces_calls a0 cap0 ls W hC hcc hby).mono fun e W' ⟨he, bel⟩ => ?_
  subst he
  exact ⟨_, rfl, _, _, _, [], _, [], hW', trodAll_mk1 (shut_bool Try.underlying4 _), (trodAll_cons_mk (Below.trod laidOut (by kernel_rfl) (of_decide_eq_true (by kernel_rfl)) k0 bel lt0) trodAll_mk0), rfl, bel.frame _, fun h => by cases h⟩
theorem over : Rows.digestPiecesRow.holds Try.pinned (OpenSpec.ofChange Rows.digestPiecesSpec) :=
  OpenClaim.holds_of_wide 4 Try.f4 rfl rfl rfl rfl rfl rfl rfl ⟨rfl, rfl, rfl, rfl, rfl⟩ rfl rfl rfl rfl rfl (by kernel_rfl) Try.func4 (by kernel_rfl)
    (of_decide_eq_true (by kernel_rfl)) (by unfold Func.isWrapper; first | (rw [if_pos (by decide +kernel)]; kernel_rfl) | (rw [if_neg (by decide +kernel)]; exact ⟨rfl, rfl⟩))
    (fun os started H enc _ => lifted os started H enc)
theorem proved : Rows.DigestPiecesSaid := over
#print axioms proved
end Go.Proofs.Ytfgponalmhocmaa.digestPieces
namespace Go.Proofs.Ytfgponalmhocmaa
/-- The row, under a short name, for the claim. -/
theorem digestPieces_holds : Rows.DigestPiecesSaid := digestPieces.proved
end Go.Proofs.Ytfgponalmhocmaa
