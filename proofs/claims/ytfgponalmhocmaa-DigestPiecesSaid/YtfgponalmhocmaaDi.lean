/- The law of long texts of layer 10: what a call comes to. -/
import Derived.Test.YtfgponalmhocmaaDh
import Derived.Laws.MakeOwn
namespace Go.Proofs.Ytfgponalmhocmaa.D
open Go.RowKit Go.Proofs.YtfgponalmhocmaaW.PrintWords Go.Proofs.YtfgponalmhocmaaW.PrintLast Go.Proofs.YtfgponalmhocmaaW.PrintMore
open Go.Proofs.Ytfgponalmhocmaa.HA Go.Proofs.Ytfgponalmhocmaa.V
set_option linter.unusedVariables false
set_option linter.unusedSimpArgs false

theorem made_u8 (k : Nat) : madeCells (Value.int .u8 0).cells k = (u8s (List.replicate k 0)).toArray := by
  apply Array.ext
  · simp [madeCells, u8s]
  · intro i h1 h2
    simp [madeCells, u8s, Value.cells, Nat.mod_one]
theorem make22 (n : Int) (h0 : 0 ≤ n) (h1 : n ≤ 5000) (W : World) : (Instr.makeSlice 22 (.int .i64 n) (.int .i64 n)).run Try.prog W = .ok (.slice (some ⟨W.heap.size, 0, none⟩) n.toNat n.toNat) (W.alloc (.cells (u8s (List.replicate n.toNat 0)).toArray 5)) := by
  obtain ⟨i5, hi5⟩ := Option.isSome_iff_exists.1 (show (Try.prog.info? 5).isSome = true by kernel_rfl)
  have h : (Try.prog.info? 5).map (fun i => (i.zero, i.size, i.bytes)) = some (some (.int .u8 0), 1, 1) := by kernel_rfl
  rw [hi5] at h
  simp only [Option.map_some, Option.some.injEq, Prod.mk.injEq] at h
  have := run_make (P := Try.prog) W 22 5 i5 (.int .u8 0) Try.underlying22 hi5 h.1 .i64 .i64 n n h0 (Int.le_refl _) (by rw [h.2.2]; omega) (by omega)
  rw [h.2.1, Nat.mul_one, made_u8] at this
  exact this
theorem C_row {w : World} {g : Nat} {l : List Int} {fr : Nat × Nat} (h : w.heap[g]? = some (.cells (u8s l).toArray 5 fr)) (hl : l.length ≤ 9223372036854775807) : Kd.C (Kd.int .u8) w (some ⟨g, 0, none⟩) l.length l := by
  refine ⟨rfl, hl, fun _ => ⟨_, rfl, fun j p hj => ⟨[.int .u8 p], rfl, rfl, fun i u hu => ?_⟩⟩⟩
  have hi : i = 0 := by have := (List.getElem?_eq_some_iff.1 hu).1; simp at this; omega
  subst hi
  simp at hu
  subst hu
  have hjl : j < l.length := (List.getElem?_eq_some_iff.1 hj).1
  have e : (⟨g, 0, none⟩ : Addr).add (j * (Kd.int IntKind.u8).sz + 0) = ⟨g, j, none⟩ := by
    show (⟨g, 0, none⟩ : Addr).add (j * 1 + 0) = _
    unfold Addr.add
    split <;> simp_all
  rw [e]
  refine (cell_of_row w g j _ 5 fr h).trans ((u8_get l j hjl).trans ?_)
  rw [List.getD_eq_getElem?_getD, hj]
  rfl

set_option maxHeartbeats 2000000 in
set_option maxRecDepth 100000 in
theorem long_calls (n c : Int) (w : World) (hcb : byteOk c) : Calls Try.prog 5 #[.int .i64 n, .int .u8 c] w fun e w' => e = .returned (.bool true) ∧ Below w.heap.size w w' := by
  by_cases h1 : n < 0
  · go_enter Try.func5, Try.ntmps5
    go_wp2_with (first | (go_at_call 14; (with_reducible refine (alive10_calls _).mono ?_); rintro e w1 ⟨rfl, hb1⟩; have HB1 := Aside0.mk hb1; clear hb1) | fail)
    go_ret
    exact ⟨rfl, HB1.out⟩
  · by_cases h2 : 5000 < n
    · go_enter Try.func5, Try.ntmps5
      go_wp2_with (first | (go_at_call 14; (with_reducible refine (alive10_calls _).mono ?_); rintro e w1 ⟨rfl, hb1⟩; have HB1 := Aside0.mk hb1; clear hb1) | fail)
      go_ret
      exact ⟨rfl, HB1.out⟩
    · obtain ⟨N, rfl⟩ := Int.eq_ofNat_of_zero_le (show 0 ≤ n by omega)
      have hN : N ≤ 5000 := by omega
      have hmk := make22 N (by omega) (by omega)
      rw [Int.toNat_natCast] at hmk
      have k1 : ¬ (N : Int) < 0 := by omega
      have k2 : ¬ (5000 : Int) < (N : Int) := by omega
      go_enter Try.func5, Try.ntmps5
      go_upto_block 0 with fail
      generalize hw1 : w.alloc _ = w1
      have HE1 : Aside0 (w1.heap[w.heap.size]? = some (.cells (u8s (List.replicate N 0)).toArray 5 (0, 0))) := ⟨by rw [← hw1]; exact blk_new _ _⟩
      have HB1 : Aside0 (Below w.heap.size w w1) := ⟨by rw [← hw1]; exact below_alloc (Below.refl _ _) _⟩
      clear hw1 hmk
      go_cut [] (fun wr => Aside0 (wr.heap[w.heap.size]? = some (.cells (u8s (List.replicate N c)).toArray 5 (0, 0))) ∧ Aside0 (Below w.heap.size w wr))
      case first =>
        go_wp2_with fail
        go_loopg [18] N (fun gk v18 wr => ∃ i : Nat, v18 = .int .i64 i ∧ Aside0 (gk + i = N) ∧ i ≤ N ∧ Aside0 (wr.heap[w.heap.size]? = some (.cells (u8s (List.replicate i c ++ List.replicate (N - i) 0)).toArray 5 (0, 0))) ∧ Aside0 (Below w.heap.size w wr))
        case atStart => exact ⟨0, rfl, ⟨rfl⟩, by omega, ⟨by simpa using HE1.out⟩, HB1⟩
        case round =>
          clear HE1 HB1
          obtain ⟨i, rfl, hgk, hi, HE, HB⟩ := hrel
          by_cases hil : i < N
          · have i1 : (i : Int) < (N : Int) := by omega
            have sp : IntKind.i64.wrap ((i : Int) + 1) = (i : Int) + 1 := IntWalk.i64_in _ (by omega)
            have hl : (List.replicate i c ++ List.replicate (N - i) 0).length = N := by simp; omega
            have cE : wr.cell? ⟨w.heap.size, i, none⟩ = some (.int .u8 ((List.replicate i c ++ List.replicate (N - i) 0).getD i 0)) := (blk_cell HE.out i).trans (u8_get _ _ (by rw [hl]; exact hil))
            have fE := blk_frozen HE.out i
            clear hl
            generalize (List.replicate i c ++ List.replicate (N - i) 0).getD i 0 = old at cE
            go_wp2_with fail
            go_roundg (gk - 1)
            case measure => have := hgk.out; omega
            case rel =>
              refine ⟨i + 1, by go_num, ⟨by have := hgk.out; omega⟩, by omega, ⟨?_⟩, ⟨below_set HB.out (Nat.le_refl _)⟩⟩
              refine blk_put HE.out _ _ ?_
              rw [u8_set]
              refine congrArg (fun l => (u8s l).toArray) ?_
              rw [List.set_append_right _ _ (by simp), List.length_replicate, Nat.sub_self, show N - i = (N - (i + 1)) + 1 by omega, List.replicate_succ, List.set_cons_zero, List.replicate_succ']
              simp
          · have hie := Aside0.mk (show i = N by omega)
            have i1 : ¬ (i : Int) < (N : Int) := by omega
            have i2 : decide ((i : Int) < (N : Int)) = false := by simp; omega
            go_wp2_with fail
            go_meet
            exact ⟨⟨by have := HE.out; rw [hie.out] at this; simpa using this⟩, HB⟩
      case rest =>
        clear HE1 HB1
        obtain ⟨HE, HB⟩ := hcut
        generalize hl : List.replicate N c = l at HE
        have hlN : l.length = N := by rw [← hl]; simp
        have hby : Aside0 (∀ x ∈ l, byteOk x) := ⟨by intro x hx; rw [← hl, List.mem_replicate] at hx; rw [hx.2]; exact hcb⟩
        have HC : Aside0 (Kd.C (Kd.int .u8) wc (some ⟨w.heap.size, 0, none⟩) l.length l) := ⟨C_row HE.out (by omega)⟩
        clear hl
        subst hlN
        have heq := fun W => eq_u8s (dig l) (dig l) (dig_len l) (dig_len l) W
        have hsz := HB.out.size
        go_wp2_with (first
          | (go_at_call 14; (with_reducible refine (alive10_calls _).mono ?_); rintro e w1 ⟨rfl, hb1⟩; have HC1 := Aside0.mk (Kd.C_below HC.out hb1); have HB1 := Aside0.mk (below_step HB.out hb1); clear hb1)
          | (go_at_call 15; (with_reducible refine (digest_calls _ _ l _ HC1.out (Nat.le_refl _) hby.out (by omega)).mono ?_); rintro e w2 ⟨rfl, hb2⟩; have HC2 := Aside0.mk (Kd.C_below HC1.out hb2); have HB2 := Aside0.mk (below_step HB1.out hb2); clear hb2)
          | (go_at_call 16; (with_reducible refine (refsum_calls _ _ l _ HC2.out (Nat.le_refl _) hby.out (by omega)).mono ?_); rintro e w3 ⟨rfl, hb3⟩; have HB3 := Aside0.mk (below_step HB2.out hb3); clear hb3)
          | fail)
        go_ret
        exact ⟨by simp, HB3.out⟩
end Go.Proofs.Ytfgponalmhocmaa.D
