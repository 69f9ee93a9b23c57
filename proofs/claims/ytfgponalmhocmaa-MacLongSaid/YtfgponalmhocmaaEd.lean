/- The machine's side of the reference's sum with a key: what a call comes to. -/
import Derived.Test.YtfgponalmhocmaaEc
import Derived.Test.YtfgponalmhocmaaDg
namespace Go.Proofs.Ytfgponalmhocmaa.D
open Go.RowKit Go.Proofs.YtfgponalmhocmaaW.PrintWords Go.Proofs.YtfgponalmhocmaaW.PrintLast Go.Proofs.YtfgponalmhocmaaW.PrintMore
open Go.Proofs.Ytfgponalmhocmaa.HA Go.Proofs.Ytfgponalmhocmaa.V
set_option linter.unusedVariables false
set_option linter.unusedSimpArgs false

theorem R_litB (W : World) (b : Nat) (hb : b ≤ W.heap.size) : Kd.R (Kd.int .u8) 5 (W.alloc (.cells #[] 5)) b (fun _ => True) (.slice (some ⟨W.heap.size, 0, none⟩) 0 0) [] :=
  ⟨fun _ _ => trivial, [], ⟨rfl, .inr ⟨W.heap.size, 0, #[], rfl, hb, blk_new _ _, Nat.le_refl _, by decide, rfl, rfl⟩⟩, Reps.none _ _⟩
/-- A place of a row of the call's own: its cell. -/
theorem R_cellN {w : World} {b g n c : Nat} {ok : Nat → Prop} {l : List Int} (h : Kd.R (Kd.int .u8) 5 w b ok (.slice (some ⟨g, 0, none⟩) n c) l) (i : Nat) (hi : i < n) : w.cell? ⟨g, i, none⟩ = some (.int .u8 (l.getD i 0)) ∧ w.frozen? ⟨g, i, none⟩ = false := by
  have := Kd.R_celln (0 : Int) h (i : Int) (by omega) (by omega)
  simpa [rdOf] using this
theorem R_putN {w : World} {b g n c : Nat} {ok : Nat → Prop} {l : List Int} (h : Kd.R (Kd.int .u8) 5 w b ok (.slice (some ⟨g, 0, none⟩) n c) l) (i : Nat) (x : Int) : Kd.R (Kd.int .u8) 5 (w.setCell ⟨g, i, none⟩ (.int .u8 x)) b ok (.slice (some ⟨g, 0, none⟩) n c) (l.set i x) := by
  have := Kd.R_putn h (i : Int) x
  rw [Int.toNat_natCast] at this
  exact this
theorem R_at0 {w : World} {b n c : Nat} {A : Option Addr} {ok : Nat → Prop} {l : List Int} (h : Kd.R (Kd.int .u8) 5 w b ok (.slice A n c) l) (hn : 0 < n) : ∃ g, A = some ⟨g, 0, none⟩ ∧ b ≤ g ∧ g < w.heap.size := by
  obtain ⟨e, _⟩ := Kd.R_reads' h
  obtain ⟨g, cur, rfl, hb, hh, _⟩ : ∃ gx cur, A = some ⟨gx, 0, none⟩ ∧ b ≤ gx ∧ w.heap[gx]? = some (.cells cur 5 (0, 0)) ∧ True := by
    obtain ⟨h0, inner, ⟨h1, h2⟩, hr⟩ := h
    rcases h2 with ⟨e1, hn1⟩ | ⟨gx, cap, cur, e1, hb, hh, hn1, hm, hsz, htk⟩
    · cases e1; omega
    · cases e1; exact ⟨gx, cur, rfl, hb, hh, trivial⟩
  exact ⟨g, rfl, hb, blk_lt hh⟩
/-- What a call leaves that hands back a row of bytes of its own. -/
def Row (l : List Int) (w : World) (e : Ending) (w' : World) : Prop := ∃ A c, e = .returned (.slice A l.length c) ∧ Kd.R (Kd.int .u8) 5 w' w.heap.size (fun _ => True) (.slice A l.length c) l ∧ Below w.heap.size w w'

theorem lit_behind (w2 : World) (l : List Int) {w : World} (hB : Below w.heap.size w w2) :
    Aside0 (((w2.alloc (.cells (u8s z20).toArray 24)).setRow w2.heap.size (u8s l).toArray).heap.size = w2.heap.size + 1) ∧
    Aside0 ((((w2.alloc (.cells (u8s z20).toArray 24)).setRow w2.heap.size (u8s l).toArray).alloc (.cells #[] 5)).heap[w2.heap.size]? = some (.cells (u8s l).toArray 24 (0, 0))) ∧
    Aside0 (Kd.R (Kd.int .u8) 5 (((w2.alloc (.cells (u8s z20).toArray 24)).setRow w2.heap.size (u8s l).toArray).alloc (.cells #[] 5)) w.heap.size (fun _ => True) (.slice (some ⟨w2.heap.size + 1, 0, none⟩) 0 0) []) ∧
    Aside0 (Below w.heap.size w (((w2.alloc (.cells (u8s z20).toArray 24)).setRow w2.heap.size (u8s l).toArray).alloc (.cells #[] 5))) := by
  have hs := hB.size
  have e : ((w2.alloc (.cells (u8s z20).toArray 24)).setRow w2.heap.size (u8s l).toArray).heap.size = w2.heap.size + 1 := by rw [setRow_size]; simp
  refine ⟨⟨e⟩, ⟨blk_alloc (setRow_heap _ _ _ _ _ _ (blk_new w2 (.cells (u8s z20).toArray 24))) _⟩, ⟨?_⟩, ⟨below_alloc (below_setRow (below_alloc hB _) hs _) _⟩⟩
  have := R_litB ((w2.alloc (.cells (u8s z20).toArray 24)).setRow w2.heap.size (u8s l).toArray) w.heap.size (by omega)
  rw [e] at this
  exact this

set_option maxHeartbeats 4000000 in
set_option maxRecDepth 100000 in
theorem with_calls (x : Int) (A : Option Addr) (c : Nat) (l : List Int) (w : World) (hC : Kd.C (Kd.int .u8) w A l.length l) (hc : l.length ≤ c) (hb : ∀ x ∈ l, byteOk x) (hs : l.length + 200 < 140737488355328) :
    Calls Try.prog 31 #[.slice A l.length c, .int .u8 x] w (Row (xk x (kpad l)) w) := by
  have HC := Aside0.mk hC
  have HY := Aside0.mk hb
  have HS := Aside0.mk hs
  clear hC hb
  have hz24 := zero24'
  have hk := kcut_le l
  have hM0 := Aside0.mk (show (([] : List Int).length + l.length) * 1 ≤ 140737488355328 by simp; omega)
  have hM1 := Aside0.mk (show (([] : List Int).length + 20) * 1 ≤ 140737488355328 by simp)
  go_enter Try.func31, Try.ntmps31
  go_upto_if 13 with (first
    | (refine Kd.R_append_rows (Kd.int .u8) (w0 := w) w.heap.size rfl (.tmp 8) (.tmp 9) 22 5 (.int .u8 0) 1 rfl Try.underlying22 info5 rfl (by decide) (by decide) _ [] l _ _ _ (fun _ => True) (fun _ => False) rfl rfl (R_litB w w.heap.size (Nat.le_refl _)) (Kd.C_below HC.out (below_alloc (Below.refl _ _) _)) (fun _ _ h => h) (fun _ h => h.elim) (fun _ _ => trivial) (below_alloc (Below.refl _ _) _) (by simp) hM0.out ?_; intro v1 w1 ho hb hg hat; rw [List.nil_append] at ho; obtain ⟨A1, c1, hx⟩ := Kd.R_slice ho; subst hx; have HO1 := Aside0.mk ho; have HB1 := Aside0.mk hb; clear ho hb hg hat)
    | fail)
  have HC1 := Aside0.mk (Kd.C_below HC.out HB1.out)
  have hs1 := HB1.out.size
  go_cut [5] (fun v5 wr => ∃ A5 c5, v5 = .slice A5 (kcut l).length c5 ∧ Aside0 (Kd.R (Kd.int .u8) 5 wr w.heap.size (fun _ => True) (.slice A5 (kcut l).length c5) (kcut l)) ∧ Aside0 (Below w.heap.size w wr))
  case first =>
    by_cases h64 : 64 < l.length
    · have k1 : (64 : Int) < (l.length : Int) := by omega
      have hd := Aside0.mk (show kcut l = dig l by unfold kcut; rw [if_pos h64])
      have hdl := Aside0.mk (dig_len l)
      have hsz20 : Aside0 ((u8s (dig l)).toArray.size = 20) := ⟨by simp [u8s_len, dig_len]⟩
      go_wp2_with (first
        | (go_at_call 16; (with_reducible refine (refsum_calls _ _ l _ HC1.out hc HY.out HS.out).mono ?_); rintro e w2 ⟨rfl, hb2⟩; have HB2 := Aside0.mk (below_step HB1.out hb2); clear hb2; obtain ⟨hw3, HD3, HL3, HB3⟩ := lit_behind w2 (dig l) HB2.out)
        | (refine wpList_store_row rfl 24 _ _ rfl w2.heap.size _ rfl rfl 24 _ (blk_new _ _) (by rw [hsz20.out]; kernel_rfl) (by rw [hsz20.out]; kernel_rfl) (all_one (u8s_one _)) ?_)
        | (refine Kd.R_append_rows (Kd.int .u8) (w0 := w) w.heap.size rfl (.tmp 16) (.tmp 17) 22 5 (.int .u8 0) 1 rfl Try.underlying22 info5 rfl (by decide) (by decide) _ [] (dig l) _ 20 20 (fun _ => True) (fun _ => False) rfl rfl HL3.out (by have := C_rowT HD3.out (by rw [hdl.out]; decide); rw [hdl.out] at this; exact this) (fun _ _ h => h) (fun _ h => h.elim) (fun _ _ => trivial) HB3.out HB3.out.size hM1.out ?_; intro v1 w4 ho hb hg hat; rw [List.nil_append] at ho; obtain ⟨A4, c4, hx⟩ := Kd.R_slice ho; subst hx; have HO4 := Aside0.mk ho; have HB4 := Aside0.mk hb; clear ho hb hg hat)
        | fail)
      go_meet
      rw [hd.out]
      exact ⟨A4, c4, rfl, HO4, HB4⟩
    · have k1 : ¬ (64 : Int) < (l.length : Int) := by omega
      have hd := Aside0.mk (show kcut l = l by unfold kcut; rw [if_neg h64])
      go_wp2_with fail
      go_meet
      rw [hd.out]
      exact ⟨_, _, rfl, HO1, HB1⟩
  case rest =>
    clear HO1 HB1 HC1 HC hM0 hM1
    obtain ⟨A5, c5, rfl, HO, HB⟩ := hcut
    generalize hkc : kcut l = k at hk HO ⊢
    have hkp : Aside0 (kpad l = k ++ List.replicate (64 - k.length) 0) := ⟨by rw [← hkc]; rfl⟩
    clear hkc
    go_upto_block 0 with fail
    go_cut [5] (fun v5 wr => ∃ A6 c6, v5 = .slice A6 64 c6 ∧ Aside0 (Kd.R (Kd.int .u8) 5 wr w.heap.size (fun _ => True) (.slice A6 64 c6) (kpad l)) ∧ Aside0 (Below w.heap.size w wr))
    case first =>
      go_wp2_with fail
      go_loopg [5] (64 - k.length) (fun gk v5 wr => ∃ j A6 c6, v5 = .slice A6 (k.length + j) c6 ∧ Aside0 (gk + j = 64 - k.length) ∧ j ≤ 64 - k.length ∧ Aside0 (Kd.R (Kd.int .u8) 5 wr w.heap.size (fun _ => True) (.slice A6 (k.length + j) c6) (k ++ List.replicate j 0)) ∧ Aside0 (Below w.heap.size w wr))
      case atStart => exact ⟨0, A5, c5, rfl, ⟨rfl⟩, by omega, ⟨by rw [List.replicate_zero, List.append_nil]; exact HO.out⟩, HB⟩
      case round =>
        clear HO HB
        obtain ⟨j, A6, c6, rfl, hgk, hj, HO, HB⟩ := hrel
        by_cases hjl : j < 64 - k.length
        · have i1 : ((k.length + j : Nat) : Int) < 64 := by omega
          have i2 : (k.length : Int) + (j : Int) < 64 := by omega
          have hM : Aside0 (((k ++ List.replicate j 0).length + 1) * 1 ≤ 140737488355328) := ⟨by simp; omega⟩
          have hll : Aside0 ((k ++ List.replicate j 0 ++ [0]).length = k.length + (j + 1)) := ⟨by simp [Nat.add_assoc]⟩
          have hjs : Aside0 (k ++ List.replicate j 0 ++ [0] = k ++ List.replicate (j + 1) 0) := ⟨by rw [List.append_assoc, ← List.replicate_succ']⟩
          have hsz := HB.out.size
          go_wp2_with (first
            | (refine Kd.R_append_rows (Kd.int .u8) (w0 := w) w.heap.size rfl (.tmp 22) (.tmp 23) 22 5 (.int .u8 0) 1 rfl Try.underlying22 info5 rfl (by decide) (by decide) _ (k ++ List.replicate j 0) [0] _ 1 1 (fun _ => True) (fun _ => False) rfl rfl (Kd.R_alloc HO.out _) (C_one _ _ _ _ _ (blk_new _ _) rfl) (fun _ _ h => h) (fun _ h => h.elim) (fun _ _ => trivial) (below_alloc HB.out _) (by simp; omega) hM.out ?_; intro v1 w4 ho hb hg hat; obtain ⟨A4, c4, hx⟩ := Kd.R_slice ho; subst hx; rw [hll.out, hjs.out] at ho; have HO4 := Aside0.mk ho; have HB4 := Aside0.mk hb; clear ho hb hg hat)
            | fail)
          go_roundg (gk - 1)
          case measure => have := hgk.out; omega
          case rel => exact ⟨j + 1, A4, c4, rfl, ⟨by have := hgk.out; omega⟩, by omega, HO4, HB4⟩
        · have i1 : ¬ ((k.length + j : Nat) : Int) < 64 := by omega
          have i2 : ¬ (k.length : Int) + (j : Int) < 64 := by omega
          have hje := Aside0.mk (show k.length + j = 64 by omega)
          have hj2 := Aside0.mk (show j = 64 - k.length by omega)
          go_wp2_with fail
          go_meet
          refine ⟨A6, c6, by rw [hje.out], ⟨?_⟩, HB⟩
          have := HO.out
          rw [hje.out, hj2.out, ← hkp.out] at this
          exact this
    case rest =>
      clear HO HB
      obtain ⟨A6, c6, rfl, HO, HB⟩ := hcut
      obtain ⟨g, rfl, hg, hgl⟩ := R_at0 HO.out (by omega)
      have hpl := Aside0.mk (kpad_len l)
      generalize hP : kpad l = P at HO hpl ⊢
      have hxl := Aside0.mk (xk_len x P)
      go_upto_block 2 with fail
      go_cut [] (fun wr => Aside0 (Kd.R (Kd.int .u8) 5 wr w.heap.size (fun _ => True) (.slice (some ⟨g, 0, none⟩) 64 c6) (xk x P)) ∧ Aside0 (Below w.heap.size w wr))
      case first =>
        go_wp2_with fail
        go_loopg [7] 64 (fun gk v7 wr => ∃ i : Nat, v7 = .int .i64 i ∧ Aside0 (gk + i = 64) ∧ i ≤ 64 ∧ Aside0 (Kd.R (Kd.int .u8) 5 wr w.heap.size (fun _ => True) (.slice (some ⟨g, 0, none⟩) 64 c6) ((xk x P).take i ++ P.drop i)) ∧ Aside0 (Below w.heap.size w wr))
        case atStart => exact ⟨0, rfl, ⟨rfl⟩, by omega, ⟨by rw [List.take_zero, List.drop_zero, List.nil_append]; exact HO.out⟩, HB⟩
        case round =>
          clear HO HB
          obtain ⟨i, rfl, hgk, hi, HO, HB⟩ := hrel
          by_cases hil : i < 64
          · have i1 : (i : Int) < 64 := by omega
            obtain ⟨cX, fX⟩ := R_cellN HO.out i hil
            rw [xk_get x P i (by rw [hpl.out]; exact hil)] at cX
            have hst := Aside0.mk (xk_step x P i (by rw [hpl.out]; exact hil))
            generalize P.getD i 0 = y at cX hst
            go_wp2_with fail
            go_roundg (gk - 1)
            case measure => have := hgk.out; omega
            case rel =>
              refine ⟨i + 1, by go_num, ⟨by have := hgk.out; omega⟩, by omega, ⟨?_⟩, ⟨below_set HB.out hg⟩⟩
              rw [← hst.out]
              exact R_putN HO.out i _
          · have hie := Aside0.mk (show i = 64 by omega)
            have i1 : ¬ (i : Int) < 64 := by omega
            go_wp2_with fail
            go_meet
            refine ⟨⟨?_⟩, HB⟩
            have := HO.out
            rw [hie.out, List.take_of_length_le (by rw [hxl.out, hpl.out]; exact Nat.le_refl _), List.drop_of_length_le (by rw [hpl.out]; exact Nat.le_refl _), List.append_nil] at this
            exact this
      case rest =>
        clear HO HB
        obtain ⟨HO, HB⟩ := hcut
        go_wp2_with fail
        go_ret
        subst hP
        have e64 : (xk x (kpad l)).length = 64 := by rw [hxl.out, hpl.out]
        unfold Row
        rw [e64]
        exact ⟨some ⟨g, 0, none⟩, c6, rfl, HO.out, HB.out⟩
end Go.Proofs.Ytfgponalmhocmaa.D
