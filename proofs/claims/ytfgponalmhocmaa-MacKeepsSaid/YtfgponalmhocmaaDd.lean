/- The machine's side of digest.New and Hash.Sum: what a call comes to. -/
import Derived.Test.YtfgponalmhocmaaDc
import Derived.Deep.MidRow
namespace Go.Proofs.Ytfgponalmhocmaa.D
open Go.RowKit Go.Proofs.YtfgponalmhocmaaW.PrintWords Go.Proofs.YtfgponalmhocmaaW.PrintLast Go.Proofs.YtfgponalmhocmaaW.PrintMore
open Go.Proofs.Ytfgponalmhocmaa.HA Go.Proofs.Ytfgponalmhocmaa.V
set_option linter.unusedVariables false
set_option linter.unusedSimpArgs false

theorem five_of (l : List Int) (h : l.length = 5) : ∃ a b c d e, l = [a, b, c, d, e] := by
  match l, h with
  | [a, b, c, d, e], _ => exact ⟨a, b, c, d, e, rfl⟩
theorem wpList_build_to {P : Program} {ops : Array Oper} {rest : List Oper} {o : Oper} {a : Act} {w : World} {Q : Exit → Act → World → Prop} (hg : o.guard = none) (t : TypeId) (parts : Array (Nat × Operand)) (ho : o.op = .build t parts) (cells : Array Value)
    (hf : P.built t (parts.map fun (i, x) => (i, a.eval x)).toList = some cells)
    (h : wpList P ops Q rest (a.put o.dst (.agg cells)) w) : wpList P ops Q (o :: rest) a w :=
  wpList_build hg t parts ho (by rw [hf]; rfl) (by rw [hf]; exact h)
def z5 : List Int := List.replicate 5 0
def z20 : List Int := List.replicate 20 0
def z64 : List Int := List.replicate 64 0
theorem zero49' (W : World) : (zeroValue 49).run Try.prog W = .ok (.agg (hrow z5 z64 0 0)) W := by kernel_rfl
theorem zero24' (W : World) : (zeroValue 24).run Try.prog W = .ok (.agg (u8s z20).toArray) W := by kernel_rfl
theorem hrow_one (st wt : List Int) (m a : Int) : (hrow st wt m a).all (·.oneCell') = true := by
  refine all_one ?_
  intro v hv
  simp only [List.mem_append] at hv
  rcases hv with hv | hv | hv
  · exact u32s_one _ v hv
  · exact u8s_one _ v hv
  · simp at hv; rcases hv with rfl | rfl <;> rfl

set_option maxHeartbeats 2000000 in
set_option maxRecDepth 100000 in
theorem new_calls (w : World) : Calls Try.prog 17 #[] w fun e w' => e = .returned (.pointer (some ⟨w.heap.size, 0, none⟩)) ∧ w'.heap[w.heap.size]? = some (.cells (hrow H0 z64 0 0) 49 (0, 0)) ∧ Below w.heap.size w w' := by
  go_enter Try.func17, Try.ntmps17
  go_wp2_with (first | (refine wpList_build_to rfl 49 _ rfl (hrow H0 z64 0 0) (by kernel_rfl) ?_) | fail)
  go_ret
  exact ⟨rfl, blk_new _ _, below_alloc (Below.refl _ _) _⟩

theorem C_one (W : World) (o : Nat) (x : Int) (cs : Array Value) (t : TypeId) (h : W.heap[o]? = some (.cells cs t (0, 0))) (hx : cs = #[.int .u8 x]) : Kd.C (Kd.int .u8) W (some ⟨o, 0, none⟩) 1 [x] := by
  subst hx
  refine ⟨rfl, by decide, fun _ => ⟨_, rfl, fun j p hj => ?_⟩⟩
  cases j with
  | zero =>
    simp at hj
    subst hj
    refine ⟨[.int .u8 x], rfl, rfl, fun i u hu => ?_⟩
    cases i with
    | zero => simp at hu; subst hu; exact (blk_cell h 0).trans rfl
    | succ i => simp at hu
  | succ j => simp at hj
/-- One byte written. -/
theorem write1 (C : Nat) (T st wt : List Int) (m : Nat) (a x : Int) (w : World) (H : w.heap[C]? = some (.cells (hrow st wt m a) 49 (0, 0))) (hF : Fed T st wt m) (hx : byteOk x) (ha : 0 ≤ a ∧ a + 1 < 18446744073709551616) :
    Calls Try.prog 18 #[.pointer (some ⟨C, 0, none⟩), .slice (some ⟨w.heap.size, 0, none⟩) 1 1] (w.alloc (.cells #[.int .u8 x] 5)) fun e w' => e = .returned (.tuple #[]) ∧
      (∃ st' wt' m', w'.heap[C]? = some (.cells (hrow st' wt' (m' : Nat) (a + 1)) 49 (0, 0)) ∧ Fed (T ++ [x]) st' wt' m') ∧ But C w w' := by
  have hlt := blk_lt H
  refine (write_calls C T st wt m a (some ⟨w.heap.size, 0, none⟩) 1 [x] _ (blk_alloc H _) hF (C_one _ _ _ _ _ (blk_new _ _) rfl) (Nat.le_refl _) ?_ ?_ ?_).mono ?_
  · intro _ ad h; simp at h; subst h; simp; omega
  · intro y hy; simp at hy; rw [hy]; exact hx
  · simpa using ha
  · rintro e w' ⟨rfl, h1, h2⟩
    exact ⟨rfl, h1, (But.of_below (below_alloc (Below.refl _ _) _)).trans h2⟩

set_option maxHeartbeats 4000000 in
set_option maxRecDepth 100000 in
theorem sum_calls (g : Nat) (T st wt : List Int) (m : Nat) (w : World)
    (H : w.heap[g]? = some (.cells (hrow st wt m T.length) 49 (0, 0))) (hF : Fed T st wt m) (hs : T.length < 2305843009213693000) :
    Calls Try.prog 19 #[.pointer (some ⟨g, 0, none⟩)] w fun e w' => e = .returned (.agg (u8s (dig T)).toArray) ∧ Below w.heap.size w w' := by
  have HG := Aside0.mk H
  have HF := Aside0.mk hF
  have hz24 := zero24'
  have hz49 := zero49'
  have hgl := blk_lt H
  clear H hF
  have HFG := Aside0.mk (hrow_size st wt m T.length HF.out.st5 HF.out.len)
  have HT := Aside0.mk hs
  clear hs
  go_enter Try.func19, Try.ntmps19
  go_upto_region 1 with fail
  go_cut [3] (fun v3 wr => v3 = .pointer (some ⟨w.heap.size + 1, 0, none⟩) ∧ Aside0 (wr.heap[w.heap.size + 1]? = some (.cells (hrow st wt m T.length) 49 (0, 0))) ∧ Aside0 (wr.heap[w.heap.size]? = some (.cells (u8s z20).toArray 24 (0, 0))) ∧ Aside0 (Below w.heap.size w wr) ∧ w.heap.size + 2 ≤ wr.heap.size)
  case first =>
    go_wp2_with (first
    | (refine wpList_load_row rfl 49 _ rfl g rfl 49 _ (0, 0) _ (blk_alloc HG.out _) Try.underlying49 rfl (by rw [HFG.out]; kernel_rfl) ?_)
    | (refine wpList_store_row rfl 49 _ _ rfl (w.heap.size + 1) _ rfl rfl 49 _ (blk_new_at _ _ _ (by simp)) (by rw [HFG.out]; kernel_rfl) (by rw [HFG.out]; kernel_rfl) (hrow_one _ _ _ _) ?_)
    | fail)
    go_meet
    refine ⟨rfl, ⟨setRow_heap _ _ _ _ _ _ (blk_new_at _ _ _ (by simp))⟩, ⟨by rw [setRow_other _ _ _ _ (by omega)]; exact blk_alloc (blk_new _ _) _⟩, ⟨below_setRow (below_alloc (below_alloc (Below.refl _ _) _) _) (by omega) _⟩, by simp⟩
  case rest =>
    obtain ⟨rfl, HC, HR, HB, hsz⟩ := hcut
    clear HFG
    have ca : wc.cell? ⟨w.heap.size + 1, 70, none⟩ = some (.int .u64 T.length) := (blk_cell HC.out 70).trans (hrow_a _ _ _ _ HF.out.st5 HF.out.len)
    have u8x : IntKind.u64.wrap ((T.length : Int) * 8) = (T.length : Int) * 8 := by have := HT.out; rw [IntKind.wrap_u64]; omega
    go_upto_region 3 with fail
    clear ca u8x
    go_cut [] (fun wr => Aside0 (∃ st wt m, wr.heap[w.heap.size + 1]? = some (.cells (hrow st wt (m : Nat) ((T.length : Int) + 1)) 49 (0, 0)) ∧ Fed (T ++ [128]) st wt m) ∧ Aside0 (wr.heap[w.heap.size]? = some (.cells (u8s z20).toArray 24 (0, 0))) ∧ Aside0 (Below w.heap.size w wr) ∧ w.heap.size + 2 ≤ wr.heap.size)
    case first =>
      have hb128 := Aside0.mk (show byteOk 128 from ⟨by decide, by decide⟩)
      have hT := Aside0.mk (show (0 : Int) ≤ (T.length : Int) ∧ (T.length : Int) + 1 < 18446744073709551616 by have := HT.out; omega)
      go_wp2_with (first | (go_at_call 18; (with_reducible refine (write1 _ T st wt m _ _ _ HC.out HF.out hb128.out hT.out).mono ?_); rintro e w5 ⟨rfl, h1, h2⟩; have H1 := Aside0.mk h1; have H2 := Aside0.mk h2; clear h1 h2) | fail)
      go_meet
      exact ⟨H1, ⟨blk_but HR.out H2.out (by omega)⟩, ⟨below_but HB.out (by omega) (by omega) H2.out⟩, Nat.le_trans hsz H2.out.size⟩
    case rest =>
      clear HC HR HB hsz HF
      obtain ⟨HC, HR, HB, hsz⟩ := hcut
      generalize hL : T.length = L at *
      replace hL := Aside0.mk hL
      go_upto_block 0 with fail
      go_cut [] (fun wr => Aside0 (∃ st wt m, wr.heap[w.heap.size + 1]? = some (.cells (hrow st wt (m : Nat) ((L : Int) + 1 + padz L)) 49 (0, 0)) ∧ Fed (T ++ [128] ++ List.replicate (padz L) 0) st wt m) ∧ Aside0 (wr.heap[w.heap.size]? = some (.cells (u8s z20).toArray 24 (0, 0))) ∧ Aside0 (Below w.heap.size w wr) ∧ w.heap.size + 2 ≤ wr.heap.size)
      case first =>
        go_wp2_with fail
        go_loopg [] (padz L) (fun gk wr => ∃ j : Nat, Aside0 (gk + j = padz L) ∧ Aside0 (∃ st wt m, wr.heap[w.heap.size + 1]? = some (.cells (hrow st wt (m : Nat) ((L : Int) + 1 + j)) 49 (0, 0)) ∧ Fed (T ++ [128] ++ List.replicate j 0) st wt m) ∧ Aside0 (wr.heap[w.heap.size]? = some (.cells (u8s z20).toArray 24 (0, 0))) ∧ Aside0 (Below w.heap.size w wr) ∧ Aside0 (w.heap.size + 2 ≤ wr.heap.size))
        case atStart => exact ⟨0, ⟨rfl⟩, ⟨by simpa using HC.out⟩, HR, HB, ⟨hsz⟩⟩
        case round =>
          clear HC HR HB hsz
          obtain ⟨j, hgk, HC, HR, HB, hsz⟩ := hrel
          obtain ⟨st, wt, m, hc, hf⟩ := HC.out
          have HC2 := Aside0.mk hc
          have HF2 := Aside0.mk hf
          have hm : m = (L + 1 + j) % 64 := by have := hf.many; simp [hL.out] at this; omega
          have hm := Aside0.mk hm
          clear hc hf HC
          have cM : wr.cell? ⟨w.heap.size + 1, 69, none⟩ = some (.int .i64 m) := (blk_cell HC2.out 69).trans (hrow_m _ _ _ _ HF2.out.st5 HF2.out.len)
          by_cases hj : j < padz L
          · have hb0 := Aside0.mk (show byteOk 0 from ⟨by decide, by decide⟩)
            have hne : ((m : Int) != 56) = true := by
              have h1 := hm.out
              have h2 : j < (119 - L % 64) % 64 := hj
              have h3 : m ≠ 56 := by omega
              simp; omega
            have hne2 : ¬ (m : Int) = 56 := by simpa using hne
            have hT := Aside0.mk (show (0 : Int) ≤ (L : Int) + 1 + j ∧ (L : Int) + 1 + j + 1 < 18446744073709551616 by
              have := HT.out
              have h2 : j < (119 - L % 64) % 64 := hj
              omega)
            go_wp2_with (first | (go_at_call 18; (with_reducible refine (write1 _ _ st wt m _ _ _ HC2.out HF2.out hb0.out hT.out).mono ?_); rintro e w5 ⟨rfl, h1, h2⟩; have H1 := Aside0.mk h1; have H2 := Aside0.mk h2; clear h1 h2) | fail)
            go_roundg (gk - 1)
            case measure => have := hgk.out; omega
            case rel =>
              refine ⟨j + 1, ⟨by have := hgk.out; omega⟩, ⟨?_⟩, ⟨blk_but HR.out H2.out (by omega)⟩, ⟨below_but HB.out (by omega) (by have := hsz.out; omega) H2.out⟩, ⟨Nat.le_trans hsz.out H2.out.size⟩⟩
              obtain ⟨st', wt', m', h1, h2⟩ := H1.out
              refine ⟨st', wt', m', ?_, ?_⟩
              · rw [h1]; simp [Int.add_assoc]
              · rw [List.replicate_succ', ← List.append_assoc]; exact h2
          · have hje : j = padz L := by have := hgk.out; omega
            have hne : ((m : Int) != 56) = false := by
              have h1 := hm.out
              have h2 : j = (119 - L % 64) % 64 := hje
              have h3 : m = 56 := by omega
              simp; omega
            have hne2 : (m : Int) = 56 := by simpa using hne
            replace hje := Aside0.mk hje
            go_wp2_with fail
            go_meet
            exact ⟨⟨st, wt, m, by rw [← hje.out]; exact HC2.out, by rw [← hje.out]; exact HF2.out⟩, HR, HB, hsz.out⟩
      case rest =>
        clear HC HR HB hsz
        obtain ⟨HC, HR, HB, hsz⟩ := hcut
        go_upto_block 2 with fail
        go_cut [] (fun wr => Aside0 (∃ st wt m, wr.heap[w.heap.size + 1]? = some (.cells (hrow st wt (m : Nat) ((L : Int) + 1 + padz L + 8)) 49 (0, 0)) ∧ Fed (padded T) st wt m) ∧ Aside0 (wr.heap[w.heap.size]? = some (.cells (u8s z20).toArray 24 (0, 0))) ∧ Aside0 (Below w.heap.size w wr) ∧ w.heap.size + 2 ≤ wr.heap.size)
        case first =>
          go_wp2_with fail
          go_loopg [23] 8 (fun gk v23 wr => ∃ j : Nat, v23 = .int .i64 j ∧ Aside0 (gk + j = 8) ∧ Aside0 (∃ st wt m, wr.heap[w.heap.size + 1]? = some (.cells (hrow st wt (m : Nat) ((L : Int) + 1 + padz L + j)) 49 (0, 0)) ∧ Fed (T ++ [128] ++ List.replicate (padz L) 0 ++ (be8 ((L : Int) * 8)).take j) st wt m) ∧ Aside0 (wr.heap[w.heap.size]? = some (.cells (u8s z20).toArray 24 (0, 0))) ∧ Aside0 (Below w.heap.size w wr) ∧ Aside0 (w.heap.size + 2 ≤ wr.heap.size))
          case atStart => exact ⟨0, rfl, ⟨rfl⟩, ⟨by simpa using HC.out⟩, HR, HB, ⟨hsz⟩⟩
          case round =>
            clear HC HR HB hsz
            obtain ⟨j, rfl, hgk, HC, HR, HB, hsz⟩ := hrel
            obtain ⟨st, wt, m, hc, hf⟩ := HC.out
            have HC2 := Aside0.mk hc
            have HF2 := Aside0.mk hf
            clear hc hf HC
            by_cases hj : j < 8
            · have hji : (j : Int) < 8 := by omega
              have k1 : IntKind.i64.wrap (8 * (j : Int)) = 8 * (j : Int) := IntWalk.i64_in _ (by omega)
              have k2 : IntKind.i64.wrap (56 - 8 * (j : Int)) = 56 - 8 * (j : Int) := IntWalk.i64_in _ (by omega)
              have k3 : IntKind.i64.wrap ((j : Int) + 1) = (j : Int) + 1 := IntWalk.i64_in _ (by omega)
              have k4 : (0 : Int) ≤ 56 - 8 * (j : Int) := by omega
              have k5 : 8 * (j : Int) ≤ 56 := by omega
              have hT := Aside0.mk (show (0 : Int) ≤ (L : Int) + 1 + padz L + j ∧ (L : Int) + 1 + padz L + j + 1 < 18446744073709551616 by
                have := HT.out
                have h2 : padz L < 64 := Nat.mod_lt _ (by omega)
                omega)
              have hbx := Aside0.mk (show byteOk ((L : Int) * 8 / 2 ^ (56 - 8 * j) % 256) from ⟨Int.emod_nonneg _ (by decide), Int.emod_lt_of_pos _ (by decide)⟩)
              go_wp2_with (first | (go_at_call 18; (with_reducible refine (write1 _ _ st wt m _ _ _ HC2.out HF2.out hbx.out hT.out).mono ?_); rintro e w5 ⟨rfl, h1, h2⟩; have H1 := Aside0.mk h1; have H2 := Aside0.mk h2; clear h1 h2) | fail)
              go_roundg (gk - 1)
              case measure => have := hgk.out; omega
              case rel =>
                refine ⟨j + 1, by go_num, ⟨by have := hgk.out; omega⟩, ⟨?_⟩, ⟨blk_but HR.out H2.out (by omega)⟩, ⟨below_but HB.out (by omega) (by have := hsz.out; omega) H2.out⟩, ⟨Nat.le_trans hsz.out H2.out.size⟩⟩
                obtain ⟨st', wt', m', h1, h2⟩ := H1.out
                refine ⟨st', wt', m', ?_, ?_⟩
                · rw [h1]; simp [Int.add_assoc]
                · rw [be8_take _ _ hj, ← List.append_assoc]; exact h2
            · have hje := Aside0.mk (show j = 8 by have := hgk.out; omega)
              have hji : ¬ (j : Int) < 8 := by omega
              have hjd : decide ((j : Int) < 8) = false := by simp; omega
              go_wp2_with fail
              go_meet
              refine ⟨⟨st, wt, m, by have := HC2.out; rw [hje.out] at this; exact this, ?_⟩, HR, HB, hsz.out⟩
              have := HF2.out
              rw [hje.out] at this
              unfold padded
              rw [hL.out]
              exact this
        case rest =>
          clear HC HR HB hsz
          obtain ⟨HC, HR, HB, hsz⟩ := hcut
          obtain ⟨st, wt, m, hc, hf⟩ := HC.out
          have HC2 := Aside0.mk hc
          have HF2 := Aside0.mk hf
          clear hc hf HC
          obtain ⟨s0, s1, s2, s3, s4, hst⟩ := five_of st HF2.out.st5
          have hfull := Aside0.mk (show dig T = [s0, s1, s2, s3, s4].flatMap be4 by rw [← hst, HF2.out.state]; rfl)
          go_upto_region 12 with fail
          generalize hw6 : wc.alloc _ = w6
          have hE6 : Aside0 (w6.heap[wc.heap.size]? = some (.cells (u8s z20).toArray 24 (0, 0))) := ⟨by rw [← hw6]; exact blk_new _ _⟩
          have HR6 : Aside0 (w6.heap[w.heap.size]? = some (.cells (u8s z20).toArray 24 (0, 0))) := ⟨by rw [← hw6]; exact blk_alloc HR.out _⟩
          have HC6 : Aside0 (w6.heap[w.heap.size + 1]? = some (.cells (hrow st wt m ((L : Int) + 1 + padz L + 8)) 49 (0, 0))) := ⟨by rw [← hw6]; exact blk_alloc HC2.out _⟩
          have HB6 : Aside0 (Below w.heap.size w w6) := ⟨by rw [← hw6]; exact below_alloc HB.out _⟩
          generalize hE : wc.heap.size = E at hE6 hsz ⊢
          clear hw6 HR HC2 HB hE
          have hst5 := Aside0.mk HF2.out.st5
          clear HF2
          subst hst
          have c0 : w6.cell? ⟨w.heap.size + 1, 0, none⟩ = some (.int .u32 s0) := (blk_cell HC6.out 0).trans (hrow_st _ _ _ _ hst5.out 0 (by omega))
          have c1 : w6.cell? ⟨w.heap.size + 1, 1, none⟩ = some (.int .u32 s1) := (blk_cell HC6.out 1).trans (hrow_st _ _ _ _ hst5.out 1 (by omega))
          have c2 : w6.cell? ⟨w.heap.size + 1, 2, none⟩ = some (.int .u32 s2) := (blk_cell HC6.out 2).trans (hrow_st _ _ _ _ hst5.out 2 (by omega))
          have c3 : w6.cell? ⟨w.heap.size + 1, 3, none⟩ = some (.int .u32 s3) := (blk_cell HC6.out 3).trans (hrow_st _ _ _ _ hst5.out 3 (by omega))
          have c4 : w6.cell? ⟨w.heap.size + 1, 4, none⟩ = some (.int .u32 s4) := (blk_cell HC6.out 4).trans (hrow_st _ _ _ _ hst5.out 4 (by omega))
          go_upto_block 4 with fail
          clear c0 c1 c2 c3 c4 HC6 hst5
          have hER : Aside0 (w.heap.size ≤ E ∧ E ≠ w.heap.size) := ⟨by omega, by omega⟩
          generalize hfl : [s0, s1, s2, s3, s4].flatMap be4 = full at hfull
          have hfl := Aside0.mk hfl
          have hfull20 : Aside0 (full.length = 20) := ⟨by rw [← hfl.out]; rfl⟩
          go_cut [] (fun wr => Aside0 (wr.heap[E]? = some (.cells (u8s full).toArray 24 (0, 0))) ∧ Aside0 (wr.heap[w.heap.size]? = some (.cells (u8s z20).toArray 24 (0, 0))) ∧ Aside0 (Below w.heap.size w wr))
          case first =>
            go_wp2_with fail
            go_loopg [37] 5 (fun gk v37 wr => ∃ i : Nat, v37 = .int .i64 i ∧ Aside0 (gk + i = 5) ∧ i ≤ 5 ∧ Aside0 (wr.heap[E]? = some (.cells (u8s (full.take (4 * i) ++ z20.drop (4 * i))).toArray 24 (0, 0))) ∧ Aside0 (wr.heap[w.heap.size]? = some (.cells (u8s z20).toArray 24 (0, 0))) ∧ Aside0 (Below w.heap.size w wr))
            case atStart => exact ⟨0, rfl, ⟨rfl⟩, by omega, ⟨by simpa using hE6.out⟩, HR6, HB6⟩
            case round =>
              clear hE6 HR6 HB6
              obtain ⟨i, rfl, hgk, hi, HE, HR, HB⟩ := hrel
              by_cases hil : i < 5
              · obtain ⟨gO, hgO⟩ : ∃ x, x = gk := ⟨_, rfl⟩
                have hgk : Aside0 (gO + i = 5) := ⟨by rw [hgO]; exact hgk.out⟩
                replace hgO := Aside0.mk hgO
                have hi5 : (i : Int) < 5 := by omega
                have hi5d : decide ((i : Int) < 5) = true := by simp; omega
                have hix := index_43 s0 s1 s2 s3 s4 i hil
                have k1 : IntKind.i64.wrap (4 * (i : Int)) = 4 * (i : Int) := IntWalk.i64_in _ (by omega)
                have k2 : IntKind.i64.wrap ((i : Int) + 1) = (i : Int) + 1 := IntWalk.i64_in _ (by omega)
                go_wp2_with fail
                go_loopg [41] 4 (fun gq v41 wq => ∃ k : Nat, v41 = .int .i64 k ∧ Aside0 (gq + k = 4) ∧ k ≤ 4 ∧ Aside0 (wq.heap[E]? = some (.cells (u8s (full.take (4 * i + k) ++ z20.drop (4 * i + k))).toArray 24 (0, 0))) ∧ Aside0 (wq.heap[w.heap.size]? = some (.cells (u8s z20).toArray 24 (0, 0))) ∧ Aside0 (Below w.heap.size w wq))
                case atStart => exact ⟨0, rfl, ⟨rfl⟩, by omega, HE, HR, HB⟩
                case round =>
                  clear HE HR HB
                  obtain ⟨k, rfl, hgq, hk, HE, HR, HB⟩ := hrel
                  by_cases hkl : k < 4
                  · have hk4 : (k : Int) < 4 := by omega
                    have k3 : IntKind.i64.wrap (4 * (i : Int) + (k : Int)) = 4 * (i : Int) + (k : Int) := IntWalk.i64_in _ (by omega)
                    have k4 : IntKind.i64.wrap (8 * (k : Int)) = 8 * (k : Int) := IntWalk.i64_in _ (by omega)
                    have k5 : IntKind.i64.wrap (24 - 8 * (k : Int)) = 24 - 8 * (k : Int) := IntWalk.i64_in _ (by omega)
                    have k6 : IntKind.i64.wrap ((k : Int) + 1) = (k : Int) + 1 := IntWalk.i64_in _ (by omega)
                    have k7 : (0 : Int) ≤ 24 - 8 * (k : Int) := by omega
                    have k8 : 8 * (k : Int) ≤ 24 := by omega
                    have k9 : (0 : Int) ≤ 4 * (i : Int) + (k : Int) := by omega
                    have k10 : 4 * (i : Int) + (k : Int) < 20 := by omega
                    have k11 : (4 * (i : Int) + (k : Int)).toNat = 4 * i + k := by omega
                    have hl20 : (full.take (4 * i + k) ++ z20.drop (4 * i + k)).length = 20 := by have := hfull20.out; simp [z20]; omega
                    have cE : wr.cell? ⟨E, 4 * i + k, none⟩ = some (.int .u8 (z20.getD (4 * i + k) 0)) := (blk_cell HE.out _).trans ((u8_get _ _ (by rw [hl20]; omega)).trans (by rw [mid_get _ _ _ (by rw [hfull20.out]; omega)]))
                    have fE := blk_frozen HE.out (4 * i + k)
                    clear hl20
                    go_wp2_with fail
                    go_roundg (gk - 1)
                    case measure => have := hgq.out; omega
                    case rel =>
                      refine ⟨k + 1, by go_num, ⟨by have := hgq.out; omega⟩, by omega, ⟨?_⟩, ⟨blk_far HR.out (by have := hER.out.2; exact fun h => this h.symm) _⟩, ⟨below_set HB.out hER.out.1⟩⟩
                      refine blk_put HE.out _ _ ?_
                      rw [u8_set]
                      refine congrArg (fun l => (u8s l).toArray) ?_
                      refine mid_set _ _ _ _ (by rw [hfull20.out]; omega) (by simp [z20]; omega) ?_
                      rw [← hfl.out, five_get _ _ _ _ _ _ _ hil hkl]
                      have h5 : i < [s0, s1, s2, s3, s4].length := hil
                      rw [List.getD_eq_getElem?_getD, List.getElem?_eq_getElem h5]
                      rfl
                  · have hke := Aside0.mk (show k = 4 by omega)
                    have hk4 : ¬ (k : Int) < 4 := by omega
                    go_wp2_with fail
                    go_roundg (gO - 1)
                    case measure => have := hgk.out; have := hgO.out; omega
                    case rel => exact ⟨i + 1, by go_num, ⟨by have := hgk.out; omega⟩, by omega, ⟨by have := HE.out; rw [hke.out] at this; exact this⟩, HR, HB⟩
              · have hie := Aside0.mk (show i = 5 by omega)
                have hi5 : ¬ (i : Int) < 5 := by omega
                go_wp2_with fail
                go_meet
                refine ⟨⟨?_⟩, HR, HB⟩
                have := HE.out
                rw [hie.out, List.take_of_length_le (by rw [hfull20.out]; exact Nat.le_refl _), List.drop_of_length_le (by simp [z20]), List.append_nil] at this
                exact this
          case rest =>
            clear hE6 HR6 HB6
            obtain ⟨HE, HR, HB⟩ := hcut
            go_upto_region 21 with fail
            have hsz20 : (u8s full).toArray.size = 20 := by simp [u8s_len, hfull20.out]
            go_wp2_with (first
              | (refine wpList_load_row rfl 24 _ rfl E rfl 24 _ (0, 0) _ HE.out Try.underlying24 rfl (by rw [hsz20]; kernel_rfl) ?_)
              | (refine wpList_store_row rfl 24 _ _ rfl w.heap.size _ rfl rfl 24 _ HR.out (by rw [hsz20]; kernel_rfl) (by rw [hsz20]; kernel_rfl) (all_one (u8s_one _)) ?_)
              | fail)
            have HR2 : Aside0 ((wc.setRow w.heap.size (u8s full).toArray).heap[w.heap.size]? = some (.cells (u8s full).toArray 24 (0, 0))) := ⟨setRow_heap _ _ _ _ _ _ HR.out⟩
            have HB2 : Aside0 (Below w.heap.size w (wc.setRow w.heap.size (u8s full).toArray)) := ⟨below_setRow HB.out (Nat.le_refl _) _⟩
            refine bodyPost_ret (results_cell_row rfl _ _ w.heap.size 24 _ (0, 0) _ rfl HR2.out Try.underlying24 rfl (by rw [hsz20]; kernel_rfl)) rfl ⟨?_, HB2.out⟩
            rw [hfull.out]
end Go.Proofs.Ytfgponalmhocmaa.D
