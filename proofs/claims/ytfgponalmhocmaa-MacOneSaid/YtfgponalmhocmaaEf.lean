/- The machine's side of mac.Key: what a call comes to. -/
import Derived.Test.YtfgponalmhocmaaEe
namespace Go.Proofs.Ytfgponalmhocmaa.D
open Go.RowKit Go.Proofs.YtfgponalmhocmaaW.PrintWords Go.Proofs.YtfgponalmhocmaaW.PrintLast Go.Proofs.YtfgponalmhocmaaW.PrintMore
open Go.Proofs.Ytfgponalmhocmaa.HA Go.Proofs.Ytfgponalmhocmaa.V
set_option linter.unusedVariables false
set_option linter.unusedSimpArgs false

/-- What a call leaves that hands back a key. -/
def KeyV (l : List Int) (w : World) (e : Ending) (w' : World) : Prop := ∃ A c, e = .returned (.tuple #[.slice A l.length c, .bool true]) ∧ l.length ≤ c ∧ Kd.C (Kd.int .u8) w' A l.length l ∧ Below w.heap.size w w'
theorem C_four (W : World) (o : Nat) (x y z u : Int) {fr : Nat × Nat} (h : W.heap[o]? = some (.cells #[.int .u8 x, .int .u8 y, .int .u8 z, .int .u8 u] 5 fr)) : Kd.C (Kd.int .u8) W (some ⟨o, 0, none⟩) 4 [x, y, z, u] :=
  C_rowT (l := [x, y, z, u]) h (by simp)

theorem sum_key20 (key : List Int) (a b : Value) (A : Option Addr) (c : Nat) (l : List Int) (w : World) (hk : Keyed key a b) (hC : Kd.C (Kd.int .u8) w A 20 l) (h20 : l.length = 20) (hc : 20 ≤ c) (hb : ∀ x ∈ l, byteOk x) :
    Calls Try.prog 30 #[a, b, .slice A 20 c] w fun e w' => e = .returned (.agg (u8s (hm key l)).toArray) ∧ Below w.heap.size w w' := by
  have := sum_key_calls key a b A c l w hk (by rw [h20]; exact hC) (by omega) hb (by omega)
  rw [h20] at this
  exact this
theorem R_none0 {w : World} {b n c : Nat} {ok : Nat → Prop} {l : List Int} (h : Kd.R (Kd.int .u8) 5 w b ok (.slice none n c) l) : n = 0 ∧ c = 0 := by
  obtain ⟨h0, inner, ⟨h1, h2⟩, hr⟩ := h
  rcases h2 with ⟨e1, hn1⟩ | ⟨gx, cap, cur, e1, _⟩
  · injection e1 with _ e2 e3
    exact ⟨e2, e3⟩
  · cases e1
/-- A whole row read ahead of what follows. -/
theorem wpStill_load_row {P : Program} {ops : Array Oper} {w : World} {Q : Act → Prop} {rest : List Oper} {o : Oper} {a : Act} (hw : Region.wanted o (yielded ops a.tmps) = true) (ty : TypeId) (x : Operand) (ho : o.op = .load ty x)
    (g : Nat) (hx : a.eval x = .pointer (some ⟨g, 0, none⟩)) (t : TypeId) (cs : Array Value) (fr : Nat × Nat) (d : TypeDesc) (hg : w.heap[g]? = some (.cells cs t fr))
    (hu : P.underlying ty = some d) (hd : (match d with | .struct _ | .array _ _ => true | _ => false) = true) (hi : (P.info? ty).map (·.size) = some cs.size)
    (h : wpStill P ops w Q rest (a.put o.dst (.agg cs))) : wpStill P ops w Q (o :: rest) a := by
  refine wpStill_step (fun K hK => ?_)
  rw [if_pos hw]
  unfold Oper.still execOp
  simp only [ho, hx, Instr.loadAt, Instr.sureAddr, Sem.run_bind, Sem.run_pure, Result.andThen_ok, run_loadVar_row w g t ty cs fr d hg hu hd hi]
  exact ⟨rfl, hK _ h⟩

set_option maxHeartbeats 4000000 in
set_option maxRecDepth 100000 in
theorem mackey_calls (A0 : Option Addr) (c0 : Nat) (l0 : List Int) (A1 : Option Addr) (c1 : Nat) (l1 : List Int) (rounds : Int) (r L : Nat) (w : World) (hrr : rounds = (r : Int) + 1) (hC0 : Kd.C (Kd.int .u8) w A0 l0.length l0) (hc0 : l0.length ≤ c0) (hb0 : ∀ x ∈ l0, byteOk x)
    (hC1 : Kd.C (Kd.int .u8) w A1 l1.length l1) (hc1 : l1.length ≤ c1) (hb1 : ∀ x ∈ l1, byteOk x) (hs0 : l0.length + 200 < 140737488355328) (hs1 : l1.length + 300 < 140737488355328) (hr : r + 1 ≤ 5000) (hL : L ≤ 1000) :
    Calls Try.prog 24 #[.slice A0 l0.length c0, .slice A1 l1.length c1, .int .i64 rounds, .int .i64 (L : Int)] w (KeyV (pkey l0 l1 r L) w) := by
  have HC0 := Aside0.mk hC0
  have HC1 := Aside0.mk hC1
  have HY0 := Aside0.mk hb0
  have HY1 := Aside0.mk hb1
  clear hC0 hC1 hb0 hb1
  have hz24 := zero24'
  have hz49 := zero49'
  have k1 : ¬ rounds < 1 := by omega
  have k2 : ¬ (5000 : Int) < rounds := by omega
  have k3 : ¬ (L : Int) < 0 := by omega
  have k4 : ¬ (1000 : Int) < (L : Int) := by omega
  go_enter Try.func24, Try.ntmps24
  have HRR := Aside0.mk hrr
  clear hrr
  go_wp2_with fail
  refine (halves_calls A0 c0 l0 _ HC0.out hc0 HY0.out (by omega)).mono ?_
  rintro e w2 ⟨⟨a, b, rfl, ha, hb⟩, hb2⟩
  have HK : Aside0 (Keyed l0 a b) := ⟨⟨ha, hb⟩⟩
  obtain ⟨ca, rfl, e1, e2, e3⟩ := ha.row
  obtain ⟨cb, rfl, f1, f2, f3⟩ := hb.row
  have HB2 := Aside0.mk hb2
  have k5 := HB2.out.size
  have e1 := Aside0.mk e1
  have e2 := Aside0.mk e2
  have e3 := Aside0.mk e3
  have f1 := Aside0.mk f1
  have f2 := Aside0.mk f2
  have f3 := Aside0.mk f3
  clear ha hb hb2
  go_upto_block 0 with (first
    | (refine wpList_store_row rfl 49 _ _ rfl w2.heap.size _ rfl rfl 49 _ (blk_alloc (blk_new _ _) _) e1.out (by rw [e2.out]; rfl) e3.out ?_)
    | (refine wpList_store_row rfl 49 _ _ rfl (w2.heap.size + 1) _ rfl rfl 49 _ (by rw [setRow_other _ _ _ _ (by omega)]; exact blk_new_at _ _ _ (by simp)) f1.out (by rw [f2.out]; rfl) f3.out ?_)
    | fail)
  generalize hw4 : World.setRow _ _ _ = w4
  have HI4 : Aside0 (w4.heap[w2.heap.size]? = some (.cells ca 49 (0, 0))) := ⟨by rw [← hw4, setRow_other _ _ _ _ (by omega)]; exact setRow_heap _ _ _ _ _ _ (blk_alloc (blk_new _ _) _)⟩
  have HO4 : Aside0 (w4.heap[w2.heap.size + 1]? = some (.cells cb 49 (0, 0))) := ⟨by rw [← hw4]; exact setRow_heap _ _ _ _ _ _ (by rw [setRow_other _ _ _ _ (by omega)]; exact blk_new_at _ _ _ (by simp))⟩
  have HB4 : Aside0 (Below w.heap.size w w4) := ⟨by rw [← hw4]; exact below_setRow (below_setRow (below_alloc (below_alloc HB2.out _) _) k5 _) (by omega) _⟩
  clear hw4 HB2
  go_cut [12] (fun v12 wr => ∃ A c, v12 = .slice A (20 * ((L + 19) / 20)) c ∧ Aside0 (Kd.R (Kd.int .u8) 5 wr w.heap.size (fun _ => True) (.slice A (20 * ((L + 19) / 20)) c) (blocks l0 l1 r ((L + 19) / 20))) ∧ Aside0 (Below w.heap.size w wr))
  case first =>
    go_wp2_with fail
    go_loopg [12, 13] ((L + 19) / 20) (fun gk v12 v13 wr => ∃ n A c, v12 = .slice A (20 * n) c ∧ v13 = .int .i64 ((n : Int) + 1) ∧ Aside0 (gk + n = (L + 19) / 20) ∧ n ≤ (L + 19) / 20 ∧ Aside0 (Kd.R (Kd.int .u8) 5 wr w.heap.size (fun _ => True) (.slice A (20 * n) c) (blocks l0 l1 r n)) ∧ Aside0 (wr.heap[w2.heap.size]? = some (.cells ca 49 (0, 0))) ∧ Aside0 (wr.heap[w2.heap.size + 1]? = some (.cells cb 49 (0, 0))) ∧ Aside0 (Below w.heap.size w wr))
    case atStart => exact ⟨0, none, 0, rfl, rfl, ⟨rfl⟩, by omega, ⟨Kd.R_nil _ _ _ _ _⟩, HI4, HO4, HB4⟩
    case round =>
      clear HI4 HO4 HB4
      obtain ⟨n, A, c, rfl, rfl, hgk, hn, HO, HI, HJ, HB⟩ := hrel
      by_cases hnl : n < (L + 19) / 20
      · have i1 : ((20 * n : Nat) : Int) < (L : Int) := by omega
        have i2 : 20 * (n : Int) < (L : Int) := by omega
        have HC1r := Aside0.mk (Kd.C_below HC1.out HB.out)
        have hM0 : Aside0 ((([] : List Int).length + l1.length) * 1 ≤ 140737488355328) := ⟨by simp; omega⟩
        have hM1 : Aside0 ((l1.length + 4) * 1 ≤ 140737488355328) := ⟨by omega⟩
        have hnum : Aside0 (num l1 (n + 1) = l1 ++ [0, 0, ((n : Int) + 1) / 256, (n : Int) + 1]) := ⟨by unfold num; rw [show (((n + 1 : Nat) : Int) / 256) % 256 = ((n : Int) + 1) / 256 by omega, show ((n + 1 : Nat) : Int) % 256 = (n : Int) + 1 by omega]⟩
        go_upto_region 9 with (first
          | (refine Kd.R_append_rows (Kd.int .u8) (w0 := wr) wr.heap.size rfl (.const (.slice none 0 0)) (.tmp 43) 22 5 (.int .u8 0) 1 rfl Try.underlying22 info5 rfl (by decide) (by decide) _ [] l1 _ _ _ (fun _ => True) (fun _ => False) rfl rfl (Kd.R_nil _ _ _ _ _) HC1r.out (fun _ _ h => h) (fun _ h => h.elim) (fun _ _ => trivial) (Below.refl _ _) (Nat.le_refl _) hM0.out ?_; intro v1 w5 ho hb hg hat; rw [List.nil_append] at ho; obtain ⟨A5, c5, hx⟩ := Kd.R_slice ho; subst hx; have HO5 := Aside0.mk ho; have HB5 := Aside0.mk hb; clear ho hb hg hat)
          | (refine Kd.R_append_rows (Kd.int .u8) (w0 := wr) wr.heap.size rfl (.tmp 44) (.tmp 50) 22 5 (.int .u8 0) 1 rfl Try.underlying22 info5 rfl (by decide) (by decide) _ l1 [0, 0, ((n : Int) + 1) / 256, (n : Int) + 1] _ 4 4 (fun _ => True) (fun _ => False) rfl rfl (Kd.R_alloc HO5.out _) (C_four _ _ _ _ _ _ (blk_new _ _)) (fun _ _ h => h) (fun _ h => h.elim) (fun _ _ => trivial) (below_alloc HB5.out _) (by have := HB5.out.size; simp; omega) hM1.out ?_; intro v1 w6 ho hb hg hat; rw [← hnum.out] at ho; obtain ⟨A6, c6, hx⟩ := Kd.R_slice ho; subst hx; have hc6 := (Kd.R_reads' ho).2.1; have HC6 := Aside0.mk (Kd.R_reads' ho).2.2; have HB6 := Aside0.mk hb; clear ho hb hg hat)
          | fail)
        generalize hF : num l1 (n + 1) = F at *
        have hFl : Aside0 (F.length < 2305843009213692000) := ⟨by rw [← hF, num_len]; omega⟩
        have hFb : Aside0 (∀ x ∈ F, byteOk x) := ⟨by rw [← hF]; exact num_byte _ _ HY1.out⟩
        replace hF := Aside0.mk hF
        have HI6 := Aside0.mk (blk_below HI.out HB6.out)
        have HJ6 := Aside0.mk (blk_below HJ.out HB6.out)
        clear HC1r hM0 hM1 hnum HO5 HB5
        have hs20 : Aside0 (∀ T, T.length = 20 → (Try.prog.info? 24).map (·.size) = some (u8s T).toArray.size) := ⟨fun T h => by rw [List.size_toArray, u8s_len, h]; kernel_rfl⟩
        go_upto_region 11 with (first
          | (refine wpList_load_row rfl 49 _ rfl w2.heap.size rfl 49 _ (0, 0) _ HI6.out Try.underlying49 rfl e1.out ?_)
          | (refine wpList_load_row rfl 49 _ rfl (w2.heap.size + 1) rfl 49 _ (0, 0) _ HJ6.out Try.underlying49 rfl f1.out ?_)
          | (go_at_call 30; (with_reducible refine (sum_key_calls l0 _ _ A6 c6 F _ HK.out HC6.out hc6 hFb.out hFl.out).mono ?_); rintro e w7 ⟨rfl, hb7⟩; have HB7 := Aside0.mk (below_step HB6.out hb7); clear hb7)
          | (refine wpList_store_row rfl 24 _ _ rfl w7.heap.size _ rfl rfl 24 _ (blk_new _ _) (hs20.out _ (hm_len _ _)) (by rw [List.size_toArray, List.size_toArray, u8s_len, u8s_len, hm_len]; rfl) (all_one (u8s_one _)) ?_)
          | (refine wpList_load_row rfl 24 _ rfl w7.heap.size rfl 24 _ (0, 0) _ (setRow_heap _ _ _ _ _ _ (blk_new _ _)) Try.underlying24 rfl (hs20.out _ (hm_len _ _)) ?_)
          | (refine wpList_store_row rfl 24 _ _ rfl (w7.heap.size + 1) _ rfl rfl 24 _ (blk_new_at _ _ _ (by rw [setRow_size]; simp)) (hs20.out _ (hm_len _ _)) (by rw [List.size_toArray, List.size_toArray, u8s_len, u8s_len, hm_len]; rfl) (all_one (u8s_one _)) ?_)
          | fail)
        generalize hw8 : World.setRow _ _ _ = w8
        have hsU : wr.heap.size ≤ w7.heap.size := HB7.out.size
        generalize hU : w7.heap.size = U at hsU ⊢
        have HU8 : Aside0 (w8.heap[U]? = some (.cells (u8s (uu l0 F 0)).toArray 24 (0, 0))) := ⟨by subst hU; rw [← hw8, setRow_other _ _ _ _ (by omega)]; exact blk_alloc (setRow_heap _ _ _ _ _ _ (blk_new _ _)) _⟩
        have HT8 : Aside0 (w8.heap[U + 1]? = some (.cells (u8s (tt l0 F 0)).toArray 24 (0, 0))) := ⟨by subst hU; rw [← hw8]; exact setRow_heap _ _ _ _ _ _ (blk_new_at _ _ _ (by rw [setRow_size]; simp))⟩
        have HB8 : Aside0 (Below wr.heap.size wr w8) := ⟨by subst hU; rw [← hw8]; exact below_setRow (below_alloc (below_setRow (below_alloc HB7.out _) hsU _) _) (by omega) _⟩
        clear hw8 hU HC6 HB6 HB7 HI6 HJ6
        obtain ⟨wo, rfl⟩ : ∃ wo : World, wo = wr := ⟨_, rfl⟩
        obtain ⟨gO, hgO⟩ : ∃ x, x = gk := ⟨_, rfl⟩
        have hgk : Aside0 (gO + n = (L + 19) / 20) := ⟨by rw [hgO]; exact hgk.out⟩
        replace hgO := Aside0.mk hgO
        have hrb : (1 : Int) ≤ rounds := by omega
        go_upto_block 2 with fail
        go_cut [] (fun wq => Aside0 (wq.heap[U + 1]? = some (.cells (u8s (tt l0 F r)).toArray 24 (0, 0))) ∧ Aside0 (Below wo.heap.size wo wq))
        case first =>
          go_wp2_with fail
          go_loopg [59] r (fun gq v59 wq => ∃ j : Nat, v59 = .int .i64 j ∧ Aside0 (gq + j = r) ∧ j ≤ r ∧ Aside0 (wq.heap[U]? = some (.cells (u8s (uu l0 F j)).toArray 24 (0, 0))) ∧ Aside0 (wq.heap[U + 1]? = some (.cells (u8s (tt l0 F j)).toArray 24 (0, 0))) ∧ Aside0 (Below wo.heap.size wo wq))
          case atStart => exact ⟨0, rfl, ⟨rfl⟩, by omega, HU8, HT8, HB8⟩
          case round =>
            clear HU8 HT8 HB8
            obtain ⟨j, rfl, hgq, hj, HU, HT, HBq⟩ := hrel
            by_cases hjl : j < r
            · have j1 : (j : Int) < rounds - 1 := by have := HRR.out; omega
              have HIq := Aside0.mk (blk_below HI.out HBq.out)
              have HJq := Aside0.mk (blk_below HJ.out HBq.out)
              have hul := Aside0.mk (uu_len l0 F j)
              have hub := Aside0.mk (uu_byte l0 F j)
              have hxs := Aside0.mk (fun i => xz_step (tt l0 F j) (uu l0 F (j + 1)) i (tt_len _ _ _) (uu_len _ _ _))
              have hxg := Aside0.mk (fun i => xz_get (tt l0 F j) (uu l0 F (j + 1)) i (tt_len _ _ _) (uu_len _ _ _))
              have hxm := Aside0.mk (fun i => xz_mid_len (tt l0 F j) (uu l0 F (j + 1)) i (tt_len _ _ _) (uu_len _ _ _))
              have hxl := Aside0.mk (xz_len (tt l0 F j) (uu l0 F (j + 1)) (tt_len _ _ _) (uu_len _ _ _))
              have htl := Aside0.mk (tt_len l0 F j)
              have hul2 := Aside0.mk (uu_len l0 F (j + 1))
              have huu : Aside0 (hm l0 (uu l0 F j) = uu l0 F (j + 1)) := ⟨rfl⟩
              have htt : Aside0 (tt l0 F (j + 1) = xz (tt l0 F j) (uu l0 F (j + 1))) := ⟨rfl⟩
              go_upto_region 13 with fail
              refine wp_region_still_tail 3 (by kernel_rfl) (by kernel_rfl) ?_
              simp only [List.take_succ_cons, List.take_zero, List.drop_succ_cons, List.drop_zero]
              refine wpStill_load_row (by rfl) 49 _ rfl w2.heap.size (by rfl) 49 _ (0, 0) _ HIq.out Try.underlying49 rfl e1.out ?_
              refine wpStill_load_row (by rfl) 49 _ rfl (w2.heap.size + 1) (by rfl) 49 _ (0, 0) _ HJq.out Try.underlying49 rfl f1.out ?_
              still_step
              refine wpStill_nil ?_
              change wpList _ _ _ _ _ wr.drew
              generalize hwd : wr.drew = w10
              have HU10 : Aside0 (w10.heap[U]? = some (.cells (u8s (uu l0 F j)).toArray 24 (0, 0))) := ⟨by rw [← hwd]; exact HU.out⟩
              have HT10 : Aside0 (w10.heap[U + 1]? = some (.cells (u8s (tt l0 F j)).toArray 24 (0, 0))) := ⟨by rw [← hwd]; exact HT.out⟩
              have HB10 : Aside0 (Below wo.heap.size wo w10) := ⟨by rw [← hwd]; exact below_drew HBq.out⟩
              clear hwd HU HT HBq HIq HJq
              have HC10 : Aside0 (Kd.C (Kd.int .u8) w10 (some ⟨U, 0, none⟩) 20 (uu l0 F j)) := ⟨by have := C_rowT HU10.out (by rw [hul.out]; decide); rw [hul.out] at this; exact this⟩
              have hsk := Aside0.mk (sum_key20 l0 _ _ (some ⟨U, 0, none⟩) 20 (uu l0 F j) w10 HK.out HC10.out hul.out (Nat.le_refl _) hub.out)
              have hsu := blk_lt HU10.out
              have hst := blk_lt HT10.out
              go_upto_block 4 with (first
                | (go_at_call 30; (with_reducible refine hsk.out.mono ?_); rintro e w11 ⟨rfl, hb11⟩; have HU11 := Aside0.mk (blk_below HU10.out hb11); have HT11 := Aside0.mk (blk_below HT10.out hb11); have HB11 := Aside0.mk (below_step HB10.out hb11); clear hb11)
                | (refine wpList_store_row rfl 24 _ _ rfl U _ rfl rfl 24 _ HU11.out (hs20.out _ (hm_len _ _)) (by rw [List.size_toArray, List.size_toArray, u8s_len, u8s_len, hm_len, hul.out]) (all_one (u8s_one _)) ?_)
                | fail)
              rw [huu.out]
              generalize hw12 : World.setRow _ _ _ = w12
              have HU12 : Aside0 (w12.heap[U]? = some (.cells (u8s (uu l0 F (j + 1))).toArray 24 (0, 0))) := ⟨by rw [← hw12]; exact setRow_heap _ _ _ _ _ _ HU11.out⟩
              have HT12 : Aside0 (w12.heap[U + 1]? = some (.cells (u8s (tt l0 F j)).toArray 24 (0, 0))) := ⟨by rw [← hw12, setRow_other _ _ _ _ (by omega)]; exact HT11.out⟩
              have HB12 : Aside0 (Below wo.heap.size wo w12) := ⟨by rw [← hw12]; exact below_setRow HB11.out hsU _⟩
              clear hw12 HU10 HT10 HB10 HU11 HT11 HB11 HC10 hsk
              obtain ⟨gM, hgM⟩ : ∃ x, x = gk := ⟨_, rfl⟩
              have hgq : Aside0 (gM + j = r) := ⟨by rw [hgM]; exact hgq.out⟩
              replace hgM := Aside0.mk hgM
              generalize hT0 : tt l0 F j = t0 at *
              generalize hU0 : uu l0 F (j + 1) = u1 at *
              generalize hX0 : xz t0 u1 = x1 at *
              replace hT0 := Aside0.mk hT0
              replace hU0 := Aside0.mk hU0
              replace hX0 := Aside0.mk hX0
              go_wp2_with fail
              go_loopg [65] 20 (fun gp v65 wp => ∃ k : Nat, v65 = .int .i64 k ∧ Aside0 (gp + k = 20) ∧ k ≤ 20 ∧ Aside0 (wp.heap[U]? = some (.cells (u8s u1).toArray 24 (0, 0))) ∧ Aside0 (wp.heap[U + 1]? = some (.cells (u8s (x1.take k ++ t0.drop k)).toArray 24 (0, 0))) ∧ Aside0 (Below wo.heap.size wo wp))
              case atStart => exact ⟨0, rfl, ⟨rfl⟩, by omega, HU12, ⟨by rw [List.take_zero, List.drop_zero, List.nil_append]; exact HT12.out⟩, HB12⟩
              case round =>
                clear HU12 HT12 HB12
                obtain ⟨k, rfl, hgp, hk, HU, HT, HBp⟩ := hrel
                by_cases hkl : k < 20
                · have kk1 : (k : Int) < 20 := by omega
                  have kk0 : (0 : Int) ≤ (k : Int) := by omega
                  have cT : wr.cell? ⟨U + 1, k, none⟩ = some (.int .u8 (t0.getD k 0)) := (blk_cell HT.out k).trans ((u8_get _ _ (by rw [hxm.out k (by omega)]; exact hkl)).trans (by rw [hxg.out k hkl]))
                  have cU : wr.cell? ⟨U, k, none⟩ = some (.int .u8 (u1.getD k 0)) := (blk_cell HU.out k).trans (u8_get _ _ (by rw [hul2.out]; exact hkl))
                  have fT := blk_frozen HT.out k
                  have hstp := Aside0.mk (hxs.out k hkl)
                  generalize t0.getD k 0 = ya at cT hstp
                  generalize u1.getD k 0 = yb at cU hstp
                  go_upto_region 17 with fail
                  go_still_tail 8, (by kernel_rfl)
                  change wpList _ _ _ _ _ wr.drew
                  generalize hwd : wr.drew = w13
                  have HU13 : Aside0 (w13.heap[U]? = some (.cells (u8s u1).toArray 24 (0, 0))) := ⟨by rw [← hwd]; exact HU.out⟩
                  have HT13 : Aside0 (w13.heap[U + 1]? = some (.cells (u8s (x1.take k ++ t0.drop k)).toArray 24 (0, 0))) := ⟨by rw [← hwd]; exact HT.out⟩
                  have HB13 : Aside0 (Below wo.heap.size wo w13) := ⟨by rw [← hwd]; exact below_drew HBp.out⟩
                  have cT3 : w13.cell? ⟨U + 1, k, none⟩ = some (.int .u8 ya) := by rw [← hwd]; exact cT
                  have fT3 := blk_frozen HT13.out k
                  clear hwd cT cU fT HU HT HBp
                  go_wp2_with fail
                  go_roundg (gk - 1)
                  case measure => have := hgp.out; omega
                  case rel =>
                    refine ⟨k + 1, by go_num, ⟨by have := hgp.out; omega⟩, by omega, ⟨blk_far HU13.out (by simp) _⟩, ⟨?_⟩, ⟨below_set HB13.out (by omega)⟩⟩
                    refine blk_put HT13.out _ _ ?_
                    rw [u8_set, hstp.out]
                · have hke := Aside0.mk (show k = 20 by omega)
                  have kk1 : ¬ (k : Int) < 20 := by omega
                  go_wp2_with fail
                  go_roundg (gM - 1)
                  case measure => have := hgq.out; have := hgM.out; omega
                  case rel =>
                    refine ⟨j + 1, by go_num, ⟨by have := hgq.out; omega⟩, by omega, ⟨by rw [hU0.out]; exact HU.out⟩, ⟨?_⟩, HBp⟩
                    rw [htt.out]
                    have := HT.out
                    rw [hke.out, List.take_of_length_le (by rw [hxl.out]; exact Nat.le_refl _), List.drop_of_length_le (by rw [htl.out]; exact Nat.le_refl _), List.append_nil] at this
                    exact this
            · have hje := Aside0.mk (show j = r by omega)
              have j1 : ¬ (j : Int) < rounds - 1 := by have := HRR.out; omega
              go_wp2_with fail
              go_meet
              exact ⟨by rw [← hje.out]; exact HT, HBq⟩
        case rest =>
          clear HU8 HT8 HB8
          obtain ⟨HT, HBq⟩ := hcut
          have htl := Aside0.mk (tt_len l0 F r)
          have hnx : Aside0 (blocks l0 l1 r (n + 1) = blocks l0 l1 r n ++ tt l0 F r) := ⟨by rw [← hF.out]; rfl⟩
          have hbl := Aside0.mk (blocks_len l0 l1 r n)
          have hbl2 := Aside0.mk (blocks_len l0 l1 r (n + 1))
          generalize tt l0 F r = t0 at HT htl hnx
          have HOc := Aside0.mk (Kd.R_below HO.out HBq.out)
          have HBc := Aside0.mk (below_step HB.out HBq.out)
          have HIc := Aside0.mk (blk_below HI.out HBq.out)
          have HJc := Aside0.mk (blk_below HJ.out HBq.out)
          have hI1 := blk_lt HI.out
          have hJ1 := blk_lt HJ.out
          have HCt : Aside0 (Kd.C (Kd.int .u8) wc (some ⟨U + 1, 0, none⟩) 20 t0) := ⟨by have := C_rowT HT.out (by rw [htl.out]; decide); rw [htl.out] at this; exact this⟩
          have hM2 : Aside0 (((blocks l0 l1 r n).length + 20) * 1 ≤ 140737488355328) := ⟨by rw [hbl.out]; omega⟩
          have HIt := Aside0.mk (Kd.R_types HOc.out HIc.out (by decide))
          go_wp2_with (first
            | (refine Kd.R_append_rows (Kd.int .u8) (w0 := w) w.heap.size rfl (.tmp 78) (.tmp 79) 22 5 (.int .u8 0) 1 rfl Try.underlying22 info5 rfl (by decide) (by decide) _ (blocks l0 l1 r n) t0 _ 20 20 (fun _ => True) (fun _ => False) rfl rfl HOc.out HCt.out (fun _ _ h => h) (fun _ h => h.elim) (fun _ _ => trivial) HBc.out HBc.out.size hM2.out ?_; intro v1 w15 ho hb hg hat; rw [← hnx.out] at ho; obtain ⟨A15, c15, hx⟩ := Kd.R_slice ho; subst hx; have HO15 := Aside0.mk ho; have HB15 := Aside0.mk hb; have HI15 := Aside0.mk ((hg.block _ (blk_lt HIc.out) (fun e => (HIt.out.1 _ e.symm).2 rfl)).trans HIc.out); have HJ15 := Aside0.mk ((hg.block _ (blk_lt HJc.out) (fun e => ((Kd.R_types HOc.out HJc.out (by decide)).1 _ e.symm).2 rfl)).trans HJc.out); clear ho hb hg hat)
            | fail)
          go_roundg (gO - 1)
          case measure => have := hgk.out; have := hgO.out; omega
          case rel =>
            refine ⟨n + 1, A15, c15, by rw [hbl2.out], by go_num, ⟨by have := hgk.out; omega⟩, by omega, ⟨?_⟩, HI15, HJ15, HB15⟩
            have := HO15.out
            rw [hbl2.out] at this
            exact this
      · have hne := Aside0.mk (show n = (L + 19) / 20 by omega)
        have i1 : ¬ ((20 * n : Nat) : Int) < (L : Int) := by omega
        have i2 : ¬ 20 * (n : Int) < (L : Int) := by omega
        go_wp2_with fail
        go_meet
        exact ⟨A, c, by rw [← hne.out], by rw [← hne.out]; exact HO, HB⟩
  case rest =>
    clear HI4 HO4 HB4
    obtain ⟨A, c, rfl, HO, HB⟩ := hcut
    have hbl := Aside0.mk (blocks_len l0 l1 r ((L + 19) / 20))
    have hpk : Aside0 (pkey l0 l1 r L = (blocks l0 l1 r ((L + 19) / 20)).take L) := ⟨rfl⟩
    have hpl := Aside0.mk (pkey_len l0 l1 r L)
    have hLm : L ≤ 20 * ((L + 19) / 20) := by omega
    generalize 20 * ((L + 19) / 20) = m at *
    generalize blocks l0 l1 r ((L + 19) / 20) = bs at *
    have hr := Kd.R_reads' HO.out
    have HR := Aside0.mk hr.2.2
    have hmc := hr.2.1
    clear hr
    have s1 : (0 : Int) ≤ (L : Int) := by omega
    have s2 : (L : Int) ≤ (c : Int) := by omega
    have HPL : Aside0 (Kd.C (Kd.int .u8) wc A (pkey l0 l1 r L).length (pkey l0 l1 r L)) := ⟨by rw [hpk.out]; exact Kd.C_take HR.out (by rw [hbl.out]; exact hLm)⟩
    have hfin : Aside0 (KeyV (pkey l0 l1 r L) w (.returned (.tuple #[.slice A L c, .bool true])) wc) := ⟨⟨A, c, by rw [hpl.out], by rw [hpl.out]; omega, HPL.out, HB.out⟩⟩
    rcases A with _ | ad
    · obtain ⟨e1, e2⟩ := R_none0 HO.out
      subst e1
      subst e2
      obtain rfl : L = 0 := by omega
      go_wp2_with fail
      go_ret2
      exact hfin.out
    · go_wp2_with fail
      go_ret2
      exact hfin.out
end Go.Proofs.Ytfgponalmhocmaa.D
