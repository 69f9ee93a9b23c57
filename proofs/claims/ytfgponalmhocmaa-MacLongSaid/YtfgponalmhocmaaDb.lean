/- The machine's side of Hash.block: what a call comes to. -/
import Derived.Test.YtfgponalmhocmaaDa
namespace Go.Proofs.Ytfgponalmhocmaa.D
open Go.RowKit Go.Proofs.YtfgponalmhocmaaW.PrintWords Go.Proofs.YtfgponalmhocmaaW.PrintLast Go.Proofs.YtfgponalmhocmaaW.PrintMore
open Go.Proofs.Ytfgponalmhocmaa.HA Go.Proofs.Ytfgponalmhocmaa.V
set_option linter.unusedVariables false
set_option linter.unusedSimpArgs false

theorem rnds_succ (w : List Int) (s : R5) (t : Nat) : rnds w s (t + 1) = rnd w t (rnds w s t) := rfl
theorem add5 (A F E K W : Int) : (A + F + E + K + W) % 4294967296 = ((((A + F) % 4294967296 + E) % 4294967296 + K) % 4294967296 + W) % 4294967296 := by omega
theorem mid_get (x s : List Int) (t : Nat) (h : t ≤ x.length) : (x.take t ++ s.drop t).getD t 0 = s.getD t 0 := by
  have e : (x.take t).length = t := by simp; omega
  simp [List.getD_eq_getElem?_getD, List.getElem?_append_right, e]
theorem mid_set (x s : List Int) (t : Nat) (v : Int) (hx : t < x.length) (hs : t < s.length) (hv : x.getD t 0 = v) : (x.take t ++ s.drop t).set t v = x.take (t + 1) ++ s.drop (t + 1) := by
  subst hv
  have e : (x.take t).length = t := by simp; omega
  have e1 : x.getD t 0 = x[t] := by simp [List.getD_eq_getElem?_getD, hx]
  rw [List.set_append_right _ _ (by omega), e, Nat.sub_self, List.drop_eq_getElem_cons hs, List.set_cons_zero, e1, List.take_add_one, List.getElem?_eq_getElem hx]
  simp only [Option.toList_some, List.append_assoc, List.singleton_append]
theorem mix_calls (t : Nat) (b c d : Int) (w : World) : Calls Try.prog 35 #[.int .i64 t, .int .u32 b, .int .u32 c, .int .u32 d] w fun e w' => e = .returned (.tuple #[.int .u32 (mixF t b c d), .int .u32 (mixK t)]) ∧ Drawn0 w w' := by
  refine digest_mix.calls _ _ _ _ _ _ w ?_
  unfold digest_mix.f mixF mixK
  by_cases h1 : t < 20
  · rw [if_pos (by omega), if_pos h1, if_pos h1]
  · rw [if_neg (by omega), if_neg h1, if_neg h1]
    by_cases h2 : t < 40
    · rw [if_pos (by omega), if_pos h2, if_pos h2]
    · rw [if_neg (by omega), if_neg h2, if_neg h2]
      by_cases h3 : t < 60
      · rw [if_pos (by omega), if_pos h3, if_pos h3]
      · rw [if_neg (by omega), if_neg h3, if_neg h3]

set_option maxHeartbeats 4000000 in
set_option maxRecDepth 100000 in
theorem block_calls (g : Nat) (st wt : List Int) (m a : Int) (w : World) (H : w.heap[g]? = some (.cells (hrow st wt m a) 49 (0, 0))) (h5 : st.length = 5) (h64 : wt.length = 64) (hb : ∀ x ∈ wt, byteOk x) :
    Calls Try.prog 28 #[.pointer (some ⟨g, 0, none⟩)] w fun e w' => e = .returned (.tuple #[]) ∧ w'.heap[g]? = some (.cells (hrow (comp st wt) wt 0 a) 49 (0, 0)) ∧ But g w w' := by
  have HG := Aside0.mk H
  have hgl := blk_lt H
  have HBY := Aside0.mk hb
  have HL5 := Aside0.mk h5
  have HL64 := Aside0.mk h64
  have HB := Aside0.mk (But.refl g w)
  clear H hb h5 h64
  have hz := zero58
  go_enter Try.func28, Try.ntmps28
  go_upto_region 0 with fail
  go_cut [2] (fun v2 wr => ∃ b : Nat, v2 = .pointer (some ⟨b, 0, none⟩) ∧ Aside0 (wr.heap[b]? = some (.cells (u32s (wds wt 80)).toArray 58 (0, 0))) ∧ Aside0 (wr.heap[g]? = some (.cells (hrow st wt m a) 49 (0, 0))) ∧ Aside0 (But g w wr))
  case first =>
    go_wp2_with (first
    | (go_at_call 34; (with_reducible refine (words_calls g st wt m a _ HG.out HL5.out HL64.out HBY.out).mono ?_); rintro e w1 ⟨rfl, hb⟩; have HG1 := Aside0.mk (blk_below HG.out hb); have HB1 := Aside0.mk (But.of_below (g := g) hb); have hsz : (u32s (wds wt 80)).toArray.size = 80 := (by simp [u32s_len, wds_len]); clear hb HB HG)
    | (refine wpList_store_row rfl 58 _ _ rfl w1.heap.size _ rfl rfl 58 _ (blk_new_at _ _ _ rfl) (by rw [hsz]; kernel_rfl) (by rw [hsz]; simp [u32s_len]) (all_one (u32s_one _)) ?_)
    | fail)
    go_meet
    have hgl1 := blk_lt HG1.out
    exact ⟨_, rfl, ⟨setRow_heap _ _ _ _ _ _ (blk_new_at _ _ _ rfl)⟩, ⟨by rw [setRow_other _ _ _ _ (by omega)]; exact blk_alloc HG1.out _⟩, ⟨(HB1.out.alloc _).rowPast _ HB1.out.size _⟩⟩
  case rest =>
  obtain ⟨b, rfl, HW2, HG2, HB2⟩ := hcut
  generalize hw2 : wc = w2 at *
  clear hw2
  go_upto_region 1 with fail
  have c0 : w2.cell? ⟨g, 0, none⟩ = some (.int .u32 (st.getD 0 0)) := (blk_cell HG2.out _).trans (hrow_st st wt m a HL5.out 0 (by omega))
  have c1 : w2.cell? ⟨g, 1, none⟩ = some (.int .u32 (st.getD 1 0)) := (blk_cell HG2.out _).trans (hrow_st st wt m a HL5.out 1 (by omega))
  have c2 : w2.cell? ⟨g, 2, none⟩ = some (.int .u32 (st.getD 2 0)) := (blk_cell HG2.out _).trans (hrow_st st wt m a HL5.out 2 (by omega))
  have c3 : w2.cell? ⟨g, 3, none⟩ = some (.int .u32 (st.getD 3 0)) := (blk_cell HG2.out _).trans (hrow_st st wt m a HL5.out 3 (by omega))
  have c4 : w2.cell? ⟨g, 4, none⟩ = some (.int .u32 (st.getD 4 0)) := (blk_cell HG2.out _).trans (hrow_st st wt m a HL5.out 4 (by omega))
  go_cut [2, 3, 4, 5, 6, 7] (fun v2 v3 v4 v5 v6 v7 wr => v2 = .pointer (some ⟨b, 0, none⟩) ∧ v3 = .int .u32 (st.getD 0 0) ∧ v4 = .int .u32 (st.getD 1 0) ∧ v5 = .int .u32 (st.getD 2 0) ∧ v6 = .int .u32 (st.getD 3 0) ∧ v7 = .int .u32 (st.getD 4 0) ∧ Aside0 (wr.heap[b]? = some (.cells (u32s (wds wt 80)).toArray 58 (0, 0))) ∧ Aside0 (wr.heap[g]? = some (.cells (hrow st wt m a) 49 (0, 0))) ∧ Aside0 (But g w wr))
  case first =>
    go_quiet (fail)
    go_wp2_with fail
    go_meet
    exact ⟨rfl, rfl, rfl, rfl, rfl, rfl, ⟨blk_drewN HW2.out _⟩, ⟨blk_drewN HG2.out _⟩, ⟨HB2.out.drewN _⟩⟩
  case rest =>
    obtain ⟨rfl, rfl, rfl, rfl, rfl, rfl, HW, HG, HB⟩ := hcut
    clear c0 c1 c2 c3 c4 HW2 HG2 HB2
    have hsz : (u32s (wds wt 80)).toArray.size = 80 := by simp [u32s_len, wds_len]
    go_upto_block 0 with (first
      | (refine wpList_load_row rfl 58 _ rfl b rfl 58 _ (0, 0) _ HW.out Try.underlying58 rfl (by rw [hsz]; kernel_rfl) ?_)
      | fail)
    have hwl := wds_len wt 80
    generalize hws : wds wt 80 = ws at hwl ⊢
    generalize hr : rnds ws (ofL st) 80 = rr
    have hr := Aside0.mk hr
    have hws := Aside0.mk hws
    have hwl := Aside0.mk hwl
    clear HW hsz
    go_cut [3, 4, 5, 6, 7] (fun v3 v4 v5 v6 v7 wr => v3 = .int .u32 rr.a ∧ v4 = .int .u32 rr.b ∧ v5 = .int .u32 rr.c ∧ v6 = .int .u32 rr.d ∧ v7 = .int .u32 rr.e ∧ Aside0 (wr.heap[g]? = some (.cells (hrow st wt m a) 49 (0, 0))) ∧ Aside0 (But g w wr))
    case first =>
      go_wp2_with fail
      go_loopg [3, 4, 5, 6, 7, 45] 80 (fun gk v3 v4 v5 v6 v7 v45 wr => ∃ t : Nat, ∃ r : R5, v45 = .int .i64 t ∧ Aside0 (gk + t = 80) ∧ t ≤ 80 ∧ Aside0 (r = rnds ws (ofL st) t) ∧ v3 = .int .u32 r.a ∧ v4 = .int .u32 r.b ∧ v5 = .int .u32 r.c ∧ v6 = .int .u32 r.d ∧ v7 = .int .u32 r.e ∧ Aside0 (wr.heap[g]? = some (.cells (hrow st wt m a) 49 (0, 0))) ∧ Aside0 (But g w wr))
      case atStart => exact ⟨0, _, rfl, ⟨rfl⟩, by omega, ⟨rfl⟩, by simp [rnds, ofL], by simp [rnds, ofL], by simp [rnds, ofL], by simp [rnds, ofL], by simp [rnds, ofL], HG, HB⟩
      case round =>
        clear HG HB
        obtain ⟨t, ⟨ra, rb, rc, rd, re⟩, rfl, hgk, ht, hre, rfl, rfl, rfl, rfl, rfl, HG, HB⟩ := hrel
        by_cases htl : t < 80
        · have hix := fun W => index_58 ws t (by omega) (by omega) hwl.out W
          have hti : (t : Int) < 80 := by omega
          have sp : IntKind.i64.wrap ((t : Int) + 1) = (t : Int) + 1 := IntWalk.i64_in _ (by omega)
          go_wp2_with (first
            | (go_at_call 35; (with_reducible refine (mix_calls t _ _ _ _).mono ?_); rintro e w' ⟨rfl, ⟨nd, rfl⟩⟩)
            | (go_at_call 36; (with_reducible refine (rot_calls _ _ _ (by decide) (by decide)).mono ?_); rintro e w' ⟨rfl, ⟨ne, rfl⟩⟩)
            | fail)
          go_roundg (gk - 1)
          case measure => have := hgk.out; omega
          case rel =>
            refine ⟨t + 1, rnd ws t ⟨ra, rb, rc, rd, re⟩, by go_num, ⟨by have := hgk.out; omega⟩, by omega, ⟨by rw [rnds_succ, ← hre.out]⟩, ?i5, by simp only [rnd], by simp only [rnd], by simp only [rnd], by simp only [rnd], ⟨blk_drewN HG.out _⟩, ⟨HB.out.drewN _⟩⟩
            case i5 =>
            have hlt : t < ws.length := by rw [hwl.out]; exact htl
            simp only [rnd, List.getD_eq_getElem?_getD, List.getElem?_eq_getElem hlt, Option.getD_some]
            exact congrArg (Value.int .u32) (add5 _ _ _ _ _)
        · have h80 := Aside0.mk (show t = 80 by omega)
          have hti : ¬ (t : Int) < 80 := by omega
          have htd : decide ((t : Int) < 80) = false := by simp; omega
          go_wp2_with fail
          go_meet
          have hrr : R5.mk ra rb rc rd re = rr := by rw [hre.out, h80.out]; exact hr.out
          subst hrr
          exact ⟨rfl, rfl, rfl, rfl, rfl, HG, HB⟩
    case rest =>
      clear HG HB
      obtain ⟨rfl, rfl, rfl, rfl, rfl, HG, HB⟩ := hcut
      go_upto_block 2 with fail
      have hrl : Aside0 (comp st wt = [(st.getD 0 0 + rr.a) % 4294967296, (st.getD 1 0 + rr.b) % 4294967296, (st.getD 2 0 + rr.c) % 4294967296, (st.getD 3 0 + rr.d) % 4294967296, (st.getD 4 0 + rr.e) % 4294967296]) := ⟨by rw [← hr.out, ← hws.out]; rfl⟩
      clear hr hws hwl
      obtain ⟨ra, rb, rc, rd, re⟩ := rr
      go_wp2_with fail
      go_loopg [80] 5 (fun gk v80 wr => ∃ t : Nat, v80 = .int .i64 t ∧ Aside0 (gk + t = 5) ∧ t ≤ 5 ∧ Aside0 (wr.heap[g]? = some (.cells (hrow ((comp st wt).take t ++ st.drop t) wt m a) 49 (0, 0))) ∧ Aside0 (But g w wr))
      case atStart => exact ⟨0, rfl, ⟨rfl⟩, by omega, ⟨by simpa using HG.out⟩, HB⟩
      case round =>
        clear HG HB
        obtain ⟨t, rfl, hgk, ht, HG, HB⟩ := hrel
        have hl5 : ((comp st wt).take t ++ st.drop t).length = 5 := by have := HL5.out; simp [comp_len]; omega
        have hl5 := Aside0.mk hl5
        by_cases htl : t < 5
        · have hix := index_43 ra rb rc rd re t (by omega)
          have hti : (t : Int) < 5 := by omega
          have nt : ((t : Int)).toNat = t := by omega
          have sp : IntKind.i64.wrap ((t : Int) + 1) = (t : Int) + 1 := IntWalk.i64_in _ (by omega)
          have cS : wr.cell? ⟨g, t, none⟩ = some (.int .u32 (st.getD t 0)) := (blk_cell HG.out t).trans ((hrow_st _ wt m a hl5.out t htl).trans (by rw [mid_get _ _ _ (by rw [comp_len]; omega)]))
          have fS := blk_frozen HG.out t
          go_upto_region 12 with fail
          go_still_tail 11, (by kernel_rfl)
          change wpList _ _ _ _ _ wr.drew
          generalize hwd : wr.drew = w2
          have HG2 : Aside0 (w2.heap[g]? = some (.cells (hrow ((comp st wt).take t ++ st.drop t) wt m a) 49 (0, 0))) := ⟨by rw [← hwd]; exact HG.out⟩
          have HB2 : Aside0 (But g w w2) := ⟨by rw [← hwd]; exact HB.out.drew⟩
          have cS2 : w2.cell? ⟨g, t, none⟩ = some (.int .u32 (st.getD t 0)) := by rw [← hwd]; exact cS
          have fS2 := blk_frozen HG2.out t
          clear hwd HG HB cS fS
          go_wp2_with fail
          go_roundg (gk - 1)
          case measure => have := hgk.out; omega
          case rel =>
            refine ⟨t + 1, by go_num, ⟨by have := hgk.out; omega⟩, by omega, ⟨?i5⟩, ⟨HB2.out.set _ _⟩⟩
            case i5 =>
            refine blk_put HG2.out t _ ?_
            rw [hrow_set_st _ _ _ _ hl5.out t htl, mid_set _ _ _ _ (by rw [comp_len]; omega) (by rw [HL5.out]; omega)]
            rw [hrl.out]
            rcases (show t = 0 ∨ t = 1 ∨ t = 2 ∨ t = 3 ∨ t = 4 by omega) with rfl | rfl | rfl | rfl | rfl <;> rfl
        · have h5 := Aside0.mk (show t = 5 by omega)
          have hti : ¬ (t : Int) < 5 := by omega
          have htd : decide ((t : Int) < 5) = false := by simp; omega
          have cM : wr.cell? ⟨g, 69, none⟩ = some (.int .i64 m) := (blk_cell HG.out 69).trans (hrow_m _ wt m a hl5.out HL64.out)
          have fM := blk_frozen HG.out 69
          go_wp2_with fail
          refine bodyPost_end (v := .tuple #[]) (by simp [results, Try.f28]) rfl ?_
          refine ⟨rfl, ?_, HB.out.set _ _⟩
          refine blk_put HG.out 69 _ ?_
          rw [hrow_set_m _ _ _ _ hl5.out HL64.out, h5.out]
          rw [List.take_of_length_le (by rw [comp_len]; exact Nat.le_refl _), List.drop_of_length_le (by rw [HL5.out]; exact Nat.le_refl _), List.append_nil]
end Go.Proofs.Ytfgponalmhocmaa.D
