/- The machine's side of the reference's block and sum: what a call comes to. -/
import Derived.Test.YtfgponalmhocmaaDe
namespace Go.Proofs.Ytfgponalmhocmaa.D
open Go.RowKit Go.Proofs.YtfgponalmhocmaaW.PrintWords Go.Proofs.YtfgponalmhocmaaW.PrintLast Go.Proofs.YtfgponalmhocmaaW.PrintMore
open Go.Proofs.Ytfgponalmhocmaa.HA Go.Proofs.Ytfgponalmhocmaa.V
set_option linter.unusedVariables false
set_option linter.unusedSimpArgs false

theorem Calls.quiet_drawn {P : Program} {f : FuncId} {args : Array Value} {w : World} {n : Nat} {v : Value} (h : Calls P f args (w.drewN n) fun e w' => e = .returned v ∧ Drawn0 (w.drewN n) w') : Calls P f args (w.drewN n) fun e w'' => e = .returned v ∧ ∃ m, w'' = w.drewN m :=
  h.mono fun _ _ ⟨he, ⟨m, hm⟩⟩ => ⟨he, n + m, by rw [hm, World.drewN_drewN]⟩

theorem left_calls (x n : Int) (w : World) (h0 : 0 ≤ n) (h1 : n ≤ 32) : Calls Try.prog 33 #[.int .u32 x, .int .i64 n] w fun e w' => e = .returned (.int .u32 (rot x n)) ∧ Drawn0 w w' :=
  wainloadref10_left.calls _ _ _ w (left_f x n h0 h1)
/-- Words that lie at an address. -/
def Lies32 (w : World) (ad : Addr) (l : List Int) : Prop := ∀ i, i < l.length → w.cell? (ad.add i) = some (.int .u32 (l.getD i 0))
theorem lies32_of_C {w : World} {A : Option Addr} {l : List Int} (h : Kd.C (Kd.int .u32) w A l.length l) (c : 0 < l.length) : ∃ ad : Addr, A = some ad ∧ Lies32 w ad l := by
  obtain ⟨ad, e, hc⟩ := h.2.2 c
  refine ⟨ad, e, fun i hi => ?_⟩
  obtain ⟨cs, hl, hr, hcell⟩ := hc i _ (List.getElem?_eq_getElem hi)
  have hr' : cs = [Value.int .u32 l[i]] := hr
  subst hr'
  have := hcell 0 _ rfl
  simpa [Kd.int, Kd.scalar, List.getD_eq_getElem?_getD, hi] using this

set_option maxHeartbeats 4000000 in
set_option maxRecDepth 100000 in
theorem refblock_calls (s0 s1 s2 s3 s4 : Int) (A : Option Addr) (c : Nat) (wt : List Int) (w : World) (hC : Kd.C (Kd.int .u8) w A wt.length wt) (h64 : wt.length = 64) (hc : wt.length ≤ c) (hb : ∀ x ∈ wt, byteOk x) :
    Calls Try.prog 27 #[.agg #[.int .u32 s0, .int .u32 s1, .int .u32 s2, .int .u32 s3, .int .u32 s4], .slice A wt.length c] w fun e w' => e = .returned (.agg (u32s (comp [s0, s1, s2, s3, s4] wt)).toArray) ∧ Below w.heap.size w w' := by
  have HC := Aside0.mk hC
  have HF := Aside0.mk (row_f wt h64 hb)
  have H64 := Aside0.mk h64
  clear hC hb h64
  go_enter Try.func27, Try.ntmps27
  go_upto_region 1 with fail
  generalize hw1 : World.alloc _ _ = w1
  have HS1 : Aside0 (w1.heap[w.heap.size]? = some (.cells #[.int .u32 s0, .int .u32 s1, .int .u32 s2, .int .u32 s3, .int .u32 s4] 43 (0, 0))) := ⟨by rw [← hw1]; exact blk_alloc (blk_new _ _) _⟩
  have HR1 : Aside0 (w1.heap[w.heap.size + 1]? = some (.cells #[.int .u32 0, .int .u32 0, .int .u32 0, .int .u32 0, .int .u32 0] 43 (0, 0))) := ⟨by rw [← hw1]; exact blk_new_at _ _ _ (by simp)⟩
  have HB1 : Aside0 (Below w.heap.size w w1) := ⟨by rw [← hw1]; exact below_alloc (below_alloc (Below.refl _ _) _) _⟩
  have hs1 : w.heap.size + 2 ≤ w1.heap.size := by rw [← hw1]; simp
  clear hw1
  have HC1 : Aside0 (Kd.C (Kd.int .u8) w1 A wt.length wt) := ⟨Kd.C_below HC.out HB1.out⟩
  go_upto_region 2 with (go_at_call 32; (with_reducible refine (wainloadref10_row.calls 82 _ _ wt _ _ HC1.out hc HF.out).mono ?_); rintro e w2 ⟨v0, rfl, hR, hb⟩)
  have HS2 := Aside0.mk (blk_below HS1.out hb)
  have HR2 := Aside0.mk (blk_below HR1.out hb)
  have HB2 := Aside0.mk (below_then HB1.out (by omega) hb)
  obtain ⟨A2, c2, rfl, hc2, hC2⟩ := Kd.R_reads hR
  obtain ⟨ad, rfl, hL⟩ := lies32_of_C hC2 (by rw [wds_len]; decide)
  clear hb hR HS1 HR1 HB1 hC2
  have hwl := wds_len wt 80
  generalize hws : wds wt 80 = ws at hwl hc2 hL ⊢
  generalize hr : rnds ws (ofL [s0, s1, s2, s3, s4]) 80 = rr
  replace hr := Aside0.mk hr
  replace hws := Aside0.mk hws
  replace hL := Aside0.mk hL
  rw [hwl] at hc2 ⊢
  replace hwl := Aside0.mk hwl
  have c0 : w2.cell? ⟨w.heap.size, 0, none⟩ = some (.int .u32 s0) := (blk_cell HS2.out 0).trans rfl
  have c1 : w2.cell? ⟨w.heap.size, 1, none⟩ = some (.int .u32 s1) := (blk_cell HS2.out 1).trans rfl
  have c2 : w2.cell? ⟨w.heap.size, 2, none⟩ = some (.int .u32 s2) := (blk_cell HS2.out 2).trans rfl
  have c3 : w2.cell? ⟨w.heap.size, 3, none⟩ = some (.int .u32 s3) := (blk_cell HS2.out 3).trans rfl
  have c4 : w2.cell? ⟨w.heap.size, 4, none⟩ = some (.int .u32 s4) := (blk_cell HS2.out 4).trans rfl
  go_upto_block 0 with fail
  clear c0 c1 c2 c3 c4
  go_cut [6, 7, 8, 9, 10] (fun v3 v4 v5 v6 v7 wr => v3 = .int .u32 rr.a ∧ v4 = .int .u32 rr.b ∧ v5 = .int .u32 rr.c ∧ v6 = .int .u32 rr.d ∧ v7 = .int .u32 rr.e ∧ Aside0 (∃ n, wr = w2.drewN n))
  case first =>
      go_wp2_with fail
      go_loopg [6, 7, 8, 9, 10, 11] 80 (fun gk v3 v4 v5 v6 v7 v45 wr => ∃ t : Nat, ∃ r : R5, v45 = .int .i64 t ∧ Aside0 (gk + t = 80) ∧ t ≤ 80 ∧ Aside0 (r = rnds ws (ofL [s0, s1, s2, s3, s4]) t) ∧ v3 = .int .u32 r.a ∧ v4 = .int .u32 r.b ∧ v5 = .int .u32 r.c ∧ v6 = .int .u32 r.d ∧ v7 = .int .u32 r.e ∧ Aside0 (∃ n, wr = w2.drewN n))
      case atStart => exact ⟨0, _, rfl, ⟨rfl⟩, by omega, ⟨rfl⟩, by simp [rnds, ofL], by simp [rnds, ofL], by simp [rnds, ofL], by simp [rnds, ofL], by simp [rnds, ofL], ⟨0, rfl⟩⟩
      case round =>
        obtain ⟨t, ⟨ra, rb, rc, rd, re⟩, rfl, hgk, ht, hre, rfl, rfl, rfl, rfl, rfl, hw⟩ := hrel
        by_cases htl : t < 80
        · have hti : (t : Int) < 80 := by omega
          have cl : wr.cell? (ad.add t) = some (.int .u32 (ws.getD t 0)) := by
            obtain ⟨n, rfl⟩ := hw.out
            exact hL.out t (by rw [hwl.out]; exact htl)
          have sp : IntKind.i64.wrap ((t : Int) + 1) = (t : Int) + 1 := IntWalk.i64_in _ (by omega)
          have nt : ((t : Int)).toNat = t := by omega
          have hlt : t < ws.length := by rw [hwl.out]; exact htl
          replace hlt := Aside0.mk hlt
          rcases (show t < 20 ∨ (¬ t < 20 ∧ t < 40) ∨ (¬ t < 20 ∧ ¬ t < 40 ∧ t < 60) ∨ (¬ t < 20 ∧ ¬ t < 40 ∧ ¬ t < 60) by omega) with h | ⟨h, h2⟩ | ⟨h, h2, h3⟩ | ⟨h, h2, h3⟩
          · have i20 : (t : Int) < 20 := by omega
            have j20 : decide ((t : Int) < 20) = true := by simp; omega
            go_wp2_with fail
            go_quiet ((go_at_call 33; exact Calls.quiet_drawn (left_calls _ _ _ (by decide) (by decide))))
            go_wp2_with (first
              | (go_at_call 33; (with_reducible refine (left_calls _ _ _ (by decide) (by decide)).mono ?_); rintro e w' ⟨rfl, ⟨ne, rfl⟩⟩)
              | fail)
            go_roundg (gk - 1)
            case measure => have := hgk.out; omega
            case rel =>
              refine ⟨t + 1, rnd ws t ⟨ra, rb, rc, rd, re⟩, by go_num, ⟨by have := hgk.out; omega⟩, by omega, ⟨by rw [rnds_succ, ← hre.out]⟩, ?i5, by simp only [rnd], by simp only [rnd], by simp only [rnd], by simp only [rnd], ⟨?i10⟩⟩
              case i10 =>
                obtain ⟨n, rfl⟩ := hw.out
                exact ⟨_, by simp only [World.drewN_drewN]; rfl⟩
              case i5 =>
                have hg : ws[t]?.getD 0 = ws[t]'hlt.out := by rw [List.getElem?_eq_getElem hlt.out]; rfl
                simp only [rnd, mixF, mixK, if_pos h, List.getD_eq_getElem?_getD, List.getElem?_eq_getElem hlt.out, Option.getD_some]
                exact congrArg (Value.int .u32) (add5 _ _ _ _ _)
          · have i20 : ¬ (t : Int) < 20 := by omega
            have i40 : (t : Int) < 40 := by omega
            have j20 : decide ((t : Int) < 20) = false := by simp; omega
            have j40 : decide ((t : Int) < 40) = true := by simp; omega
            go_wp2_with fail
            go_quiet ((go_at_call 33; exact Calls.quiet_drawn (left_calls _ _ _ (by decide) (by decide))))
            go_wp2_with (first
              | (go_at_call 33; (with_reducible refine (left_calls _ _ _ (by decide) (by decide)).mono ?_); rintro e w' ⟨rfl, ⟨ne, rfl⟩⟩)
              | fail)
            go_roundg (gk - 1)
            case measure => have := hgk.out; omega
            case rel =>
              refine ⟨t + 1, rnd ws t ⟨ra, rb, rc, rd, re⟩, by go_num, ⟨by have := hgk.out; omega⟩, by omega, ⟨by rw [rnds_succ, ← hre.out]⟩, ?i5, by simp only [rnd], by simp only [rnd], by simp only [rnd], by simp only [rnd], ⟨?i10⟩⟩
              case i10 =>
                obtain ⟨n, rfl⟩ := hw.out
                exact ⟨_, by simp only [World.drewN_drewN]; rfl⟩
              case i5 =>
                have hg : ws[t]?.getD 0 = ws[t]'hlt.out := by rw [List.getElem?_eq_getElem hlt.out]; rfl
                simp only [rnd, mixF, mixK, if_neg h, if_pos h2, List.getD_eq_getElem?_getD, List.getElem?_eq_getElem hlt.out, Option.getD_some]
                exact congrArg (Value.int .u32) (add5 _ _ _ _ _)
          · have i20 : ¬ (t : Int) < 20 := by omega
            have i40 : ¬ (t : Int) < 40 := by omega
            have i60 : (t : Int) < 60 := by omega
            have j20 : decide ((t : Int) < 20) = false := by simp; omega
            have j40 : decide ((t : Int) < 40) = false := by simp; omega
            have j60 : decide ((t : Int) < 60) = true := by simp; omega
            go_wp2_with fail
            go_quiet ((go_at_call 33; exact Calls.quiet_drawn (left_calls _ _ _ (by decide) (by decide))))
            go_wp2_with (first
              | (go_at_call 33; (with_reducible refine (left_calls _ _ _ (by decide) (by decide)).mono ?_); rintro e w' ⟨rfl, ⟨ne, rfl⟩⟩)
              | fail)
            go_roundg (gk - 1)
            case measure => have := hgk.out; omega
            case rel =>
              refine ⟨t + 1, rnd ws t ⟨ra, rb, rc, rd, re⟩, by go_num, ⟨by have := hgk.out; omega⟩, by omega, ⟨by rw [rnds_succ, ← hre.out]⟩, ?i5, by simp only [rnd], by simp only [rnd], by simp only [rnd], by simp only [rnd], ⟨?i10⟩⟩
              case i10 =>
                obtain ⟨n, rfl⟩ := hw.out
                exact ⟨_, by simp only [World.drewN_drewN]; rfl⟩
              case i5 =>
                have hg : ws[t]?.getD 0 = ws[t]'hlt.out := by rw [List.getElem?_eq_getElem hlt.out]; rfl
                simp only [rnd, mixF, mixK, if_neg h, if_neg h2, if_pos h3, List.getD_eq_getElem?_getD, List.getElem?_eq_getElem hlt.out, Option.getD_some]
                exact congrArg (Value.int .u32) (add5 _ _ _ _ _)
          · have i20 : ¬ (t : Int) < 20 := by omega
            have i40 : ¬ (t : Int) < 40 := by omega
            have i60 : ¬ (t : Int) < 60 := by omega
            have j20 : decide ((t : Int) < 20) = false := by simp; omega
            have j40 : decide ((t : Int) < 40) = false := by simp; omega
            have j60 : decide ((t : Int) < 60) = false := by simp; omega
            go_wp2_with fail
            go_quiet ((go_at_call 33; exact Calls.quiet_drawn (left_calls _ _ _ (by decide) (by decide))))
            go_wp2_with (first
              | (go_at_call 33; (with_reducible refine (left_calls _ _ _ (by decide) (by decide)).mono ?_); rintro e w' ⟨rfl, ⟨ne, rfl⟩⟩)
              | fail)
            go_roundg (gk - 1)
            case measure => have := hgk.out; omega
            case rel =>
              refine ⟨t + 1, rnd ws t ⟨ra, rb, rc, rd, re⟩, by go_num, ⟨by have := hgk.out; omega⟩, by omega, ⟨by rw [rnds_succ, ← hre.out]⟩, ?i5, by simp only [rnd], by simp only [rnd], by simp only [rnd], by simp only [rnd], ⟨?i10⟩⟩
              case i10 =>
                obtain ⟨n, rfl⟩ := hw.out
                exact ⟨_, by simp only [World.drewN_drewN]; rfl⟩
              case i5 =>
                have hg : ws[t]?.getD 0 = ws[t]'hlt.out := by rw [List.getElem?_eq_getElem hlt.out]; rfl
                simp only [rnd, mixF, mixK, if_neg h, if_neg h2, if_neg h3, List.getD_eq_getElem?_getD, List.getElem?_eq_getElem hlt.out, Option.getD_some]
                exact congrArg (Value.int .u32) (add5 _ _ _ _ _)
        · have h80 := Aside0.mk (show t = 80 by omega)
          have hti : ¬ (t : Int) < 80 := by omega
          have htd : decide ((t : Int) < 80) = false := by simp; omega
          go_wp2_with fail
          go_meet
          have hrr : R5.mk ra rb rc rd re = rr := by rw [hre.out, h80.out]; exact hr.out
          subst hrr
          exact ⟨rfl, rfl, rfl, rfl, rfl, hw⟩
  case rest =>
      obtain ⟨rfl, rfl, rfl, rfl, rfl, hw⟩ := hcut
      obtain ⟨n, rfl⟩ := hw.out
      have HS3 := Aside0.mk (blk_drewN HS2.out n)
      have HR3 := Aside0.mk (blk_drewN HR2.out n)
      have HB3 := Aside0.mk (pw_below_drewN HB2.out n)
      clear HS2 HR2 HB2 hw
      generalize w2.drewN n = w3 at HS3 HR3 HB3 ⊢
      have c0 : w3.cell? ⟨w.heap.size, 0, none⟩ = some (.int .u32 s0) := (blk_cell HS3.out 0).trans rfl
      have c1 : w3.cell? ⟨w.heap.size, 1, none⟩ = some (.int .u32 s1) := (blk_cell HS3.out 1).trans rfl
      have c2 : w3.cell? ⟨w.heap.size, 2, none⟩ = some (.int .u32 s2) := (blk_cell HS3.out 2).trans rfl
      have c3 : w3.cell? ⟨w.heap.size, 3, none⟩ = some (.int .u32 s3) := (blk_cell HS3.out 3).trans rfl
      have c4 : w3.cell? ⟨w.heap.size, 4, none⟩ = some (.int .u32 s4) := (blk_cell HS3.out 4).trans rfl
      obtain ⟨ra, rb, rc, rd, re⟩ := rr
      have hcomp : Aside0 (comp [s0, s1, s2, s3, s4] wt = [(s0 + ra) % 4294967296, (s1 + rb) % 4294967296, (s2 + rc) % 4294967296, (s3 + rd) % 4294967296, (s4 + re) % 4294967296]) := ⟨by
        have h := hr.out
        rw [← hws.out] at h
        simp only [comp, h]
        rfl⟩
      go_wp2_with (first
        | (refine wpList_store_row rfl 43 _ _ rfl (w.heap.size + 1) _ rfl rfl 43 _ HR3.out (by kernel_rfl) rfl (by simp; exact ⟨rfl, rfl, rfl, rfl, rfl⟩) ?_)
        | fail)
      generalize hcs : #[Value.int .u32 ((s0 + ra) % 4294967296), Value.int .u32 ((s1 + rb) % 4294967296), Value.int .u32 ((s2 + rc) % 4294967296), Value.int .u32 ((s3 + rd) % 4294967296), Value.int .u32 ((s4 + re) % 4294967296)] = cs
      have hcs5 : cs.size = 5 := by rw [← hcs]; rfl
      have HR4 := Aside0.mk (setRow_heap _ _ _ cs _ _ HR3.out)
      have HB4 := Aside0.mk (below_setRow HB3.out (Nat.le_succ _) cs)
      refine bodyPost_ret (v := .agg cs) ?_ rfl ⟨?_, HB4.out⟩
      · exact results_cell_row rfl _ _ (w.heap.size + 1) 43 cs (0, 0) _ rfl HR4.out Try.underlying43 rfl (by rw [hcs5]; kernel_rfl)
      rw [hcomp.out, ← hcs]
      rfl
end Go.Proofs.Ytfgponalmhocmaa.D
