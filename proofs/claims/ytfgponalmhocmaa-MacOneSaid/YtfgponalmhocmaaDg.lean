/- The machine's side of the reference's sum: what a call comes to. -/
import Derived.Test.YtfgponalmhocmaaDf
namespace Go.Proofs.Ytfgponalmhocmaa.D
open Go.RowKit Go.Proofs.YtfgponalmhocmaaW.PrintWords Go.Proofs.YtfgponalmhocmaaW.PrintLast Go.Proofs.YtfgponalmhocmaaW.PrintMore
open Go.Proofs.Ytfgponalmhocmaa.HA Go.Proofs.Ytfgponalmhocmaa.V
set_option linter.unusedVariables false
set_option linter.unusedSimpArgs false

theorem padded_len (T : List Int) : (padded T).length = 64 * ((padded T).length / 64) := by
  have h : padz T.length = (119 - T.length % 64) % 64 := rfl
  have h8 : (be8 ((T.length : Int) * 8)).length = 8 := rfl
  have : (padded T).length = T.length + 1 + padz T.length + 8 := by simp only [padded, List.length_append, List.length_replicate, List.length_cons, List.length_nil, h8]
  omega
theorem padded_byte (T : List Int) (hb : ∀ x ∈ T, byteOk x) : ∀ x ∈ padded T, byteOk x := by
  intro x hx
  simp only [padded, List.mem_append] at hx
  rcases hx with ((hx | hx) | hx) | hx
  · exact hb x hx
  · simp at hx; subst hx; exact ⟨by decide, by decide⟩
  · rw [List.mem_replicate] at hx; rw [hx.2]; exact ⟨by decide, by decide⟩
  · simp only [be8, List.mem_cons, List.not_mem_nil, or_false] at hx
    rcases hx with rfl | rfl | rfl | rfl | rfl | rfl | rfl | rfl <;> exact ⟨Int.emod_nonneg _ (by decide), Int.emod_lt_of_pos _ (by decide)⟩
/-- A part of a row that is read. -/
theorem C_part {w : World} {ad : Addr} {l : List Int} (h : Kd.C (Kd.int .u8) w (some ad) l.length l) (a n : Nat) (ha : a + n ≤ l.length) : Kd.C (Kd.int .u8) w (some (ad.add a)) ((l.drop a).take n).length ((l.drop a).take n) := by
  refine ⟨rfl, by have := h.2.1; simp; omega, fun h0 => ⟨_, rfl, fun j p hj => ?_⟩⟩
  obtain ⟨ad', e, hc⟩ := h.2.2 (by simp at h0; omega)
  cases e
  have hj2 : j < n := by
    have := (List.getElem?_eq_some_iff.1 hj).1
    simp at this; omega
  have hj3 : l[a + j]? = some p := by
    rw [List.getElem?_take, if_pos hj2, List.getElem?_drop] at hj
    exact hj
  obtain ⟨cs, h1, h2, h3⟩ := hc (a + j) p hj3
  refine ⟨cs, h1, h2, fun i u hu => ?_⟩
  have := h3 i u hu
  have hs : (Kd.int IntKind.u8).sz = 1 := rfl
  rw [hs] at this ⊢
  rw [Addr.add_add]
  rw [show a + (j * 1 + i) = (a + j) * 1 + i by omega]
  exact this

theorem C_setRow {w : World} {ad : Addr} {l : List Int} {g : Nat} (cs : Array Value) (h : Kd.C (Kd.int .u8) w (some ad) l.length l) (hn : ad.block ≠ g) : Kd.C (Kd.int .u8) (w.setRow g cs) (some ad) l.length l := by
  refine ⟨h.1, h.2.1, fun h0 => ?_⟩
  obtain ⟨ad', e, hc⟩ := h.2.2 h0
  cases e
  refine ⟨ad, rfl, fun j p hj => ?_⟩
  obtain ⟨c, h1, h2, h3⟩ := hc j p hj
  refine ⟨c, h1, h2, fun i u hu => ?_⟩
  rw [cell_setRow_other _ _ _ _ (by rw [show (ad.add (j * (Kd.int IntKind.u8).sz + i)).block = ad.block by unfold Addr.add; split <;> rfl]; exact hn)]
  exact h3 i u hu
theorem refblock_calls64 (s0 s1 s2 s3 s4 : Int) (A : Option Addr) (c : Nat) (wt : List Int) (w : World) (hC : Kd.C (Kd.int .u8) w A 64 wt) (h64 : wt.length = 64) (hc : 64 ≤ c) (hb : ∀ x ∈ wt, byteOk x) :
    Calls Try.prog 27 #[.agg #[.int .u32 s0, .int .u32 s1, .int .u32 s2, .int .u32 s3, .int .u32 s4], .slice A 64 c] w fun e w' => e = .returned (.agg (u32s (comp [s0, s1, s2, s3, s4] wt)).toArray) ∧ Below w.heap.size w w' := by
  have := refblock_calls s0 s1 s2 s3 s4 A c wt w (by rw [h64]; exact hC) h64 (by omega) hb
  rw [h64] at this
  exact this
set_option maxHeartbeats 4000000 in
set_option maxRecDepth 100000 in
theorem refsum_calls (A : Option Addr) (c : Nat) (l : List Int) (w : World) (hC : Kd.C (Kd.int .u8) w A l.length l) (hc : l.length ≤ c) (hb : ∀ x ∈ l, byteOk x) (hs : l.length + 200 < 140737488355328) :
    Calls Try.prog 16 #[.slice A l.length c] w fun e w' => e = .returned (.agg (u8s (dig l)).toArray) ∧ Below w.heap.size w w' := by
  have HC := Aside0.mk hC
  have HF := Aside0.mk (msg_f l hs)
  have HPL := Aside0.mk (padded_len l)
  have HPB := Aside0.mk (padded_byte l hb)
  have hdig : Aside0 (dig l = (chain ((padded l).length / 64) (padded l)).flatMap be4) := ⟨rfl⟩
  clear hC hb
  have hz24 := zero24'
  go_enter Try.func16, Try.ntmps16
  go_upto_region 2 with (first
    | (refine wpList_store_row rfl 43 _ _ rfl (w.heap.size + 1) _ rfl rfl 43 _ (blk_new_at _ _ _ (by simp)) (by kernel_rfl) rfl rfl ?_)
    | fail)
  generalize hw1 : World.alloc _ _ = w1
  have HR1 : Aside0 (w1.heap[w.heap.size]? = some (.cells (u8s z20).toArray 24 (0, 0))) := ⟨by rw [← hw1]; exact blk_alloc (blk_new _ _) _⟩
  have HS1 : Aside0 (w1.heap[w.heap.size + 1]? = some (.cells (u32s (chain 0 (padded l))).toArray 43 (0, 0))) := ⟨by rw [← hw1]; exact blk_new_at _ _ _ (by simp)⟩
  have HB1 : Aside0 (Below w.heap.size w w1) := ⟨by rw [← hw1]; exact below_alloc (below_alloc (Below.refl _ _) _) _⟩
  have hs1 : w.heap.size + 2 ≤ w1.heap.size := by rw [← hw1]; simp
  clear hw1
  have HC1 : Aside0 (Kd.C (Kd.int .u8) w1 A l.length l) := ⟨Kd.C_below HC.out HB1.out⟩
  have hmn := Aside0.mk (show (padded l).length < 140737488355328 by
    have h : padz l.length = (119 - l.length % 64) % 64 := rfl
    have h8 : (be8 ((l.length : Int) * 8)).length = 8 := rfl
    have : (padded l).length = l.length + 1 + padz l.length + 8 := by simp only [padded, List.length_append, List.length_replicate, List.length_cons, List.length_nil, h8]
    omega)
  have hpos := Aside0.mk (show 0 < (padded l).length by
    have h8 : (be8 ((l.length : Int) * 8)).length = 8 := rfl
    have : (padded l).length = l.length + 1 + padz l.length + 8 := by simp only [padded, List.length_append, List.length_replicate, List.length_cons, List.length_nil, h8]
    omega)
  go_upto_region 3 with (go_at_call 26; (with_reducible refine (wainloadref10_message.calls _ _ _ l _ _ HC1.out hc HF.out).mono ?_); rintro e w2 ⟨v0, rfl, hR, hb⟩)
  have HR2 := Aside0.mk (blk_below HR1.out hb)
  have HS2 := Aside0.mk (blk_below HS1.out hb)
  have HB2 := Aside0.mk (below_then HB1.out (by omega) hb)
  have hs2 := Nat.le_trans hs1 hb.size
  obtain ⟨A2, c2, rfl, hc2, hC2⟩ := Kd.R_reads hR
  have hown := (Kd.R_bound hR).1
  clear hb hR HS1 HR1 HB1 HC1 HC HF hs hc
  generalize hP : padded l = P at *
  obtain ⟨ad, hAd, hL⟩ := lies_of_C hC2
  have := hAd hpos.out
  subst this
  have hapart : Aside0 (w.heap.size + 2 ≤ ad.block) := ⟨Nat.le_trans hs1 (hown ad.block rfl).2.1⟩
  clear hown hs1
  replace hC2 := Aside0.mk hC2
  clear hAd
  replace hL := Aside0.mk hL
  obtain ⟨N, hN⟩ : ∃ N, N = P.length / 64 := ⟨_, rfl⟩
  have hNP : P.length = 64 * N := by rw [hN]; exact HPL.out
  rw [← hN] at hdig
  rw [hNP] at hc2 ⊢
  have hNb : 64 * N < 140737488355328 := by have := hmn.out; omega
  replace hNP := Aside0.mk hNP
  clear HPL hN
  go_upto_block 0 with fail
  go_cut [5] (fun v5 wr => Aside0 (wr.heap[w.heap.size + 1]? = some (.cells (u32s (chain N P)).toArray 43 (0, 0))) ∧ Aside0 (wr.heap[w.heap.size]? = some (.cells (u8s z20).toArray 24 (0, 0))) ∧ Aside0 (Below w.heap.size w wr) ∧ w.heap.size + 2 ≤ wr.heap.size)
  case first =>
    go_wp2_with fail
    go_loopg [5] N (fun gk v5 wr => ∃ j : Nat, v5 = .int .i64 ((64 * j : Nat) : Int) ∧ Aside0 (gk + j = N) ∧ j ≤ N ∧ Aside0 (wr.heap[w.heap.size + 1]? = some (.cells (u32s (chain j P)).toArray 43 (0, 0))) ∧ Aside0 (wr.heap[w.heap.size]? = some (.cells (u8s z20).toArray 24 (0, 0))) ∧ Aside0 (Below w.heap.size w wr) ∧ Aside0 (w.heap.size + 2 ≤ wr.heap.size) ∧ Aside0 (Kd.C (Kd.int .u8) wr (some ad) P.length P))
    case atStart => exact ⟨0, rfl, ⟨rfl⟩, by omega, HS2, HR2, HB2, ⟨hs2⟩, hC2⟩
    case round =>
      clear HS2 HR2 HB2 hs2 hC2
      obtain ⟨j, rfl, hgk, hj, HS, HR, HB, hsz, HCP⟩ := hrel
      by_cases hjl : j < N
      · obtain ⟨s0, s1, s2, s3, s4, hst⟩ := five_of (chain j P) (chain_len j P)
        replace hst := Aside0.mk hst
        have cS (i : Nat) (hi : i < 5) : wr.cell? ⟨w.heap.size + 1, i, none⟩ = some (.int .u32 ([s0, s1, s2, s3, s4].getD i 0)) := by
          refine (blk_cell HS.out i).trans ?_
          rw [hst.out]
          exact u32_get _ i hi
        have d0 : wr.cell? ⟨w.heap.size + 1, 0, none⟩ = some (.int .u32 s0) := cS 0 (by omega)
        have d1 : wr.cell? ⟨w.heap.size + 1, 1, none⟩ = some (.int .u32 s1) := cS 1 (by omega)
        have d2 : wr.cell? ⟨w.heap.size + 1, 2, none⟩ = some (.int .u32 s2) := cS 2 (by omega)
        have d3 : wr.cell? ⟨w.heap.size + 1, 3, none⟩ = some (.int .u32 s3) := cS 3 (by omega)
        have d4 : wr.cell? ⟨w.heap.size + 1, 4, none⟩ = some (.int .u32 s4) := cS 4 (by omega)
        clear cS
        have k1 : IntKind.i64.wrap (64 * (j : Int) + 64) = 64 * (j : Int) + 64 := IntWalk.i64_in _ (by omega)
        have k2 : 64 * (j : Int) < 64 * (N : Int) := by omega
        have k3 : (0 : Int) ≤ 64 * (j : Int) := by omega
        have k4 : 64 * (j : Int) ≤ max (64 * (j : Int) + 64) 0 := by omega
        have k5 : 64 * (j : Int) + 64 ≤ (c2 : Int) := by omega
        have k6 : (0 : Int) ≤ 64 * (j : Int) + 64 := by omega
        have k7 : (64 * (j : Int)).toNat = 64 * j := by omega
        have k8 : (64 * (j : Int) + 64).toNat = 64 * j + 64 := by omega
        have k9 : ¬ c2 = 64 * j := by omega
        have k10 : 64 * (j : Int) ≤ 64 * (j : Int) + 64 := by omega
        go_upto_region 6 with fail
        go_still_tail 6, (by kernel_rfl)
        change wpList _ _ _ _ _ wr.drew
        generalize hwd : wr.drew = w3
        have HS3 : Aside0 (w3.heap[w.heap.size + 1]? = some (.cells (u32s (chain j P)).toArray 43 (0, 0))) := ⟨by rw [← hwd]; exact HS.out⟩
        have HR3 : Aside0 (w3.heap[w.heap.size]? = some (.cells (u8s z20).toArray 24 (0, 0))) := ⟨by rw [← hwd]; exact HR.out⟩
        have HB3 : Aside0 (Below w.heap.size w w3) := ⟨by rw [← hwd]; exact below_drew HB.out⟩
        have hsz3 : Aside0 (w.heap.size + 2 ≤ w3.heap.size) := ⟨by rw [← hwd]; exact hsz.out⟩
        have HC3 : Aside0 (Kd.C (Kd.int .u8) w3 (some ad) P.length P) := ⟨by rw [← hwd]; exact Kd.C_below HCP.out (below_drew (Below.refl _ _))⟩
        clear hwd HS HR HB hsz HCP d0 d1 d2 d3 d4
        have hpl : ((P.drop (64 * j)).take 64).length = 64 := by have := hNP.out; simp; omega
        replace hpl := Aside0.mk hpl
        have HCP : Aside0 (Kd.C (Kd.int .u8) w3 (some (ad.add (64 * j))) 64 ((P.drop (64 * j)).take 64)) := ⟨by have := C_part HC3.out (64 * j) 64 (by rw [hNP.out]; omega); rw [hpl.out] at this; exact this⟩
        have hby : Aside0 (∀ x ∈ (P.drop (64 * j)).take 64, byteOk x) := ⟨fun x hx => HPB.out x (List.mem_of_mem_drop (List.mem_of_mem_take hx))⟩
        have hcap : 64 ≤ c2 - 64 * j := by omega
        have hch : chain (j + 1) P = comp [s0, s1, s2, s3, s4] ((P.drop (64 * j)).take 64) := by rw [chain, hst.out]
        replace hch := Aside0.mk hch
        have hc5 : (u32s (comp [s0, s1, s2, s3, s4] ((P.drop (64 * j)).take 64))).toArray.size = 5 := by rw [List.size_toArray, u32s_len, comp_len]
        replace hc5 := Aside0.mk hc5
        have hrb := refblock_calls64 s0 s1 s2 s3 s4 (some (ad.add (64 * j))) (c2 - 64 * j) _ w3 HCP.out hpl.out hcap hby.out
        replace hrb := Aside0.mk hrb
        go_wp2_with (first
          | (go_at_call 27; (with_reducible refine hrb.out.mono ?_); rintro e w4 ⟨rfl, hb4⟩; have HS4 := Aside0.mk (blk_below HS3.out hb4); have HB4 := Aside0.mk hb4; clear hb4)
          | (refine wpList_store_row rfl 43 _ _ rfl (w.heap.size + 1) _ rfl rfl 43 _ HS4.out (by rw [hc5.out]; kernel_rfl) (by rw [hc5.out, List.size_toArray, u32s_len, chain_len]) (all_one (u32s_one _)) ?_)
          | fail)
        go_roundg (gk - 1)
        case measure => have := hgk.out; omega
        case rel =>
          refine ⟨j + 1, ?v, ⟨by have := hgk.out; omega⟩, by omega, ⟨?_⟩, ⟨?_⟩, ⟨?_⟩, ⟨?_⟩, ⟨?_⟩⟩
          case v => rw [show ((64 * (j + 1) : Nat) : Int) = 64 * (j : Int) + 64 by omega]
          · rw [hch.out]; exact setRow_heap _ _ _ _ _ _ HS4.out
          · rw [setRow_other _ _ _ _ (by omega)]; exact blk_below HR3.out HB4.out
          · exact below_setRow (below_then HB3.out (by have := hsz3.out; omega) HB4.out) (Nat.le_succ _) _
          · rw [setRow_size]; exact Nat.le_trans hsz3.out HB4.out.size
          · exact C_setRow _ (Kd.C_below HC3.out HB4.out) (by have := hapart.out; omega)
      · have hje := Aside0.mk (show j = N by omega)
        have k2 : ¬ 64 * (j : Int) < 64 * (N : Int) := by omega
        go_wp2_with fail
        go_meet
        exact ⟨⟨by rw [← hje.out]; exact HS.out⟩, HR, HB, hsz.out⟩
  case rest =>
    clear HS2 HR2 HB2 hs2 hC2 hL
    obtain ⟨HS, HR, HB, hsz⟩ := hcut
    obtain ⟨s0, s1, s2, s3, s4, hst⟩ := five_of (chain N P) (chain_len N P)
    replace hst := Aside0.mk hst
    generalize hfl : [s0, s1, s2, s3, s4].flatMap be4 = full
    have hfull : Aside0 (dig l = full) := ⟨by rw [hdig.out, hst.out]; exact hfl⟩
    have hfull20 : Aside0 (full.length = 20) := ⟨by rw [← hfl]; rfl⟩
    replace hfl := Aside0.mk hfl
    go_upto_region 8 with fail
    generalize hw6 : wc.alloc _ = w6
    have hE6 : Aside0 (w6.heap[wc.heap.size]? = some (.cells (u8s z20).toArray 24 (0, 0))) := ⟨by rw [← hw6]; exact blk_new _ _⟩
    have HR6 : Aside0 (w6.heap[w.heap.size]? = some (.cells (u8s z20).toArray 24 (0, 0))) := ⟨by rw [← hw6]; exact blk_alloc HR.out _⟩
    have HS6 : Aside0 (w6.heap[w.heap.size + 1]? = some (.cells (u32s [s0, s1, s2, s3, s4]).toArray 43 (0, 0))) := ⟨by rw [← hw6, ← hst.out]; exact blk_alloc HS.out _⟩
    have HB6 : Aside0 (Below w.heap.size w w6) := ⟨by rw [← hw6]; exact below_alloc HB.out _⟩
    generalize hE : wc.heap.size = E at hE6 hsz ⊢
    clear hw6 HR HS HB hE
    have hER : Aside0 (w.heap.size ≤ E ∧ E ≠ w.heap.size ∧ E ≠ w.heap.size + 1) := ⟨by omega, by omega, by omega⟩
    go_upto_block 2 with fail
    go_cut [] (fun wr => Aside0 (wr.heap[E]? = some (.cells (u8s full).toArray 24 (0, 0))) ∧ Aside0 (wr.heap[w.heap.size]? = some (.cells (u8s z20).toArray 24 (0, 0))) ∧ Aside0 (Below w.heap.size w wr))
    case first =>
      go_wp2_with fail
      go_loopg [7] 20 (fun gk v7 wr => ∃ i : Nat, v7 = .int .i64 i ∧ Aside0 (gk + i = 20) ∧ i ≤ 20 ∧ Aside0 (wr.heap[E]? = some (.cells (u8s (full.take i ++ z20.drop i)).toArray 24 (0, 0))) ∧ Aside0 (wr.heap[w.heap.size]? = some (.cells (u8s z20).toArray 24 (0, 0))) ∧ Aside0 (wr.heap[w.heap.size + 1]? = some (.cells (u32s [s0, s1, s2, s3, s4]).toArray 43 (0, 0))) ∧ Aside0 (Below w.heap.size w wr))
      case atStart => exact ⟨0, rfl, ⟨rfl⟩, by omega, ⟨by simpa using hE6.out⟩, HR6, HS6, HB6⟩
      case round =>
        clear hE6 HR6 HS6 HB6
        obtain ⟨i, rfl, hgk, hi, HE, HR, HS, HB⟩ := hrel
        by_cases hil : i < 20
        · have i1 : (i : Int) < 20 := by omega
          have i2 : Int.tdiv (i : Int) 4 = ((i / 4 : Nat) : Int) := by rw [Int.tdiv_eq_ediv_of_nonneg (by omega)]; omega
          have i3 : Int.tmod (i : Int) 4 = ((i % 4 : Nat) : Int) := by rw [Int.tmod_eq_emod_of_nonneg (by omega)]; omega
          have hl20 : (full.take i ++ z20.drop i).length = 20 := by have := hfull20.out; simp [z20]; omega
          have cE : wr.cell? ⟨E, i, none⟩ = some (.int .u8 (z20.getD i 0)) := (blk_cell HE.out _).trans ((u8_get _ _ (by rw [hl20]; omega)).trans (by rw [mid_get _ _ _ (by rw [hfull20.out]; omega)]))
          have fE := blk_frozen HE.out i
          have cS : wr.cell? ⟨w.heap.size + 1, i / 4, none⟩ = some (.int .u32 ([s0, s1, s2, s3, s4].getD (i / 4) 0)) := (blk_cell HS.out _).trans (u32_get _ _ (show i / 4 < 5 by omega))
          clear hl20
          go_upto_region 11 with fail
          go_wp2_with fail
          go_roundg (gk - 1)
          case measure => have := hgk.out; omega
          case rel =>
            refine ⟨i + 1, by go_num, ⟨by have := hgk.out; omega⟩, by omega, ⟨?_⟩, ⟨blk_far HR.out (by have := hER.out.2.1; exact fun h => this h.symm) _⟩, ⟨blk_far HS.out (by have := hER.out.2.2; exact fun h => this h.symm) _⟩, ⟨below_set HB.out hER.out.1⟩⟩
            refine blk_put HE.out _ _ ?_
            rw [u8_set]
            refine congrArg (fun l => (u8s l).toArray) ?_
            refine mid_set _ _ _ _ (by rw [hfull20.out]; omega) (by simp [z20]; omega) ?_
            have h := five_get s0 s1 s2 s3 s4 (i / 4) (i % 4) (by omega) (by omega)
            rw [← hfl.out, show (4 * (i / 4) + i % 4) = i by omega] at *
            rw [h, List.getD_eq_getElem?_getD]
        · have hie := Aside0.mk (show i = 20 by omega)
          have i1 : ¬ (i : Int) < 20 := by omega
          go_wp2_with fail
          go_meet
          refine ⟨⟨?_⟩, HR, HB⟩
          have := HE.out
          rw [hie.out, List.take_of_length_le (by rw [hfull20.out]; exact Nat.le_refl _), List.drop_of_length_le (by simp [z20]), List.append_nil] at this
          exact this
    case rest =>
      clear hE6 HR6 HS6 HB6
      obtain ⟨HE, HR, HB⟩ := hcut
      go_upto_region 12 with fail
      have hsz20 : (u8s full).toArray.size = 20 := by simp [u8s_len, hfull20.out]
      go_wp2_with (first
        | (refine wpList_load_row rfl 24 _ rfl E rfl 24 _ (0, 0) _ HE.out Try.underlying24 rfl (by rw [hsz20]; kernel_rfl) ?_)
        | (refine wpList_store_row rfl 24 _ _ rfl w.heap.size _ rfl rfl 24 _ HR.out (by rw [hsz20]; kernel_rfl) (by rw [hsz20]; kernel_rfl) (all_one (u8s_one _)) ?_)
        | fail)
      have HR2 : Aside0 ((wc.setRow w.heap.size (u8s full).toArray).heap[w.heap.size]? = some (.cells (u8s full).toArray 24 (0, 0))) := ⟨setRow_heap _ _ _ _ _ _ HR.out⟩
      have HB2 : Aside0 (Below w.heap.size w (wc.setRow w.heap.size (u8s full).toArray)) := ⟨below_setRow HB.out (Nat.le_refl _) _⟩
      refine bodyPost_ret (results_cell_row rfl _ _ w.heap.size 24 _ (0, 0) _ rfl HR2.out Try.underlying24 rfl (by rw [hsz20]; kernel_rfl)) rfl ⟨?_, HB2.out⟩
      rw [hfull.out]
end Go.Proofs.Ytfgponalmhocmaa.D
