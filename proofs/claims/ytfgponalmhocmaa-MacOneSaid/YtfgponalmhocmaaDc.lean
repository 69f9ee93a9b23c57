/- The machine's side of Hash.Write: what a call comes to. -/
import Derived.Test.YtfgponalmhocmaaDb
import Derived.Test.YtfgponalmhocmaaVb
import Derived.Laws.CopyRow
namespace Go.Proofs.Ytfgponalmhocmaa.D
open Go.RowKit Go.Proofs.YtfgponalmhocmaaW.PrintWords Go.Proofs.YtfgponalmhocmaaW.PrintLast Go.Proofs.YtfgponalmhocmaaW.PrintMore
open Go.Proofs.Ytfgponalmhocmaa.HA Go.Proofs.Ytfgponalmhocmaa.V
set_option linter.unusedVariables false
set_option linter.unusedSimpArgs false

/-- Bytes that lie at an address. -/
def Lies (w : World) (ad : Addr) (l : List Int) : Prop := ∀ i, i < l.length → w.cell? (ad.add i) = some (.int .u8 (l.getD i 0))
theorem lies_of_C {w : World} {A : Option Addr} {l : List Int} (h : Kd.C (Kd.int .u8) w A l.length l) : ∃ ad : Addr, (0 < l.length → A = some ad) ∧ Lies w ad l := by
  by_cases c : 0 < l.length
  · obtain ⟨ad, e, hc⟩ := h.2.2 c
    refine ⟨ad, fun _ => e, fun i hi => ?_⟩
    obtain ⟨cs, hl, hr, hcell⟩ := hc i _ (List.getElem?_eq_getElem hi)
    have hr' : cs = [Value.int .u8 l[i]] := hr
    subst hr'
    have := hcell 0 _ rfl
    simpa [Kd.int, Kd.scalar, List.getD_eq_getElem?_getD, hi] using this
  · exact ⟨⟨0, 0, none⟩, fun h0 => absurd h0 c, fun i hi => absurd hi (by omega)⟩
theorem Lies.block_lt {w : World} {ad : Addr} {l : List Int} (h : Lies w ad l) (hl : 0 < l.length) : ad.block < w.heap.size := World.block_lt_of_cell? w (ad.add 0) (h 0 hl)
theorem Lies.but {w w1 : World} {ad : Addr} {l : List Int} {g : Nat} (h : Lies w ad l) (hg : 0 < l.length → ad.block ≠ g) (k : But g w w1) : Lies w1 ad l := by
  intro i hi
  have hb := k.block ad.block (h.block_lt (by omega)) (hg (by omega))
  have h1 := h i hi
  have e : (ad.add i).block = ad.block := by unfold Addr.add; split <;> rfl
  unfold World.cell? at h1 ⊢
  rw [e] at h1 ⊢
  rw [hb]
  exact h1
theorem slice_wait (g : Nat) (m : Int) (h0 : 0 ≤ m) (h1 : m < 64) (W : World) :
    (Instr.sliceAt 46 (.pointer (some ⟨g, 5, none⟩)) (some (.int .i64 m)) none none).run Try.prog W = .ok (.slice (some ⟨g, 5 + m.toNat, none⟩) (64 - m.toNat) (64 - m.toNat)) W := by
  have ht : Try.prog.underlying 46 = some (.array (Try.prog.arrayLen 46) (Try.prog.elem 46)) := by kernel_rfl
  have hal : Try.prog.arrayLen 46 = 64 := by kernel_rfl
  have hs : (sizeOf (Try.prog.elem 46)).run Try.prog W = .ok 1 W := by kernel_rfl
  rw [run_sliceAt_array_l W 46 _ ht .i64 m h0 (by rw [hal]; omega), hs, hal]
  have : ¬ (64 = m.toNat) := by omega
  simp [slicedAt, Addr.add, this]

set_option maxHeartbeats 2000000 in
set_option maxRecDepth 100000 in
theorem write_calls (g : Nat) (T st wt : List Int) (m : Nat) (a : Int) (A : Option Addr) (c : Nat) (l : List Int) (w : World)
    (H : w.heap[g]? = some (.cells (hrow st wt m a) 49 (0, 0))) (hF : Fed T st wt m) (hC : Kd.C (Kd.int .u8) w A l.length l) (hc : l.length ≤ c)
    (hA : 0 < l.length → ∀ ad, A = some ad → ad.block ≠ g) (hb : ∀ x ∈ l, byteOk x) (ha : 0 ≤ a ∧ a + l.length < 18446744073709551616) :
    Calls Try.prog 18 #[.pointer (some ⟨g, 0, none⟩), .slice A l.length c] w fun e w' => e = .returned (.tuple #[]) ∧
      (∃ st' wt' m', w'.heap[g]? = some (.cells (hrow st' wt' (m' : Nat) (a + l.length)) 49 (0, 0)) ∧ Fed (T ++ l) st' wt' m') ∧ But g w w' := by
  obtain ⟨ad, hAd, hL⟩ := lies_of_C hC
  have hlen := hC.2.1
  have hgA : 0 < l.length → ad.block ≠ g := fun h => hA h ad (hAd h)
  have HAD := Aside0.mk hAd
  have HL := Aside0.mk hL
  have HGA := Aside0.mk hgA
  have HG := Aside0.mk H
  have HF := Aside0.mk hF
  have HBY := Aside0.mk hb
  clear hAd hL hgA hA hF hb hC
  have ca : w.cell? ⟨g, 70, none⟩ = some (.int .u64 a) := (blk_cell HG.out 70).trans (hrow_a _ _ _ _ HF.out.st5 HF.out.len)
  have fa := blk_frozen HG.out 70
  have u1 : IntKind.u64.wrap (l.length : Int) = (l.length : Int) := by rw [IntKind.wrap_u64]; omega
  have u2 : IntKind.u64.wrap (a + (l.length : Int)) = a + (l.length : Int) := by rw [IntKind.wrap_u64]; omega
  clear H
  go_enter Try.func18, Try.ntmps18
  go_upto_block 0 with fail
  generalize hw1 : w.setCell _ _ = w1
  have HG1 : Aside0 (w1.heap[g]? = some (.cells (hrow st wt m (a + (l.length : Int))) 49 (0, 0))) := ⟨by rw [← hw1]; exact blk_put HG.out 70 _ (hrow_set_a _ _ _ _ HF.out.st5 HF.out.len _)⟩
  have HB1 : Aside0 (But g w w1) := ⟨by rw [← hw1]; exact (But.refl g w).set _ _⟩
  clear hw1 ca fa
  go_wp2_with fail
  go_loopg [1] l.length (fun gk v1 wr => ∃ k : Nat, ∃ A' : Option Addr, ∃ st wt m, v1 = .slice A' (l.length - k) (c - k) ∧ Aside0 (gk + k = l.length) ∧ k ≤ l.length ∧ Aside0 (k < l.length → A' = some (ad.add k)) ∧ Aside0 (Fed (T ++ l.take k) st wt m) ∧ Aside0 (wr.heap[g]? = some (.cells (hrow st wt m (a + (l.length : Int))) 49 (0, 0))) ∧ Aside0 (But g w wr))
  case atStart => exact ⟨0, A, st, wt, m, rfl, ⟨rfl⟩, by omega, ⟨by intro h; rw [HAD.out h]; simp [Addr.add]⟩, ⟨by simpa using HF.out⟩, HG1, HB1⟩
  case round =>
    clear HG HF HG1 HB1
    obtain ⟨k, A', st, wt, m, rfl, hgk, hk, hA', HF, HG, HB⟩ := hrel
    by_cases hkl : k < l.length
    · have e := hA'.out hkl
      subst e
      obtain ⟨n, hn⟩ : ∃ n, n = Nat.min (l.length - k) (64 - m) := ⟨_, rfl⟩
      replace hn := Aside0.mk hn
      have hm := HF.out.lt
      have hn1 : n ≤ 64 - m := by rw [hn.out]; exact Nat.min_le_right _ _
      have hn2 : n ≤ l.length - k := by rw [hn.out]; exact Nat.min_le_left _ _
      have hn0 : 0 < n := by rw [hn.out]; exact Nat.lt_min.2 ⟨by omega, by omega⟩
      have hcs : ((l.drop k).take n).length = n := by simp; omega
      replace hcs := Aside0.mk hcs
      have cM : wr.cell? ⟨g, 69, none⟩ = some (.int .i64 m) := (blk_cell HG.out 69).trans (hrow_m _ _ _ _ HF.out.st5 HF.out.len)
      have fM := blk_frozen HG.out 69
      have hsl := slice_wait g m (by omega) (by omega)
      have hgt : decide ((0 : Int) < ((l.length - k : Nat) : Int)) = true := by simp; omega
      go_upto_region 2 with fail
      go_still_tail 9, (by kernel_rfl)
      change wpList _ _ _ _ _ wr.drew
      generalize hwd : wr.drew = w2
      have HG2 : Aside0 (w2.heap[g]? = some (.cells (hrow st wt m (a + (l.length : Int))) 49 (0, 0))) := ⟨by rw [← hwd]; exact HG.out⟩
      have HB2 : Aside0 (But g w w2) := ⟨by rw [← hwd]; exact HB.out.drew⟩
      clear hwd HG HB cM fM hsl
      have hlen2 : (l.length : Nat) ≤ 9223372036854775807 := hlen
      have hcp := run_copy_row (P := Try.prog) w2 22 22 3 5 g (5 + m) (64 - m) (64 - m) (ad.add k) (l.length - k) (c - k) _ 49 (u8s ((l.drop k).take n)) Try.underlying22 (by kernel_rfl) HG2.out
        (by rw [u8s_len, hcs.out, hn.out])
        (by
          intro j v hj
          have hj2 : j < n := by
            have := (List.getElem?_eq_some_iff.1 hj).1
            rw [u8s_len, hcs.out] at this; exact this
          have h1 := (HL.out.but HGA.out HB2.out) (k + j) (by omega)
          have e1 : (ad.add k).add j = ad.add (k + j) := by rw [Addr.add_add]
          rw [e1, h1]
          have e2 : (u8s ((l.drop k).take n))[j]? = some (.int .u8 (l.getD (k + j) 0)) := by
            simp [u8s, List.getElem?_take, hj2, List.getElem?_drop, show k + j < l.length by omega]
          rw [e2] at hj
          exact hj)
        (by rw [u8s_len, hcs.out, hrow_size _ _ _ _ HF.out.st5 HF.out.len]; omega) (u8s_one _)
      rw [u8s_len, hcs.out] at hcp
      have hrw := hrow_copy st wt m (a + (l.length : Int)) HF.out.st5 m ((l.drop k).take n) (by rw [hcs.out, HF.out.len]; omega)
      rw [u8s_len, hcs.out] at hrw
      rw [hrw] at hcp
      clear hrw
      go_upto_region 3 with fail
      generalize hw3 : World.setRow _ _ _ = w3
      have HG3 : Aside0 (w3.heap[g]? = some (.cells (hrow st (lay wt m ((l.drop k).take n)) m (a + (l.length : Int))) 49 (0, 0))) := ⟨by rw [← hw3]; exact setRow_heap _ _ _ _ _ _ HG2.out⟩
      have HB3 : Aside0 (But g w w3) := ⟨by rw [← hw3]; exact HB2.out.row _⟩
      clear hw3 HG2 HB2 hcp
      have hll : Aside0 ((lay wt m ((l.drop k).take n)).length = 64) := ⟨by rw [lay_len _ _ _ (by rw [hcs.out, HF.out.len]; omega)]; exact HF.out.len⟩
      have cM : w3.cell? ⟨g, 69, none⟩ = some (.int .i64 m) := (blk_cell HG3.out 69).trans (hrow_m _ _ _ _ HF.out.st5 hll.out)
      have fM := blk_frozen HG3.out 69
      have um : IntKind.i64.wrap ((m : Int) + (n : Int)) = (m : Int) + (n : Int) := IntWalk.i64_in _ (by omega)
      have hx1 : (n : Int) ≤ ((l.length - k : Nat) : Int) := by omega
      have hx2 : (0 : Int) ≤ (n : Int) := by omega
      go_upto_region 5 with fail
      generalize hw4 : w3.setCell _ _ = w4
      have HG4 : Aside0 (w4.heap[g]? = some (.cells (hrow st (lay wt m ((l.drop k).take n)) ((m : Int) + (n : Int)) (a + (l.length : Int))) 49 (0, 0))) := ⟨by rw [← hw4]; exact blk_put HG3.out 69 _ (hrow_set_m _ _ _ _ HF.out.st5 hll.out _)⟩
      have HB4 : Aside0 (But g w w4) := ⟨by rw [← hw4]; exact HB3.out.set _ _⟩
      clear hw4 HG3 HB3 cM fM
      have cM : w4.cell? ⟨g, 69, none⟩ = some (.int .i64 ((m : Int) + (n : Int))) := (blk_cell HG4.out 69).trans (hrow_m _ _ _ _ HF.out.st5 hll.out)
      have hsub : T ++ l.take (k + n) = (T ++ l.take k) ++ (l.drop k).take n := by rw [List.take_add, List.append_assoc]
      have hsub := Aside0.mk hsub
      have hbc : ∀ x ∈ (l.drop k).take n, byteOk x := fun x hx => HBY.out x (List.mem_of_mem_drop (List.mem_of_mem_take hx))
      replace hbc := Aside0.mk hbc
      have hadr : Aside0 (k + n < l.length → (if c - k = n then some (ad.add k) else some ((ad.add k).add n)) = some (ad.add (k + n))) := ⟨fun h => by rw [if_neg (by omega), Addr.add_add]⟩
      generalize hgA2 : (if c - k = n then some (ad.add k) else some ((ad.add k).add n)) = A2 at hadr ⊢
      clear hgA2
      by_cases h64 : m + n = 64
      · have htd : ((m : Int) + (n : Int) == 64) = true := by simp; omega
        have htd2 : (m : Int) + (n : Int) = 64 := by omega
        have hfull := Aside0.mk (HF.out.full (cs := (l.drop k).take n) (by rw [hcs.out]; exact h64) hbc.out)
        go_wp2_with (go_at_call 28; (with_reducible refine (block_calls g _ _ _ _ _ HG4.out HF.out.st5 hll.out (lay_byte _ _ _ HF.out.byte hbc.out)).mono ?_); rintro e w5 ⟨rfl, hg5, hb5⟩; have HG5 := Aside0.mk hg5; have HB5 := Aside0.mk (HB4.out.trans hb5); clear hg5 hb5)
        go_roundg (gk - n)
        case measure => have := hgk.out; omega
        case rel => exact ⟨k + n, A2, _, _, 0, by rw [show l.length - k - n = l.length - (k + n) by omega, show c - k - n = c - (k + n) by omega], ⟨by have := hgk.out; omega⟩, by omega, hadr, ⟨by rw [hsub.out]; exact hfull.out⟩, HG5, HB5⟩
      · have htd : ((m : Int) + (n : Int) == 64) = false := by simp; omega
        have htd2 : ¬ ((m : Int) + (n : Int) = 64) := by omega
        have hsome := Aside0.mk (HF.out.some (cs := (l.drop k).take n) (by rw [hcs.out]; omega) hbc.out)
        go_wp2_with fail
        go_roundg (gk - n)
        case measure => have := hgk.out; omega
        case rel => exact ⟨k + n, A2, _, _, m + n, by rw [show l.length - k - n = l.length - (k + n) by omega, show c - k - n = c - (k + n) by omega], ⟨by have := hgk.out; omega⟩, by omega, hadr, ⟨by rw [hsub.out]; have := hsome.out; rw [hcs.out] at this; exact this⟩, ⟨by rw [HG4.out]; simp⟩, HB4⟩
    · have hke := Aside0.mk (show k = l.length by omega)
      have hgt : decide ((0 : Int) < ((l.length - k : Nat) : Int)) = false := by simp; omega
      go_wp2_with fail
      refine bodyPost_end (v := .tuple #[]) (by simp [results, Try.f18]) rfl ?_
      refine ⟨rfl, ⟨st, wt, m, HG.out, ?_⟩, HB.out⟩
      have := HF.out
      rw [hke.out, List.take_length] at this
      exact this
end Go.Proofs.Ytfgponalmhocmaa.D
