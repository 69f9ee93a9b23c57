/- The law of what is written: the walk. -/
import Derived.Test.YtngkbmlmlfofdaaDoorPh
namespace Go.Proofs.YtngkbmlmlfofdaaDoor.F
open Go.RowKit Go.Proofs.YtngkbmlmlfofdaaDoorW.PrintWords Go.Proofs.YtngkbmlmlfofdaaDoorW.PrintLast Go.Proofs.YtngkbmlmlfofdaaDoorW.PrintMore
open Go.Proofs.YtngkbmlmlfofdaaDoor.HA Go.Proofs.YtngkbmlmlfofdaaDoor.HB Go.Proofs.YtngkbmlmlfofdaaDoor.HC Go.Proofs.YtngkbmlmlfofdaaDoor.P Go.Proofs.YtngkbmlmlfofdaaDoor.G Go.Lib
set_option linter.unusedVariables false
set_option linter.unusedSimpArgs false

theorem beB_byte (k u : Nat) : ∀ x ∈ beB 256 k u, byteOk x := by
  induction k generalizing u with
  | zero => intro x hx; cases hx
  | succ k ih =>
    intro x hx
    rw [beB] at hx
    rcases List.mem_append.1 hx with hx | hx
    · exact ih _ x hx
    · rw [List.mem_singleton] at hx
      subst hx
      unfold byteOk
      omega
theorem poP_ok (v n : Int) : (∀ x ∈ (poP v n).1, byteOk x) ∧ (poP v n).1.length ≤ 200 := by
  unfold poP
  split
  · exact ⟨by simp, by simp⟩
  · split
    · refine ⟨?_, ?_⟩
      · intro x hx
        rcases List.mem_append.1 hx with h | h
        · rcases List.mem_append.1 h with h | h
          · rw [List.eq_of_mem_replicate h]; exact ⟨by omega, by omega⟩
          · exact odI_ok _ x h
        · rw [List.mem_singleton.1 h]; exact ⟨by omega, by omega⟩
      · simp
        omega
    · split
      · exact ⟨by simp, by simp⟩
      · refine ⟨?_, ?_⟩
        · intro x hx
          rcases List.mem_cons.1 hx with rfl | h
          · exact ⟨by omega, by omega⟩
          · exact beB_byte _ _ x h
        · rw [List.length_cons, beB_len]
          omega
set_option maxHeartbeats 4000000 in
set_option maxRecDepth 100000 in
theorem puts_calls (v n : Int) (hv : -9223372036854775808 ≤ v ∧ v ≤ 9223372036854775807) (w : World) (hT : Tab w) : Calls Tryd.prog 4 #[.int .i64 v, .int .i64 n] w fun e w' => e = .returned (.bool true) ∧ Below w.heap.size w w' := by
  have hput := put_calls v n hv w hT
  have href : ∀ W, _ := fun W => wainloadref03_PutOctal.calls 200 v n (poP v n).1 (poP v n).2 W (rpo_f v n 200 (by decide))
  have hoct := octal_poP v n
  obtain ⟨hby, hlen⟩ := poP_ok v n
  unfold PutV at hput
  generalize (poP v n).1 = l at hput href hoct hby hlen
  generalize (poP v n).2 = is at hput href hoct
  obtain ⟨x, y, hxy⟩ : ∃ x y, octalP l = (x, y) := ⟨_, _, rfl⟩
  have hO : ∀ A c W, Kd.C (Kd.int .u8) W A l.length l → l.length ≤ c → Calls Tryd.prog 10 #[.slice A l.length c] W fun e w' => e = .returned (.tuple #[.int .i64 x, .int .i64 y]) ∧ Below W.heap.size W w' := fun A c W h1 h2 => by
    have := octal_calls A c l W h1 h2 hby (by omega)
    unfold OctalV at this
    rw [hxy] at this
    exact this
  replace hput := Aside0.mk hput
  replace href := Aside0.mk href
  replace hO := Aside0.mk hO
  have hxv : is = true → x = v ∧ y = 0 := fun h => by
    have := hoct h
    rw [hxy] at this
    exact Prod.mk.inj this
  clear hoct hby hxy
  obtain ⟨S, hS⟩ : ∃ S, strOfNums l = S := ⟨_, rfl⟩
  cases is
  · go_enter Tryd.func4, Tryd.ntmps4
    go_upto_region 3 with (first
      | (go_at_call 13; (with_reducible refine hput.out.mono ?_); rintro e w1 ⟨A1, c1, rfl, hC1, hc1, hb1⟩; have HB1 := Aside0.mk hb1; have HC1 := Aside0.mk hC1; have Hc1 := Aside0.mk hc1; clear hb1 hC1 hc1)
      | (go_at_call 14; (with_reducible refine (href.out _).mono ?_); rintro e w2 ⟨v2, rfl, hR2, hb2⟩; obtain ⟨A2, c2, rfl⟩ := Kd.R_slice hR2; have HR2 := Aside0.mk (Kd.R_reads' hR2).2.2; have HC2 := Aside0.mk (Kd.C_below HC1.out hb2); have HB2 := Aside0.mk (below_step HB1.out hb2); clear hb2 hR2)
      | fail)
    have hst1 := str_of (c := c1) HC2.out
    have hst2 := str_of (c := c2) HR2.out
    rw [hS] at hst1 hst2
    go_wp2_with (first
      | (go_at_call 10; (with_reducible refine (hO.out _ _ _ HC2.out Hc1.out).mono ?_); rintro e w3 ⟨rfl, hb3⟩; have HB3 := Aside0.mk (below_step HB2.out hb3); clear hb3)
      | (go_at_call 12; (with_reducible refine (alive_calls _ (hT.below HB3.out)).mono ?_); rintro e w4 ⟨rfl, hb4⟩; have HB4 := Aside0.mk (below_step HB3.out hb4); clear hb4)
      | fail)
    go_ret
    exact ⟨by first | rfl | simp, HB4.out⟩
  · obtain ⟨rfl, rfl⟩ := hxv rfl
    go_enter Tryd.func4, Tryd.ntmps4
    go_upto_region 3 with (first
      | (go_at_call 13; (with_reducible refine hput.out.mono ?_); rintro e w1 ⟨A1, c1, rfl, hC1, hc1, hb1⟩; have HB1 := Aside0.mk hb1; have HC1 := Aside0.mk hC1; have Hc1 := Aside0.mk hc1; clear hb1 hC1 hc1)
      | (go_at_call 14; (with_reducible refine (href.out _).mono ?_); rintro e w2 ⟨v2, rfl, hR2, hb2⟩; obtain ⟨A2, c2, rfl⟩ := Kd.R_slice hR2; have HR2 := Aside0.mk (Kd.R_reads' hR2).2.2; have HC2 := Aside0.mk (Kd.C_below HC1.out hb2); have HB2 := Aside0.mk (below_step HB1.out hb2); clear hb2 hR2)
      | fail)
    have hst1 := str_of (c := c1) HC2.out
    have hst2 := str_of (c := c2) HR2.out
    rw [hS] at hst1 hst2
    go_wp2_with (first
      | (go_at_call 10; (with_reducible refine (hO.out _ _ _ HC2.out Hc1.out).mono ?_); rintro e w3 ⟨rfl, hb3⟩; have HB3 := Aside0.mk (below_step HB2.out hb3); clear hb3)
      | (go_at_call 12; (with_reducible refine (alive_calls _ (hT.below HB3.out)).mono ?_); rintro e w4 ⟨rfl, hb4⟩; have HB4 := Aside0.mk (below_step HB3.out hb4); clear hb4)
      | fail)
    go_ret
    exact ⟨by first | rfl | simp, HB4.out⟩
end Go.Proofs.YtngkbmlmlfofdaaDoor.F
