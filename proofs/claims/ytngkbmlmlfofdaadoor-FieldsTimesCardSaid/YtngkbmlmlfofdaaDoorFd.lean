/- The library's FormatUint at base 10: the numeral. The table of powers of ten is read. The machine's side of fields.PutSeconds: what a call comes to. The library's FormatInt at base 8: a number's digits. One cell of a table is read. The library's formatBits at base 8. Given contracts for the printer that read tables: FormatInt at base 8, Repeat, PutSeconds. The machine's side of fields.PutOctal. fields.PutOctal, above the digits. fields.PutOctal whole; alive() of layer 3. A given contract for the printer: alive of layer 3. -/
import Derived.Test.YtngkbmlmlfofdaaDoorFa
import Derived.Shelf.Strconv.Itoa3
import Derived.Lib.AppendIntMem
import Derived.Test.YtngkbmlmlfofdaaDoorHCx
import Derived.Lib.SlBytesConst
namespace Go.Proofs.YtngkbmlmlfofdaaDoor.F
open Go.RowKit Go.Proofs.YtngkbmlmlfofdaaDoorW.PrintWords Go.Proofs.YtngkbmlmlfofdaaDoorW.PrintLast Go.Proofs.YtngkbmlmlfofdaaDoorW.PrintMore
open Go.Proofs.YtngkbmlmlfofdaaDoor.HA Go.Proofs.YtngkbmlmlfofdaaDoor.P Go.Sort Go.Lib
set_option linter.unusedVariables false
set_option linter.unusedSimpArgs false

def Pow10 (w : World) : Prop := Lib.TabIs Tryd.prog w "internal/strconv.uint64pow10" .u64 Lib.pow10Tab
set_option maxHeartbeats 6400000 in
set_option maxRecDepth 100000 in
theorem formatUint_in (u : Nat) (hu64 : u < 18446744073709551616) (w : World) (htab : Pow10 w) :
    Calls Tryd.prog 56 #[.int .u64 u, .int .i64 10] w fun e w' => e = .returned (.string ⟨(Lib.decDigits u).toArray⟩) ∧ Below w.heap.size w w' := by
  by_cases hs : u < 100
  · have hs' : (u : Int) < 100 := by omega
    go_enter Tryd.func56, Tryd.ntmps56
    go_wp2_with (first
      | (go_at_call 61; (with_reducible refine (Tryd.internal_strconv_small u hs _).mono ?_); rintro e w1 ⟨rfl, rfl⟩)
      | fail)
    go_ret
    exact ⟨rfl, Below.refl _ _⟩
  · have hs' : ¬ (u : Int) < 100 := by omega
    have hu1 : 1 ≤ u := by omega
    have hnd20 : Lib.nDigits u ≤ 20 := by have := Lib.numDigits_eq u hu1 hu64; split at this <;> omega
    have hal : Tryd.prog.arrayLen 81 = 24 := by kernel_rfl
    have hsl1 : ∀ W, (Instr.sliceAt 81 (.pointer (some ⟨w.heap.size, 0, none⟩)) none (some (.int .i64 (Lib.nDigits u : Int))) none).run Tryd.prog W = .ok (.slice (some ⟨w.heap.size, 0, none⟩) (Lib.nDigits u) 24) W := fun W => by
      rw [run_sliceAt_array_h W 81 ⟨w.heap.size, 0, none⟩ (by kernel_rfl) .i64 (Lib.nDigits u : Int) (by omega) (by rw [hal]; omega)]
      go_simp
    have hH0 := Lib.holds_zero0 w 81 (Lib.nDigits u) (by omega)
    have hfmt := Tryd.internal_strconv_formatBase10 w.heap.size 0 24 u (Array.replicate (Lib.nDigits u) 0) (w.alloc (.cells Lib.zeros24 81)) hH0 (by rw [Array.size_replicate]; exact Lib.lt_pow_nDigits u) hu64 (by rw [Array.size_replicate]; omega)
    rw [Array.size_replicate] at hfmt
    have HH0 := Lib.hid hH0
    have HF := Aside0.mk hfmt
    clear hH0 hal hfmt
    have htab' : Lib.TabIs Tryd.prog w "internal/strconv.uint64pow10" .u64 Lib.pow10Tab := htab
    go_enter Tryd.func56, Tryd.ntmps56
    go_wp2_with (first
      | (go_at_call 62; refine (Tryd.internal_strconv_numDigits u hu1 hu64 _ (Lib.tabIs_alloc htab' _)).mono ?_; rintro e w1 ⟨rfl, rfl⟩)
      | fail)
    go_at_call 63
    refine HF.out.mono ?_
    rintro e w' ⟨rfl, k, v', dk, rfl, hF⟩
    have hcv : (convert 22 9 (.slice (some ⟨w.heap.size, 0, none⟩) (Lib.nDigits u) 24)).run Tryd.prog ((putRow (fun (b : UInt8) => Value.int .u8 (b.toNat : Int)) (w.alloc (.cells Lib.zeros24 81)) w.heap.size 0 dk).drewN k) = .ok (.string ⟨(Lib.decDigits u).toArray⟩) ((putRow (fun (b : UInt8) => Value.int .u8 (b.toNat : Int)) (w.alloc (.cells Lib.zeros24 81)) w.heap.size 0 dk).drewN k) := by
      have h := run_convert_bytes_back (P := Tryd.prog) ((putRow (fun (b : UInt8) => Value.int .u8 (b.toNat : Int)) (w.alloc (.cells Lib.zeros24 81)) w.heap.size 0 dk).drewN k) 22 9 5 ⟨w.heap.size, 0, none⟩ 24 (Lib.decDigits u) Tryd.underlying22 Tryd.underlying5 Tryd.underlying9 (fun j hj => by
        rw [Lib.row_is_numeral hF j hj, Lib.add_plain, World.cell?_drewN]
        exact cell?_putRow (fun (b : UInt8) => Value.int .u8 (b.toNat : Int)) _ w.heap.size 0 _ dk HH0.out (by rw [hF.size, Array.size_replicate]) j (by rw [hF.size]; rw [Lib.decDigits_length] at hj; exact hj))
      rw [Lib.decDigits_length] at h
      exact h
    go_wp2
    go_ret
    obtain ⟨os, eo⟩ := Lib.fin_at w (.cells Lib.zeros24 81) dk k 0
    refine ⟨rfl, ?_⟩
    rw [eo]
    exact Lib.below_grow _ w (Nat.le_refl _) k os
set_option maxRecDepth 100000 in
theorem formatUint_calls (u : Nat) (hu64 : u < 18446744073709551616) (w : World) (htab : Pow10 w) :
    Calls Tryd.prog 37 #[.int .u64 u, .int .i64 10] w fun e w' => e = .returned (.string ⟨(Lib.decDigits u).toArray⟩) ∧ Below w.heap.size w w' := by
  go_enter Tryd.func37, Tryd.ntmps37
  go_wp2_with (first
    | (go_at_call 56; (with_reducible refine (formatUint_in u hu64 _ htab).mono ?_); rintro e w1 ⟨rfl, hb1⟩; have HB1 := Aside0.mk hb1; clear hb1)
    | fail)
  go_ret
  exact ⟨rfl, HB1.out⟩
end Go.Proofs.YtngkbmlmlfofdaaDoor.F
namespace Go.Proofs.YtngkbmlmlfofdaaDoor.F
open Go.RowKit Go.Proofs.YtngkbmlmlfofdaaDoorW.PrintWords Go.Proofs.YtngkbmlmlfofdaaDoorW.PrintLast Go.Proofs.YtngkbmlmlfofdaaDoorW.PrintMore
open Go.Proofs.YtngkbmlmlfofdaaDoor.HA Go.Proofs.YtngkbmlmlfofdaaDoor.P Go.Sort Go.Lib
set_option linter.unusedVariables false
set_option linter.unusedSimpArgs false

/-- A listed table outlives what keeps every block. -/
theorem tabIs_below {P : Program} {w w' : World} {name : String} {k : IntKind} {zs : List Int} (h : Lib.TabIs P w name k zs) (hb : Below w.heap.size w w') : Lib.TabIs P w' name k zs := by
  unfold Lib.TabIs World.var? at *
  cases hg : P.globalNamed name with
  | none => simp [hg] at h
  | some g =>
    simp only [hg, Option.bind_some] at h ⊢
    have hlt : g < w.heap.size := by
      rcases Nat.lt_or_ge g w.heap.size with h' | h'
      · exact h'
      · rw [Array.getElem?_eq_none h'] at h; simp at h
    rw [hb.block g hlt]
    exact h
theorem Pow10.below {w w' : World} (h : Pow10 w) (hb : Below w.heap.size w w') : Pow10 w' := tabIs_below h hb
def decB (n : Nat) : ByteArray := ⟨(Lib.decDigits n).toArray⟩
theorem decB_size (n : Nat) : (decB n).size = (Lib.decDigits n).length := by simp [decB, ByteArray.size]
theorem nd20 {u : Nat} (h : u < 18446744073709551616) : Lib.nDigits u ≤ 20 := by
  by_cases h0 : u = 0
  · subst h0; rw [Lib.nDigits_small (by omega)]; omega
  · have := Lib.numDigits_eq u (by omega) h
    split at this <;> omega
theorem decB_pos (n : Nat) (h : n < 18446744073709551616) : 1 ≤ (decB n).size ∧ (decB n).size ≤ 20 := by
  rw [decB_size, Lib.decDigits_length]
  refine ⟨?_, nd20 h⟩
  by_cases h0 : n < 10
  · rw [Lib.nDigits_small h0]; omega
  · rw [Lib.nDigits_big h0]; omega
/-- The bytes behind the point. -/
def fracB (r : Nat) : ByteArray := ⟨(Lib.trimRightB ((decB (1000000000 + r)).extract 1 (decB (1000000000 + r)).size).data.toList 48).toArray⟩
def psU (sg : ByteArray) (u : Nat) : ByteArray := if u % 1000000000 = 0 then sg ++ decB (u / 1000000000) else sg ++ decB (u / 1000000000) ++ ⟨#[46]⟩ ++ fracB (u % 1000000000)
def psB (t : Int) : ByteArray := psU (if t < 0 then ⟨#[45]⟩ else ⟨#[]⟩) t.natAbs
theorem formatUint_b (u : Nat) (hu64 : u < 18446744073709551616) (w : World) (htab : Pow10 w) :
    Calls Tryd.prog 37 #[.int .u64 u, .int .i64 10] w fun e w' => e = .returned (.string (decB u)) ∧ Below w.heap.size w w' := formatUint_calls u hu64 w htab
theorem trimRight_b (s : ByteArray) (w : World) (hs : s.size ≤ 9223372036854775807) :
    Calls Tryd.prog 38 #[.string s, .string ⟨#[48]⟩] w fun e w' => e = .returned (.string ⟨(Lib.trimRightB s.data.toList 48).toArray⟩) ∧ w' = w := Tryd.strings_TrimRight_one s 48 (by decide) w hs
theorem trimRightB_len (l : List UInt8) (c : UInt8) : (Lib.trimRightB l c).length ≤ l.length := by
  unfold Lib.trimRightB
  rw [List.length_reverse]
  have := (List.dropWhile_sublist (fun x => x == c) (l := l.reverse)).length_le
  simpa using this
set_option maxHeartbeats 2000000 in
set_option maxRecDepth 100000 in
theorem putSeconds_calls (t : Int) (ht : -9223372036854775808 ≤ t ∧ t ≤ 9223372036854775807) (w : World) (htab : Pow10 w) :
    Calls Tryd.prog 17 #[.int .i64 t] w fun e w' => e = .returned (.string (psB t)) ∧ Below w.heap.size w w' := by
  obtain ⟨u, hu⟩ : ∃ u : Nat, t.natAbs = u := ⟨_, rfl⟩
  have hu64 : u < 18446744073709551616 := by omega
  obtain ⟨q, hq⟩ : ∃ q : Nat, u / 1000000000 = q := ⟨_, rfl⟩
  obtain ⟨r, hr⟩ : ∃ r : Nat, u % 1000000000 = r := ⟨_, rfl⟩
  obtain ⟨m, hm⟩ : ∃ m : Nat, 1000000000 + r = m := ⟨_, rfl⟩
  have e1 : Int.tdiv (u : Int) 1000000000 = (q : Int) := by rw [Int.tdiv_eq_ediv_of_nonneg (by omega)]; omega
  have e2 : Int.tmod (u : Int) 1000000000 = (r : Int) := by rw [Int.tmod_eq_emod_of_nonneg (by omega)]; omega
  have e3 : IntKind.u64.wrap (q : Int) = (q : Int) := by rw [IntKind.wrap_u64]; omega
  have e4 : IntKind.u64.wrap (r : Int) = (r : Int) := by rw [IntKind.wrap_u64]; omega
  have e5 : IntKind.u64.wrap (1000000000 + (r : Int)) = (m : Int) := by rw [IntKind.wrap_u64]; omega
  have h1 := Aside0.mk (formatUint_b q (by omega) w htab)
  have h2 : Aside0 (∀ W, Below w.heap.size w W → Calls Tryd.prog 37 #[.int .u64 (m : Int), .int .i64 10] W fun e w' => e = .returned (.string (decB m)) ∧ Below W.heap.size W w') := ⟨fun W hW => formatUint_b m (by omega) W (htab.below hW)⟩
  have hps : Aside0 (psB t = psU (if t < 0 then ⟨#[45]⟩ else ⟨#[]⟩) u) := ⟨by rw [← hu]; rfl⟩
  have hun : Aside0 (∀ sg, psU sg u = if r = 0 then sg ++ decB q else sg ++ decB q ++ ⟨#[46]⟩ ++ ⟨(Lib.trimRightB ((decB m).extract 1 (decB m).size).data.toList 48).toArray⟩) := ⟨fun sg => by unfold psU fracB; rw [hq, hr, hm]⟩
  have hqs := decB_pos q (by omega)
  have hms := decB_pos m (by omega)
  generalize decB q = Q at h1 hun hqs
  generalize decB m = M at h2 hun hms
  have hex : (M.extract 1 M.size).size ≤ 20 := by rw [ByteArray.size_extract]; omega
  have h3 := Aside0.mk (fun W => trimRight_b (M.extract 1 M.size) W (by omega))
  have hF : (⟨(Lib.trimRightB (M.extract 1 M.size).data.toList 48).toArray⟩ : ByteArray).size ≤ 20 := by
    have := trimRightB_len (M.extract 1 M.size).data.toList 48
    rw [Lib.size_mk]
    have h2 : (M.extract 1 M.size).data.toList.length = (M.extract 1 M.size).size := by rw [Array.length_toList]; rfl
    omega
  generalize (⟨(Lib.trimRightB (M.extract 1 M.size).data.toList 48).toArray⟩ : ByteArray) = F at hun h3 hF
  have i1 : (1 : Int) ≤ (M.size : Int) := by omega
  have i2 : (1 : Nat) ≤ M.size := by omega
  have s1 : Q.size + 1 ≤ 9223372036854775807 := by omega
  have s2 : 1 + Q.size ≤ 9223372036854775807 := by omega
  have s3 : Q.size ≤ 9223372036854775807 := by omega
  have s4 : 1 + Q.size + 1 ≤ 9223372036854775807 := by omega
  have s5 : 1 + Q.size + 1 + F.size ≤ 9223372036854775807 := by omega
  have s6 : Q.size + 1 + F.size ≤ 9223372036854775807 := by omega
  have hsg : (t < 0 ∧ IntKind.u64.wrap (-IntKind.u64.wrap t) = (u : Int)) ∨ (¬ t < 0 ∧ t = (u : Int)) := by
    by_cases h0 : t < 0
    · exact .inl ⟨h0, by rw [IntKind.wrap_u64, IntKind.wrap_u64]; omega⟩
    · exact .inr ⟨h0, by omega⟩
  clear hu hq hr hm hqs hms hex hF
  rcases hsg with ⟨h0, hw⟩ | ⟨h0, rfl⟩
  · by_cases hr0 : r = 0
    · subst hr0
      have hfin : Aside0 (psB t = (⟨#[45]⟩ : ByteArray) ++ Q) := ⟨by rw [hps.out, if_pos h0, hun.out, if_pos rfl]⟩
      go_enter Tryd.func17, Tryd.ntmps17
      go_wp2_with (first
        | (go_at_call 37; (with_reducible refine h1.out.mono ?_); rintro e w1 ⟨rfl, hb1⟩; have HB1 := Aside0.mk hb1; clear hb1)
        | fail)
      go_ret
      exact ⟨by rw [hfin.out]; rfl, HB1.out⟩
    · have hr1 : ¬ (r : Int) = 0 := by omega
      have hfin : Aside0 (psB t = (⟨#[45]⟩ : ByteArray) ++ Q ++ ⟨#[46]⟩ ++ F) := ⟨by rw [hps.out, if_pos h0, hun.out, if_neg hr0]⟩
      go_enter Tryd.func17, Tryd.ntmps17
      go_wp2_with (first
        | (go_at_call 38; (with_reducible refine (h3.out _).mono ?_); rintro e w3 ⟨rfl, rfl⟩)
        | (go_at_call 37; (with_reducible refine h1.out.mono ?_); rintro e w1 ⟨rfl, hb1⟩; have HB1 := Aside0.mk hb1; clear hb1)
        | (go_at_call 37; (with_reducible refine (h2.out _ HB1.out).mono ?_); rintro e w2 ⟨rfl, hb2⟩; have HB2 := Aside0.mk (below_step HB1.out hb2); clear hb2)
        | fail)
      go_ret
      exact ⟨by rw [hfin.out]; rfl, HB2.out⟩
  · by_cases hr0 : r = 0
    · subst hr0
      have hfin : Aside0 (psB (u : Int) = (⟨#[]⟩ : ByteArray) ++ Q) := ⟨by rw [hps.out, if_neg h0, hun.out, if_pos rfl]⟩
      go_enter Tryd.func17, Tryd.ntmps17
      go_wp2_with (first
        | (go_at_call 37; (with_reducible refine h1.out.mono ?_); rintro e w1 ⟨rfl, hb1⟩; have HB1 := Aside0.mk hb1; clear hb1)
        | fail)
      go_ret
      exact ⟨by rw [hfin.out]; rfl, HB1.out⟩
    · have hr1 : ¬ (r : Int) = 0 := by omega
      have hfin : Aside0 (psB (u : Int) = (⟨#[]⟩ : ByteArray) ++ Q ++ ⟨#[46]⟩ ++ F) := ⟨by rw [hps.out, if_neg h0, hun.out, if_neg hr0]⟩
      go_enter Tryd.func17, Tryd.ntmps17
      go_wp2_with (first
        | (go_at_call 38; (with_reducible refine (h3.out _).mono ?_); rintro e w3 ⟨rfl, rfl⟩)
        | (go_at_call 37; (with_reducible refine h1.out.mono ?_); rintro e w1 ⟨rfl, hb1⟩; have HB1 := Aside0.mk hb1; clear hb1)
        | (go_at_call 37; (with_reducible refine (h2.out _ HB1.out).mono ?_); rintro e w2 ⟨rfl, hb2⟩; have HB2 := Aside0.mk (below_step HB1.out hb2); clear hb2)
        | fail)
      go_ret
      exact ⟨by rw [hfin.out]; rfl, HB2.out⟩
end Go.Proofs.YtngkbmlmlfofdaaDoor.F
namespace Go.Proofs.YtngkbmlmlfofdaaDoor.F
open Go.RowKit Go.Proofs.YtngkbmlmlfofdaaDoorW.PrintWords Go.Proofs.YtngkbmlmlfofdaaDoorW.PrintLast Go.Proofs.YtngkbmlmlfofdaaDoorW.PrintMore
open Go.Proofs.YtngkbmlmlfofdaaDoor.HA Go.Proofs.YtngkbmlmlfofdaaDoor.P Go.Sort Go.Lib
set_option linter.unusedVariables false
set_option linter.unusedSimpArgs false

/-- The digits of a number at base 8. -/
def odI (u : Nat) : List Int := if h : u < 8 then [48 + (u : Int)] else odI (u / 8) ++ [48 + ((u % 8 : Nat) : Int)]
termination_by u
decreasing_by omega
def Bruijn (w : World) : Prop := w.cell? ⟨5, 7, none⟩ = some (.int .u8 3)
theorem Bruijn.below {w w' : World} (h : Bruijn w) (hb : Below w.heap.size w w') : Bruijn w' := (hb.cell (World.block_lt_of_cell? w _ h)).trans h
set_option maxRecDepth 100000 in
theorem zeros64_calls (w : World) (hT : Bruijn w) : Calls Tryd.prog 88 #[.int .u64 8] w fun e w' => e = .returned (.int .i64 3) ∧ Drawn0 w w' := by
  have hc : w.cell? ⟨5, 7, none⟩ = some (.int .u8 3) := hT
  have e1 : Go.bits .and .u64 8 (IntKind.u64.wrap (-8)) = 8 := by decide
  have e2 : IntKind.u64.wrap (8 * 285870213051353865) = 2286961704410830920 := by decide
  have e3 : (2286961704410830920 : Int) / 288230376151711744 = 7 := by decide
  go_enter Tryd.func88, Tryd.ntmps88
  go_wp2_with fail
  go_ret
  exact ⟨rfl, Drawn0.refl _⟩
set_option maxRecDepth 100000 in
theorem zeros_calls (w : World) (hT : Bruijn w) : Calls Tryd.prog 78 #[.int .u64 8] w fun e w' => e = .returned (.int .i64 3) ∧ Drawn0 w w' := by
  go_enter Tryd.func78, Tryd.ntmps78
  go_wp2_with (first
    | (go_at_call 88; refine (zeros64_calls _ hT).mono ?_; rintro e w1 ⟨rfl, hd⟩; have HD := Aside0.mk hd; clear hd)
    | fail)
  go_ret
  exact ⟨rfl, HD.out⟩
set_option maxRecDepth 100000 in
theorem power_calls (w : World) : Calls Tryd.prog 77 #[.int .i64 8] w fun e w' => e = .returned (.bool true) ∧ Drawn0 w w' := by
  have hb : Go.bits .and .i64 8 7 = 0 := by decide
  go_enter Tryd.func77, Tryd.ntmps77
  go_wp2_with fail
  go_ret
  exact ⟨rfl, Drawn0.refl _⟩
/-- The row of the digits that are laid, from a place on. -/
def arrC (j : Nat) (ds : List Int) : Array Value := ((List.replicate j 0 ++ ds).map (Value.int .u8)).toArray
theorem arrC_set (p : Nat) (ds : List Int) (d : Int) : (arrC (p + 1) ds).setIfInBounds p (.int .u8 d) = arrC p (d :: ds) := by
  unfold arrC
  rw [List.setIfInBounds_toArray, ← List.map_set, List.replicate_succ', List.append_assoc, List.set_append_right _ _ (by simp)]
  simp
theorem arrC_get (p : Nat) (ds : List Int) : (arrC (p + 1) ds)[p]? = some (.int .u8 0) := by
  unfold arrC
  rw [List.getElem?_toArray, List.getElem?_map, List.replicate_succ', List.append_assoc, List.getElem?_append_right (by simp)]
  simp
theorem digit8_0 (W : World) : (Instr.index 9 (.string ⟨#[48, 49, 50, 51, 52, 53, 54, 55, 56, 57, 97, 98, 99, 100, 101, 102, 103, 104, 105, 106, 107, 108, 109, 110, 111, 112, 113, 114, 115, 116, 117, 118, 119, 120, 121, 122]⟩) (.int .u64 0)).run Tryd.prog W = .ok (.int .u8 (48 + 0)) W := by kernel_rfl
theorem digit8_1 (W : World) : (Instr.index 9 (.string ⟨#[48, 49, 50, 51, 52, 53, 54, 55, 56, 57, 97, 98, 99, 100, 101, 102, 103, 104, 105, 106, 107, 108, 109, 110, 111, 112, 113, 114, 115, 116, 117, 118, 119, 120, 121, 122]⟩) (.int .u64 1)).run Tryd.prog W = .ok (.int .u8 (48 + 1)) W := by kernel_rfl
theorem digit8_2 (W : World) : (Instr.index 9 (.string ⟨#[48, 49, 50, 51, 52, 53, 54, 55, 56, 57, 97, 98, 99, 100, 101, 102, 103, 104, 105, 106, 107, 108, 109, 110, 111, 112, 113, 114, 115, 116, 117, 118, 119, 120, 121, 122]⟩) (.int .u64 2)).run Tryd.prog W = .ok (.int .u8 (48 + 2)) W := by kernel_rfl
theorem digit8_3 (W : World) : (Instr.index 9 (.string ⟨#[48, 49, 50, 51, 52, 53, 54, 55, 56, 57, 97, 98, 99, 100, 101, 102, 103, 104, 105, 106, 107, 108, 109, 110, 111, 112, 113, 114, 115, 116, 117, 118, 119, 120, 121, 122]⟩) (.int .u64 3)).run Tryd.prog W = .ok (.int .u8 (48 + 3)) W := by kernel_rfl
theorem digit8_4 (W : World) : (Instr.index 9 (.string ⟨#[48, 49, 50, 51, 52, 53, 54, 55, 56, 57, 97, 98, 99, 100, 101, 102, 103, 104, 105, 106, 107, 108, 109, 110, 111, 112, 113, 114, 115, 116, 117, 118, 119, 120, 121, 122]⟩) (.int .u64 4)).run Tryd.prog W = .ok (.int .u8 (48 + 4)) W := by kernel_rfl
theorem digit8_5 (W : World) : (Instr.index 9 (.string ⟨#[48, 49, 50, 51, 52, 53, 54, 55, 56, 57, 97, 98, 99, 100, 101, 102, 103, 104, 105, 106, 107, 108, 109, 110, 111, 112, 113, 114, 115, 116, 117, 118, 119, 120, 121, 122]⟩) (.int .u64 5)).run Tryd.prog W = .ok (.int .u8 (48 + 5)) W := by kernel_rfl
theorem digit8_6 (W : World) : (Instr.index 9 (.string ⟨#[48, 49, 50, 51, 52, 53, 54, 55, 56, 57, 97, 98, 99, 100, 101, 102, 103, 104, 105, 106, 107, 108, 109, 110, 111, 112, 113, 114, 115, 116, 117, 118, 119, 120, 121, 122]⟩) (.int .u64 6)).run Tryd.prog W = .ok (.int .u8 (48 + 6)) W := by kernel_rfl
theorem digit8_7 (W : World) : (Instr.index 9 (.string ⟨#[48, 49, 50, 51, 52, 53, 54, 55, 56, 57, 97, 98, 99, 100, 101, 102, 103, 104, 105, 106, 107, 108, 109, 110, 111, 112, 113, 114, 115, 116, 117, 118, 119, 120, 121, 122]⟩) (.int .u64 7)).run Tryd.prog W = .ok (.int .u8 (48 + 7)) W := by kernel_rfl
theorem digit8_index (d : Nat) (hd : d < 8) (W : World) : (Instr.index 9 (.string ⟨#[48, 49, 50, 51, 52, 53, 54, 55, 56, 57, 97, 98, 99, 100, 101, 102, 103, 104, 105, 106, 107, 108, 109, 110, 111, 112, 113, 114, 115, 116, 117, 118, 119, 120, 121, 122]⟩) (.int .u64 d)).run Tryd.prog W = .ok (.int .u8 (48 + (d : Int))) W := by
  have : d = 0 ∨ d = 1 ∨ d = 2 ∨ d = 3 ∨ d = 4 ∨ d = 5 ∨ d = 6 ∨ d = 7 := by omega
  rcases this with rfl | rfl | rfl | rfl | rfl | rfl | rfl | rfl
  · exact digit8_0 W
  · exact digit8_1 W
  · exact digit8_2 W
  · exact digit8_3 W
  · exact digit8_4 W
  · exact digit8_5 W
  · exact digit8_6 W
  · exact digit8_7 W
end Go.Proofs.YtngkbmlmlfofdaaDoor.F
namespace Go.Proofs.YtngkbmlmlfofdaaDoor.F
open Go.RowKit Go.Proofs.YtngkbmlmlfofdaaDoorW.PrintWords Go.Proofs.YtngkbmlmlfofdaaDoorW.PrintLast Go.Proofs.YtngkbmlmlfofdaaDoorW.PrintMore
open Go.Proofs.YtngkbmlmlfofdaaDoor.HA Go.Proofs.YtngkbmlmlfofdaaDoor.P Go.Sort Go.Lib
set_option linter.unusedVariables false
set_option linter.unusedSimpArgs false

theorem odI_small {u : Nat} (h : u < 8) : odI u = [48 + (u : Int)] := by rw [odI, dif_pos h]
theorem odI_big {u : Nat} (h : ¬ u < 8) : odI u = odI (u / 8) ++ [48 + ((u % 8 : Nat) : Int)] := by rw [odI, dif_neg h]
theorem C_arrC {W : World} {B p : Nat} {ds : List Int} (T : TypeId) (h : W.heap[B]? = some (.cells (arrC p ds) T (0, 0))) (hn : ds.length ≤ 9223372036854775807) (h0 : 0 < ds.length) : Kd.C (Kd.int .u8) W (some ⟨B, p, none⟩) ds.length ds := by
  refine ⟨rfl, hn, fun _ => ⟨_, rfl, fun j x hj => ?_⟩⟩
  refine ⟨[Value.int .u8 x], rfl, rfl, fun i u hu => ?_⟩
  have hs : (Kd.int IntKind.u8).sz = 1 := rfl
  have hi : i = 0 := by
    rcases i with _ | i
    · rfl
    · simp at hu
  subst hi
  simp at hu
  subst hu
  rw [hs, Lib.add_plain, blk_cell h]
  unfold arrC
  rw [List.getElem?_toArray, List.getElem?_map, List.getElem?_append_right (by simp)]
  simp [hj]
theorem and7 (u : Nat) (h : u < 18446744073709551616) : Go.bits .and .u64 (u : Int) 7 = ((u % 8 : Nat) : Int) := by
  have e0 : (2 : Int) ^ 64 = 18446744073709551616 := by decide
  have := bits_mask .u64 64 (by decide) (fun n h0 h1 => by rw [e0] at h1; rw [IntKind.wrap_u64]; omega) 3 (by decide) (u : Int) (by omega) (by rw [e0]; omega)
  have e : ((2 : Int) ^ 3 - 1) = 7 := by decide
  have e2 : ((2 : Int) ^ 3) = 8 := by decide
  rw [e, e2] at this
  rw [this]
  omega
set_option maxHeartbeats 4000000 in
set_option maxRecDepth 100000 in
theorem formatBits_calls (u0 : Nat) (hu0 : u0 < 18446744073709551616) (w : World) (hT : Bruijn w) :
    Calls Tryd.prog 64 #[.slice none 0 0, .int .u64 u0, .int .i64 8, .bool false, .bool false] w fun e w' => e = .returned (.tuple #[.slice none 0 0, .string (strOfNums (odI u0))]) ∧ Below w.heap.size w w' := by
  have hbr : Aside0 (Bruijn (w.alloc (.cells (arrC 65 []) 97))) := ⟨hT.below ((Below.refl _ w).alloc (Nat.le_refl _) _)⟩
  have e1 : Go.bits .and .i64 8 7 = 0 := by decide
  have h822 : (8 : Nat) ^ 22 = 73786976294838206464 := by decide
  have H22 : Aside0 (u0 < 8 ^ 22) := ⟨by omega⟩
  clear h822
  go_enter Tryd.func64, Tryd.ntmps64
  go_upto_block 0 with (first
    | (go_at_call 77; refine (power_calls _).mono ?_; rintro e w1 ⟨rfl, hd⟩; have HB1 := Aside0.mk (below_step (below_alloc (Below.refl _ w) _) hd.below); have HK1 : Aside0 (w1.heap[w.heap.size]? = some (.cells (arrC 65 []) 97 (0, 0))) := ⟨blk_below (blk_new w _) hd.below⟩; clear hd)
    | (go_at_call 78; refine (zeros_calls _ (hT.below HB1.out)).mono ?_; rintro e w2 ⟨rfl, hd⟩; have HB2 := Aside0.mk (below_step HB1.out hd.below); have HK2 := Aside0.mk (blk_below HK1.out hd.below); clear hd)
    | fail)
  go_cut [1, 13] (fun v1 v13 wr => ∃ (u p : Nat) (ds : List Int), v1 = .int .u64 u ∧ v13 = .int .i64 ((p + 1 : Nat) : Int) ∧ u < 8 ∧ Aside0 (p + 1 + ds.length = 65) ∧ p < 65 ∧ Aside0 (odI u0 = odI u ++ ds) ∧ Aside0 (wr.heap[w.heap.size]? = some (.cells (arrC (p + 1) ds) 97 (0, 0))) ∧ Aside0 (Below w.heap.size w wr))
  case first =>
    go_wp2_with fail
    go_loopg [1, 13] u0 (fun gk v1 v13 wr => ∃ (u q p : Nat) (ds : List Int), v1 = .int .u64 u ∧ v13 = .int .i64 ((p + 1 : Nat) : Int) ∧ Aside0 (p + 1 = 43 + q) ∧ p < 65 ∧ Aside0 (u ≤ gk) ∧ u < 18446744073709551616 ∧ Aside0 (u < 8 ^ q) ∧ Aside0 (p + 1 + ds.length = 65) ∧ Aside0 (odI u0 = odI u ++ ds) ∧ Aside0 (wr.heap[w.heap.size]? = some (.cells (arrC (p + 1) ds) 97 (0, 0))) ∧ Aside0 (Below w.heap.size w wr))
    case atStart => exact ⟨u0, 22, 64, [], rfl, rfl, ⟨rfl⟩, by omega, ⟨Nat.le_refl _⟩, hu0, H22, ⟨rfl⟩, ⟨by simp⟩, HK2, HB2⟩
    case round =>
      obtain ⟨u, q, p, ds, rfl, rfl, hpq, hp, hgk, hu, hq8, hlen, hod, hK, hB⟩ := hrel
      by_cases h8 : u < 8
      · have h8i : ¬ (8 : Int) ≤ (u : Int) := by omega
        go_wp2_with fail
        go_meet
        exact ⟨u, p, ds, rfl, rfl, h8, hlen, hp, hod, hK, hB⟩
      · have h8i : (8 : Int) ≤ (u : Int) := by omega
        obtain ⟨r, rfl⟩ : ∃ r, q = r + 2 := by
          have := hq8.out
          rcases q with _ | _ | r
          · simp at this; omega
          · simp at this; omega
          · exact ⟨r, rfl⟩
        obtain ⟨p', rfl⟩ : ∃ p', p = p' + 1 := ⟨p - 1, by have := hpq.out; omega⟩
        have ha7 := and7 u hu
        have hod2 : Aside0 (odI u0 = odI (u / 8) ++ ((48 + ((u % 8 : Nat) : Int)) :: ds)) := ⟨by rw [hod.out, odI_big h8, List.append_assoc]; rfl⟩
        have hq2 : Aside0 (u / 8 < 8 ^ (r + 1)) := ⟨by have := hq8.out; rw [Nat.pow_succ] at this; omega⟩
        have hd8 : u % 8 < 8 := by omega
        have hd7 : u / 8 ≤ gk - 1 ∧ 0 < gk := by have := hgk.out; omega
        have hdv : ((u : Int) / 8) = ((u / 8 : Nat) : Int) := by omega
        have hu7 : u / 8 < 18446744073709551616 := by omega
        generalize u % 8 = d at ha7 hod2 hd8
        generalize u / 8 = u' at hod2 hq2 hd7 hdv hu7
        have hix := digit8_index d hd8
        have hcell : wr.cell? ⟨w.heap.size, p' + 1, none⟩ = some (.int .u8 0) := (blk_cell hK.out _).trans (arrC_get _ ds)
        have hfr : wr.frozen? ⟨w.heap.size, p' + 1, none⟩ = false := blk_frozen hK.out _
        have hlen' := hlen.out
        have hpq' := hpq.out
        have hd7a := Aside0.mk hd7
        have hl2 : Aside0 (p' + 1 + ((48 + (d : Int)) :: ds).length = 65) := ⟨by rw [List.length_cons]; omega⟩
        have hpq2 : Aside0 (p' + 1 = 43 + (r + 1)) := ⟨by omega⟩
        clear hd7 hlen hpq hod hq8 hgk hpq' hlen'
        go_wp2_with fail
        go_roundg (gk - 1)
        case measure => have := hd7a.out; omega
        case rel => exact ⟨u', r + 1, p', (48 + (d : Int)) :: ds, rfl, rfl, hpq2, by omega, ⟨hd7a.out.1⟩, hu7, hq2, hl2, hod2, ⟨blk_put hK.out _ _ (arrC_set _ ds _)⟩, ⟨below_set hB.out (Nat.le_refl _)⟩⟩
  case rest =>
    obtain ⟨u, p, ds, rfl, rfl, h8, hlen, hp, hod, hK, hB⟩ := hcut
    have hix := digit8_index u h8
    have hcell := (blk_cell hK.out p).trans (arrC_get p ds)
    have hfr := blk_frozen hK.out p
    have hal : Tryd.prog.arrayLen 97 = 65 := by kernel_rfl
    have hsl : ∀ W, (Instr.sliceAt 97 (.pointer (some ⟨w.heap.size, 0, none⟩)) (some (.int .i64 (p : Int))) none none).run Tryd.prog W = .ok (.slice (some ⟨w.heap.size, p, none⟩) (65 - p) (65 - p)) W := fun W => by
      rw [run_sliceAt_array_l W 97 ⟨w.heap.size, 0, none⟩ (by kernel_rfl) .i64 (p : Int) (by omega) (by rw [hal]; omega)]
      go_simp
      omega
    have HK := Aside0.mk (blk_put hK.out p (.int .u8 (48 + (u : Int))) (arrC_set p ds _))
    have hcv := str_of (c := 65 - p) (C_arrC _ HK.out (by have := hlen.out; rw [List.length_cons]; omega) (by simp))
    rw [show ((48 + (u : Int)) :: ds).length = 65 - p by have := hlen.out; rw [List.length_cons]; omega] at hcv
    have hfin : Aside0 (odI u0 = (48 + (u : Int)) :: ds) := ⟨by rw [hod.out, odI_small h8]; rfl⟩
    go_wp2_with fail
    go_ret2
    exact ⟨by rw [hfin.out]; rfl, below_set hB.out (Nat.le_refl _)⟩
set_option maxRecDepth 100000 in
theorem formatInt_in (u0 : Nat) (hu0 : u0 < 9223372036854775808) (w : World) (hT : Bruijn w) :
    Calls Tryd.prog 47 #[.int .i64 u0, .int .i64 8] w fun e w' => e = .returned (.string (strOfNums (odI u0))) ∧ Below w.heap.size w w' := by
  have hw : IntKind.u64.wrap (u0 : Int) = (u0 : Int) := by rw [IntKind.wrap_u64]; omega
  have h0 : ¬ (u0 : Int) < 0 := by omega
  go_enter Tryd.func47, Tryd.ntmps47
  go_wp2_with (first
    | (go_at_call 64; refine (formatBits_calls u0 (by omega) _ hT).mono ?_; rintro e w1 ⟨rfl, hd⟩; have HD := Aside0.mk hd; clear hd)
    | fail)
  go_ret
  exact ⟨rfl, HD.out⟩
set_option maxRecDepth 100000 in
theorem formatInt_calls (u0 : Nat) (hu0 : u0 < 9223372036854775808) (w : World) (hT : Bruijn w) :
    Calls Tryd.prog 30 #[.int .i64 u0, .int .i64 8] w fun e w' => e = .returned (.string (strOfNums (odI u0))) ∧ Below w.heap.size w w' := by
  go_enter Tryd.func30, Tryd.ntmps30
  go_wp2_with (first
    | (go_at_call 47; refine (formatInt_in u0 hu0 _ hT).mono ?_; rintro e w1 ⟨rfl, hd⟩; have HD := Aside0.mk hd; clear hd)
    | fail)
  go_ret
  exact ⟨rfl, HD.out⟩
end Go.Proofs.YtngkbmlmlfofdaaDoor.F
namespace Go.Proofs.YtngkbmlmlfofdaaDoor.G
open Go.RowKit Go.Proofs.YtngkbmlmlfofdaaDoorW.PrintWords Go.Proofs.YtngkbmlmlfofdaaDoorW.PrintLast Go.Proofs.YtngkbmlmlfofdaaDoorW.PrintMore
open Go.Proofs.YtngkbmlmlfofdaaDoor.HA Go.Proofs.YtngkbmlmlfofdaaDoor.P Go.Proofs.YtngkbmlmlfofdaaDoor.F Go.Lib
set_option linter.unusedVariables false

/-- The tables that the calls of this chapter read. -/
def Tab (w : World) : Prop := Pow10 w ∧ Bruijn w
theorem Tab.below {w w' : World} (h : Tab w) (hb : Below w.heap.size w w') : Tab w' := ⟨h.1.below hb, h.2.below hb⟩
theorem Tab.drawn {w w' : World} (h : Tab w) (hb : Drawn0 w w') : Tab w' := h.below hb.below
theorem Tab.drewN {w : World} (h : Tab w) (n : Nat) : Tab (w.drewN n) := h.drawn ⟨n, rfl⟩
def strconv_FormatInt.f (a0 a1 : Int) : Option ByteArray := if a1 = 8 then (if 0 ≤ a0 then (if a0 < 9223372036854775808 then some (strOfNums (odI a0.toNat)) else none) else none) else none
theorem strconv_FormatInt.calls (a0 a1 : Int) (r : ByteArray) (w : World) (hT : Tab w) (h : strconv_FormatInt.f a0 a1 = some r) :
    Calls Tryd.prog 30 #[.int .i64 a0, .int .i64 a1] w fun e w' => e = .returned (.string r) ∧ Below w.heap.size w w' := by
  unfold strconv_FormatInt.f at h
  split at h
  · rename_i h8
    subst h8
    split at h
    · split at h
      · injection h with h
        subst h
        obtain ⟨u, rfl⟩ : ∃ u : Nat, a0 = u := ⟨a0.toNat, by omega⟩
        exact formatInt_calls u (by omega) w hT.2
      · cases h
    · cases h
  · cases h
def repB (a0 : ByteArray) (n : Nat) : ByteArray := ⟨(Lib.repeatL a0.data.toList n).toArray⟩
def strings_Repeat.f (a0 : ByteArray) (a1 : Int) : Option ByteArray := if 0 ≤ a1 then (if a0.size = 1 then (if a1 ≤ 1000000 then some (repB a0 a1.toNat) else none) else none) else none
theorem strings_Repeat.calls (a0 : ByteArray) (a1 : Int) (r : ByteArray) (w : World) (h : strings_Repeat.f a0 a1 = some r) :
    Calls Tryd.prog 31 #[.string a0, .int .i64 a1] w fun e w' => e = .returned (.string r) ∧ Below w.heap.size w w' := by
  unfold strings_Repeat.f at h
  split at h
  · split at h
    · rename_i h1
      split at h
      · injection h with h
        subst h
        obtain ⟨u, rfl⟩ : ∃ u : Nat, a1 = u := ⟨a1.toNat, by omega⟩
        rcases u with _ | _ | u
        · refine (Tryd.strings_Repeat_zero a0 w).mono ?_
          rintro e w' ⟨rfl, rfl⟩
          exact ⟨rfl, Below.refl _ _⟩
        · refine (Tryd.strings_Repeat_one a0 w).mono ?_
          rintro e w' ⟨rfl, rfl⟩
          refine ⟨?_, Below.refl _ _⟩
          have : repB a0 ((0 + 1 : Nat) : Int).toNat = a0 := by
            unfold repB
            simp [Lib.repeatL]
          rw [this]
        · exact Tryd.strings_Repeat_main a0 (u + 2) w (by omega) (by omega) (by rw [h1]; omega) (by omega)
      · cases h
    · cases h
  · cases h
def fields_PutSeconds.f (a0 : Int) : Option ByteArray := if -9223372036854775808 ≤ a0 ∧ a0 ≤ 9223372036854775807 then some (psB a0) else none
theorem fields_PutSeconds.calls (a0 : Int) (r : ByteArray) (w : World) (hT : Tab w) (h : fields_PutSeconds.f a0 = some r) :
    Calls Tryd.prog 17 #[.int .i64 a0] w fun e w' => e = .returned (.string r) ∧ Below w.heap.size w w' := by
  unfold fields_PutSeconds.f at h
  split at h
  · rename_i h1
    injection h with h
    subst h
    exact putSeconds_calls a0 h1 w hT.1
  · cases h
def allB (l : List Int) : Bool := l.all fun x => decide (0 ≤ x) && decide (x < 256)
theorem allB_ok {l : List Int} (h : allB l = true) : ∀ x ∈ l, byteOk x := by
  intro x hx
  unfold allB at h
  rw [List.all_eq_true] at h
  have := h x hx
  simp at this
  exact this
theorem allB_of {l : List Int} (h : ∀ x ∈ l, 0 ≤ x ∧ x < 256) : allB l = true := by
  unfold allB
  rw [List.all_eq_true]
  intro x hx
  have := h x hx
  simp [this.1, this.2]
def fields_Octal.f (l0 : List Int) : Option (Int × Int) := if l0.length ≤ 140737488355328 then (if allB l0 = true then some (octalP l0) else none) else none
theorem fields_Octal.calls (A0 : Option Addr) (c0 : Nat) (l0 : List Int) (r1 r2 : Int) (w : World) (hr0 : Kd.C (Kd.int .u8) w A0 l0.length l0) (hc0 : l0.length ≤ c0) (h : fields_Octal.f l0 = some (r1, r2)) :
    Calls Tryd.prog 10 #[.slice A0 l0.length c0] w fun e w' => e = .returned (.tuple #[.int .i64 r1, .int .i64 r2]) ∧ Below w.heap.size w w' := by
  unfold fields_Octal.f at h
  split at h
  · rename_i h1
    split at h
    · rename_i h2
      injection h with h
      have := octal_calls A0 c0 l0 w hr0 hc0 (allB_ok h2) h1
      unfold OctalV at this
      rw [h] at this
      exact this
    · cases h
  · cases h
end Go.Proofs.YtngkbmlmlfofdaaDoor.G
namespace Go.Proofs.YtngkbmlmlfofdaaDoor.F
open Go.RowKit Go.Proofs.YtngkbmlmlfofdaaDoorW.PrintWords Go.Proofs.YtngkbmlmlfofdaaDoorW.PrintLast Go.Proofs.YtngkbmlmlfofdaaDoorW.PrintMore
open Go.Proofs.YtngkbmlmlfofdaaDoor.HA Go.Proofs.YtngkbmlmlfofdaaDoor.P Go.Proofs.YtngkbmlmlfofdaaDoor.G Go.Lib
set_option linter.unusedVariables false
set_option linter.unusedSimpArgs false

/-- A number in so many digits of a base, the highest first. -/
def beB (b : Nat) : Nat → Nat → List Int
  | 0, _ => []
  | k + 1, v => beB b k (v / b) ++ [((v % b : Nat) : Int)]
theorem beB_len (b k v : Nat) : (beB b k v).length = k := by
  induction k generalizing v with
  | zero => rfl
  | succ k ih => rw [beB, List.length_append, ih]; rfl
theorem beB_zero (b k : Nat) (hb : 0 < b) : beB b k 0 = List.replicate k 0 := by
  induction k with
  | zero => rfl
  | succ k ih =>
    rw [beB, Nat.zero_div, ih, Nat.zero_mod, List.replicate_succ']
    rfl
def poP (v n : Int) : List Int × Bool :=
  if v < 0 ∨ v > 4611686018427387904 ∨ n < 2 ∨ n > 64 then ([], false)
  else if ((odI v.toNat).length : Int) < n then (List.replicate (n.toNat - 1 - (odI v.toNat).length) 48 ++ odI v.toNat ++ [0], true)
  else if n < 9 ∧ 0 < v.toNat / 256 ^ (n.toNat - 1) then ([], false)
  else (128 :: beB 256 (n.toNat - 1) v.toNat, true)
def PutV (r : List Int × Bool) (w : World) (e : Ending) (w' : World) : Prop := ∃ (A : Option Addr) (c : Nat), e = .returned (.tuple #[.slice A r.1.length c, .bool r.2]) ∧ Kd.C (Kd.int .u8) w' A r.1.length r.1 ∧ r.1.length ≤ c ∧ Below w.heap.size w w'
theorem C_nil (w : World) : Kd.C (Kd.int .u8) w none 0 [] := ⟨rfl, by omega, fun h => absurd h (by omega)⟩
theorem put_nil (w W : World) (h : Below w.heap.size w W) : PutV ([], false) w (.returned (.tuple #[.slice none 0 0, .bool false])) W := ⟨none, 0, rfl, C_nil _, Nat.le_refl _, h⟩
set_option maxHeartbeats 4000000 in
set_option maxRecDepth 100000 in
theorem put_bad (v n : Int) (hbad : v < 0 ∨ v > 4611686018427387904 ∨ n < 2 ∨ n > 64) (w : World) : Calls Tryd.prog 13 #[.int .i64 v, .int .i64 n] w (PutV (poP v n) w) := by
  have hp : Aside0 (poP v n = ([], false)) := ⟨by unfold poP; rw [if_pos hbad]⟩
  by_cases h1 : v < 0
  · go_enter Tryd.func13, Tryd.ntmps13
    go_wp2_with fail
    go_ret2
    rw [hp.out]
    exact put_nil _ _ (Below.refl _ _)
  · by_cases h2 : 4611686018427387904 < v
    · go_enter Tryd.func13, Tryd.ntmps13
      go_wp2_with fail
      go_ret2
      rw [hp.out]
      exact put_nil _ _ (Below.refl _ _)
    · by_cases h3 : n < 2
      · go_enter Tryd.func13, Tryd.ntmps13
        go_wp2_with fail
        go_ret2
        rw [hp.out]
        exact put_nil _ _ (Below.refl _ _)
      · have h4 : 64 < n := by omega
        go_enter Tryd.func13, Tryd.ntmps13
        go_wp2_with fail
        go_ret2
        rw [hp.out]
        exact put_nil _ _ (Below.refl _ _)
theorem odI_byte (u : Nat) : ∀ x ∈ odI u, 48 ≤ x ∧ x < 56 := by
  induction u using Nat.strongRecOn with
  | _ u ih =>
    by_cases h : u < 8
    · rw [odI_small h]
      intro x hx
      rw [List.mem_singleton] at hx
      omega
    · rw [odI_big h]
      intro x hx
      rcases List.mem_append.1 hx with hx | hx
      · exact ih _ (by omega) x hx
      · rw [List.mem_singleton] at hx
        omega
theorem str_len (l : List Int) (h : ∀ x ∈ l, byteOk x) : (strOfNums l).size = l.length := by
  have := nums_len (strOfNums l)
  rw [nums_str l h] at this
  exact this.symm
theorem odI_ok (u : Nat) : ∀ x ∈ odI u, byteOk x := fun x hx => by have := odI_byte u x hx; unfold byteOk; omega
theorem nums_append (a b : ByteArray) : nums (a ++ b) = nums a ++ nums b := by
  rw [nums_eq, nums_eq, nums_eq, ByteArray.data_append, Array.toList_append]
  unfold toN
  rw [List.map_append]
theorem repB_nums (k : Nat) : nums (repB ⟨#[48]⟩ k) = List.replicate k 48 := by
  unfold repB
  rw [toN_mk]
  induction k with
  | zero => rfl
  | succ k ih =>
    rw [Lib.repeatL]
    unfold toN at *
    rw [List.map_append, ih]
    rfl
theorem repB_size (k : Nat) : (repB ⟨#[48]⟩ k).size = k := by
  have := nums_len (repB ⟨#[48]⟩ k)
  rw [repB_nums] at this
  simpa using this.symm
set_option maxHeartbeats 4000000 in
set_option maxRecDepth 100000 in
theorem put_short (u m : Nat) (hu : u ≤ 4611686018427387904) (hm : 2 ≤ m ∧ m ≤ 64) (hs : (odI u).length < m) (w : World) (hT : Tab w) : Calls Tryd.prog 13 #[.int .i64 u, .int .i64 m] w (PutV (poP u m) w) := by
  obtain ⟨k, hk⟩ : ∃ k, m - 1 - (odI u).length = k := ⟨_, rfl⟩
  have hp : Aside0 (poP u m = (List.replicate k 48 ++ odI u ++ [0], true)) := ⟨by
    unfold poP
    rw [if_neg (by omega), if_pos (by simp only [Int.toNat_natCast]; omega)]
    simp only [Int.toNat_natCast]
    rw [hk]⟩
  have hSs : (strOfNums (odI u)).size = (odI u).length := str_len _ (odI_ok u)
  have hSn : Aside0 (nums (strOfNums (odI u)) = odI u) := ⟨nums_str _ (odI_ok u)⟩
  have hf : Aside0 (∀ W, Tab W → Calls Tryd.prog 30 #[.int .i64 u, .int .i64 8] W fun e w' => e = .returned (.string (strOfNums (odI u))) ∧ Below W.heap.size W w') := ⟨fun W h => formatInt_calls u (by omega) W h.2⟩
  generalize strOfNums (odI u) = S at hSs hSn hf
  have hSm : (S.size : Int) < (m : Int) := by omega
  have hkk : (m : Int) - 1 - (S.size : Int) = (k : Int) := by omega
  have hrep : Aside0 (∀ W, Calls Tryd.prog 31 #[.string ⟨#[48]⟩, .int .i64 (k : Int)] W fun e w' => e = .returned (.string (repB ⟨#[48]⟩ k)) ∧ Below W.heap.size W w') := ⟨fun W => strings_Repeat.calls ⟨#[48]⟩ k _ W (by
    unfold strings_Repeat.f
    rw [if_pos (by omega), if_pos (by rfl), if_pos (by omega)]
    rw [Int.toNat_natCast])⟩
  have hRs := repB_size k
  have hRn := Aside0.mk (repB_nums k)
  generalize repB ⟨#[48]⟩ k = R at hrep hRs hRn
  have s1 : R.size + S.size ≤ 9223372036854775807 := by omega
  have s2 : R.size + S.size + 1 ≤ 9223372036854775807 := by omega
  obtain ⟨T, hTT⟩ : ∃ T : ByteArray, R ++ S ++ ⟨#[0]⟩ = T := ⟨_, rfl⟩
  have hTs : T.size = List.length (List.replicate k (48 : Int) ++ odI u ++ [0]) := by
    rw [← hTT, ByteArray.size_append, ByteArray.size_append, hRs, hSs]
    simp
    rfl
  have hTn : Aside0 (bytesOf T = List.replicate k (48 : Int) ++ odI u ++ [0]) := ⟨by
    have : bytesOf T = nums T := rfl
    rw [this, ← hTT, nums_append, nums_append, hRn.out, hSn.out]
    rfl⟩
  have kb := fun W => print_bytes (P := Tryd.prog) 9 22 5 Tryd.underlying9 Tryd.underlying22 Tryd.underlying5 T W
  have hTl : T.size ≤ 9223372036854775807 := by rw [← hTT, ByteArray.size_append, ByteArray.size_append]; have : (⟨#[0]⟩ : ByteArray).size = 1 := rfl; omega
  have HTs := Aside0.mk hTs
  have HTl := Aside0.mk hTl
  clear hTs hTl hRs hs hk hSs
  have g1 : ¬ (u : Int) < 0 := by omega
  have g2 : ¬ (4611686018427387904 : Int) < (u : Int) := by omega
  have g3 : ¬ (m : Int) < 2 := by omega
  have g4 : ¬ (64 : Int) < (m : Int) := by omega
  go_enter Tryd.func13, Tryd.ntmps13
  go_wp2_with (first
    | (go_at_call 30; (with_reducible refine (hf.out _ hT).mono ?_); rintro e w1 ⟨rfl, hb1⟩; have HB1 := Aside0.mk hb1; clear hb1)
    | (go_at_call 31; (with_reducible refine (hrep.out _).mono ?_); rintro e w2 ⟨rfl, hb2⟩; have HB2 := Aside0.mk (below_step HB1.out hb2); clear hb2)
    | fail)
  go_ret2
  rw [hp.out]
  refine ⟨_, _, by rw [← HTs.out]; rfl, ?_, ?_, ?_⟩
  · have h := Kd.C_of_reads (h1 := fun _ => rfl) (bytes_reads w2 5 T HTl.out)
    rw [HTs.out, hTn.out] at h
    exact h
  · show List.length (List.replicate k (48 : Int) ++ odI u ++ [0]) ≤ _
    rw [← HTs.out]
    exact grownCap_ge _ _ _ _
  · exact bytes_below HB2.out HB2.out.size _ _
end Go.Proofs.YtngkbmlmlfofdaaDoor.F
namespace Go.Proofs.YtngkbmlmlfofdaaDoor.F
open Go.RowKit Go.Proofs.YtngkbmlmlfofdaaDoorW.PrintWords Go.Proofs.YtngkbmlmlfofdaaDoorW.PrintLast Go.Proofs.YtngkbmlmlfofdaaDoorW.PrintMore
open Go.Proofs.YtngkbmlmlfofdaaDoor.HA Go.Proofs.YtngkbmlmlfofdaaDoor.P Go.Proofs.YtngkbmlmlfofdaaDoor.G Go.Lib
set_option linter.unusedVariables false
set_option linter.unusedSimpArgs false

theorem shr256 (u k : Nat) : (u : Int) / 2 ^ (8 * k) = ((u / 256 ^ k : Nat) : Int) := by
  have h : (2 : Nat) ^ (8 * k) = 256 ^ k := by rw [Nat.pow_mul]
  rw [← h, Int.natCast_ediv, Int.natCast_pow]
  rfl
set_option maxHeartbeats 4000000 in
set_option maxRecDepth 100000 in
theorem put_over (u m : Nat) (hu : u ≤ 4611686018427387904) (hm : 2 ≤ m ∧ m < 9) (hs : ¬ (odI u).length < m) (hov : 0 < u / 256 ^ (m - 1)) (w : World) (hT : Tab w) : Calls Tryd.prog 13 #[.int .i64 u, .int .i64 m] w (PutV (poP u m) w) := by
  have hp : Aside0 (poP u m = ([], false)) := ⟨by
    unfold poP
    rw [if_neg (by omega), if_neg (by simp only [Int.toNat_natCast]; omega), if_pos (by simp only [Int.toNat_natCast]; exact ⟨by omega, hov⟩)]⟩
  have hSs : (strOfNums (odI u)).size = (odI u).length := str_len _ (odI_ok u)
  have hf : Aside0 (∀ W, Tab W → Calls Tryd.prog 30 #[.int .i64 u, .int .i64 8] W fun e w' => e = .returned (.string (strOfNums (odI u))) ∧ Below W.heap.size W w') := ⟨fun W h => formatInt_calls u (by omega) W h.2⟩
  generalize strOfNums (odI u) = S at hSs hf
  have hSm : ¬ (S.size : Int) < (m : Int) := by omega
  have g1 : ¬ (u : Int) < 0 := by omega
  have g2 : ¬ (4611686018427387904 : Int) < (u : Int) := by omega
  have g3 : ¬ (m : Int) < 2 := by omega
  have g4 : ¬ (64 : Int) < (m : Int) := by omega
  have g5 : (m : Int) < 9 := by omega
  have q1 : (0 : Int) < (u : Int) / 2 ^ (8 * (m - 1)) := by rw [shr256]; omega
  clear hs hSs
  go_enter Tryd.func13, Tryd.ntmps13
  go_wp2_with (first
    | (go_at_call 30; (with_reducible refine (hf.out _ hT).mono ?_); rintro e w1 ⟨rfl, hb1⟩; have HB1 := Aside0.mk hb1; clear hb1)
    | fail)
  go_ret2
  rw [hp.out]
  exact put_nil _ _ HB1.out
/-- The row under way: the mark, the bytes that are still 0, the bytes that are laid. -/
def arrF (i : Nat) (ds : List Int) : Array Value := ((128 :: (List.replicate i 0 ++ ds)).map (Value.int .u8)).toArray
theorem arrF_set (p : Nat) (ds : List Int) (d : Int) : (arrF (p + 1) ds).setIfInBounds (p + 1) (.int .u8 d) = arrF p (d :: ds) := by
  unfold arrF
  rw [List.setIfInBounds_toArray, ← List.map_set, List.set_cons_succ, List.replicate_succ', List.append_assoc, List.set_append_right _ _ (by simp)]
  simp
theorem arrF_get (p : Nat) (ds : List Int) : (arrF (p + 1) ds)[p + 1]? = some (.int .u8 0) := by
  unfold arrF
  rw [List.getElem?_toArray, List.getElem?_map, List.getElem?_cons_succ, List.replicate_succ', List.append_assoc, List.getElem?_append_right (by simp)]
  simp
theorem made_rep (n : Nat) (z : Value) : madeCells #[z] n = Array.replicate n z := by
  apply Array.ext
  · simp [size_madeCells]
  · intro i h1 h2
    simp [madeCells, Nat.mod_one]
theorem arrF_first (k : Nat) : (Array.replicate (k + 1) (Value.int .u8 0)).setIfInBounds 0 (.int .u8 128) = arrF k [] := by
  unfold arrF
  rw [← List.toArray_replicate, List.setIfInBounds_toArray, List.replicate_succ, List.set_cons_zero]
  simp
theorem arrF_done (i : Nat) (ds : List Int) : arrF i ds = ((128 :: (beB 256 i 0 ++ ds)).map (Value.int .u8)).toArray := by
  unfold arrF
  rw [beB_zero 256 i (by decide)]
theorem C_row {W : World} {B : Nat} {ds : List Int} (T : TypeId) (h : W.heap[B]? = some (.cells (ds.map (Value.int .u8)).toArray T (0, 0))) (hn : ds.length ≤ 9223372036854775807) : Kd.C (Kd.int .u8) W (some ⟨B, 0, none⟩) ds.length ds := by
  refine ⟨rfl, hn, fun _ => ⟨_, rfl, fun j x hj => ?_⟩⟩
  refine ⟨[Value.int .u8 x], rfl, rfl, fun i u hu => ?_⟩
  have hs : (Kd.int IntKind.u8).sz = 1 := rfl
  have hi : i = 0 := by
    rcases i with _ | i
    · rfl
    · simp at hu
  subst hi
  simp at hu
  subst hu
  rw [hs, Lib.add_plain, blk_cell h, List.getElem?_toArray, List.getElem?_map]
  simp [hj]
set_option maxHeartbeats 4000000 in
set_option maxRecDepth 100000 in
theorem put_full (u m : Nat) (hu : u ≤ 4611686018427387904) (hm : 2 ≤ m ∧ m ≤ 64) (hs : ¬ (odI u).length < m) (hov : ¬ (m < 9 ∧ 0 < u / 256 ^ (m - 1))) (w : World) (hT : Tab w) : Calls Tryd.prog 13 #[.int .i64 u, .int .i64 m] w (PutV (poP u m) w) := by
  have hp : Aside0 (poP u m = (128 :: beB 256 (m - 1) u, true)) := ⟨by
    unfold poP
    rw [if_neg (by omega), if_neg (by simp only [Int.toNat_natCast]; omega), if_neg (by simp only [Int.toNat_natCast]; intro h; exact hov ⟨by omega, h.2⟩)]
    simp only [Int.toNat_natCast]⟩
  have hSs : (strOfNums (odI u)).size = (odI u).length := str_len _ (odI_ok u)
  have hf : Aside0 (∀ W, Tab W → Calls Tryd.prog 30 #[.int .i64 u, .int .i64 8] W fun e w' => e = .returned (.string (strOfNums (odI u))) ∧ Below W.heap.size W w') := ⟨fun W h => formatInt_calls u (by omega) W h.2⟩
  generalize strOfNums (odI u) = S at hSs hf
  have hSm : ¬ (S.size : Int) < (m : Int) := by omega
  have hSd : decide (S.size < m) = false := decide_eq_false (by omega)
  have g1 : ¬ (u : Int) < 0 := by omega
  have g2 : ¬ (4611686018427387904 : Int) < (u : Int) := by omega
  have g3 : ¬ (m : Int) < 2 := by omega
  have g4 : ¬ (64 : Int) < (m : Int) := by omega
  obtain ⟨p, hpm⟩ : ∃ p, p + 1 = m := ⟨m - 1, by omega⟩
  have hpm1 : m - 1 = p := by omega
  rw [hpm1] at hov
  obtain ⟨Q, hQ⟩ : ∃ Q : Int, (u : Int) / 2 ^ (8 * p) = Q := ⟨_, rfl⟩
  have hc9 : ((m : Int) < 9 ∧ ¬ (0 : Int) < Q) ∨ ¬ (m : Int) < 9 := by
    by_cases h9 : m < 9
    · refine .inl ⟨by omega, ?_⟩
      rw [← hQ, shr256]
      intro h
      exact hov ⟨h9, by omega⟩
    · exact .inr (by omega)
  clear hs hSs hov hpm1
  have hm2 : m ≤ 64 := hm.2
  have hm0 : 0 < m := by omega
  have hi : (m : Int) - 1 = (p : Int) := by omega
  have hmp : Aside0 (m - 1 = p) := ⟨by omega⟩
  have hp64 : p ≤ 64 := by omega
  have hmk := print_make 22 5 .u8 1 Tryd.underlying22 info5 (by decide) m (by omega)
  have hm0g : Aside0 ((madeCells #[Value.int .u8 0] m)[0]? = some (.int .u8 0)) := ⟨by rw [← hpm, made_rep]; simp⟩
  have hm1g : Aside0 ((madeCells #[Value.int .u8 0] m).setIfInBounds 0 (.int .u8 128) = arrF p []) := ⟨by rw [← hpm, made_rep, arrF_first]⟩
  have Hpm := Aside0.mk hpm
  clear hpm hm
  rcases hc9 with ⟨g5, g6⟩ | g5
  all_goals
    go_enter Tryd.func13, Tryd.ntmps13
    go_upto_block 0 with (first
      | (go_at_call 30; (with_reducible refine (hf.out _ hT).mono ?_); rintro e w1 ⟨rfl, hb1⟩; have HB1 := Aside0.mk hb1; clear hb1
         have HKn := Aside0.mk (blk_new w1 (.cells (madeCells #[Value.int .u8 0] m) 5)); have hc0 := (blk_cell HKn.out 0).trans hm0g.out; have hf0 := blk_frozen HKn.out 0
         have HK0 : Aside0 ((w1.alloc (.cells ((madeCells #[Value.int .u8 0] m).setIfInBounds 0 (.int .u8 128)) 5)).heap[w1.heap.size]? = some (.cells (arrF p []) 5 (0, 0))) := ⟨by rw [blk_new, hm1g.out]⟩; have HB0 : Aside0 (Below w.heap.size w (w1.alloc (.cells ((madeCells #[Value.int .u8 0] m).setIfInBounds 0 (.int .u8 128)) 5))) := ⟨below_alloc HB1.out _⟩; have HZ := Aside0.mk HB1.out.size)
      | fail)
    clear hQ hSm
    go_cut [0, 8] (fun v0 v8 wr => Aside0 (wr.heap[w1.heap.size]? = some (.cells ((128 :: beB 256 p u).map (Value.int .u8)).toArray 5 (0, 0))) ∧ Aside0 (Below w.heap.size w wr))
    case first =>
      go_wp2_with fail
      go_loopg [0, 8] p (fun gk v0 v8 wr => ∃ (v i : Nat) (ds : List Int), v0 = .int .i64 v ∧ v8 = .int .i64 i ∧ Aside0 (i ≤ gk) ∧ v ≤ 4611686018427387904 ∧ i ≤ p ∧ i ≤ 64 ∧ Aside0 (i + ds.length = p) ∧ Aside0 (beB 256 p u = beB 256 i v ++ ds) ∧ Aside0 (wr.heap[w1.heap.size]? = some (.cells (arrF i ds) 5 (0, 0))) ∧ Aside0 (Below w.heap.size w wr))
      case atStart => exact ⟨u, p, [], rfl, rfl, ⟨Nat.le_refl _⟩, hu, Nat.le_refl _, hp64, ⟨rfl⟩, ⟨by simp⟩, HK0, HB0⟩
      case round =>
        obtain ⟨v, i, ds, rfl, rfl, hgk, hv, hip, hi64, hlen, hbe, hK, hB⟩ := hrel
        clear hc0 hf0
        by_cases hi0 : i = 0
        · subst hi0
          go_wp2_with fail
          go_meet
          refine ⟨⟨?_⟩, hB⟩
          rw [hK.out, hbe.out]
          rfl
        · by_cases hv0 : v = 0
          · subst hv0
            have k1 : (0 : Int) < (i : Int) := by omega
            go_wp2_with fail
            go_meet
            refine ⟨⟨?_⟩, hB⟩
            rw [hK.out, hbe.out, arrF_done]
          · obtain ⟨i', rfl⟩ : ∃ i', i = i' + 1 := ⟨i - 1, by omega⟩
            have k2 : (0 : Int) < (v : Int) := by omega
            have hbe2 : Aside0 (beB 256 p u = beB 256 i' (v / 256) ++ (((v % 256 : Nat) : Int) :: ds)) := ⟨by rw [hbe.out, beB, List.append_assoc]; rfl⟩
            have hdv : (v : Int) % 256 = ((v % 256 : Nat) : Int) := by omega
            have hvv : (v : Int) / 256 = ((v / 256 : Nat) : Int) := by omega
            have hv2 : v / 256 ≤ 4611686018427387904 := by omega
            have hd2 : v % 256 < 256 := by omega
            generalize v / 256 = v' at hbe2 hvv hv2
            generalize v % 256 = d at hbe2 hdv hd2
            have hcell := (blk_cell hK.out (i' + 1)).trans (arrF_get i' ds)
            have hfr := blk_frozen hK.out (i' + 1)
            have hgk2 : Aside0 (i' ≤ gk - 1 ∧ 0 < gk) := ⟨by have := hgk.out; omega⟩
            have hl2 : Aside0 (i' + (((d : Int)) :: ds).length = p) := ⟨by have := hlen.out; rw [List.length_cons]; omega⟩
            have him : i' + 1 < m := by have := Hpm.out; omega
            clear hbe hlen hgk
            go_wp2_with fail
            go_roundg (gk - 1)
            case measure => have := hgk2.out; omega
            case rel => exact ⟨v', i', (d : Int) :: ds, rfl, rfl, ⟨hgk2.out.1⟩, hv2, by omega, by omega, hl2, hbe2, ⟨blk_put hK.out _ _ (arrF_set i' ds _)⟩, ⟨below_set hB.out HZ.out⟩⟩
    case rest =>
      obtain ⟨hK, hB⟩ := hcut
      have hC := Aside0.mk (C_row _ hK.out (by rw [List.length_cons, beB_len]; omega))
      go_wp2_with fail
      go_ret2
      rw [hp.out, hmp.out]
      have hl : (128 :: beB 256 p u).length = m := by rw [List.length_cons, beB_len]; exact Hpm.out
      refine ⟨_, m, by rw [hl]; rfl, hC.out, by rw [hl]; exact Nat.le_refl _, hB.out⟩
end Go.Proofs.YtngkbmlmlfofdaaDoor.F
namespace Go.Proofs.YtngkbmlmlfofdaaDoor.F
open Go.RowKit Go.Proofs.YtngkbmlmlfofdaaDoorW.PrintWords Go.Proofs.YtngkbmlmlfofdaaDoorW.PrintLast Go.Proofs.YtngkbmlmlfofdaaDoorW.PrintMore
open Go.Proofs.YtngkbmlmlfofdaaDoor.HA Go.Proofs.YtngkbmlmlfofdaaDoor.HB Go.Proofs.YtngkbmlmlfofdaaDoor.HC Go.Proofs.YtngkbmlmlfofdaaDoor.P Go.Proofs.YtngkbmlmlfofdaaDoor.G Go.Lib
set_option linter.unusedVariables false
set_option linter.unusedSimpArgs false

theorem put_calls (v n : Int) (hv : -9223372036854775808 ≤ v ∧ v ≤ 9223372036854775807) (w : World) (hT : Tab w) : Calls Tryd.prog 13 #[.int .i64 v, .int .i64 n] w (PutV (poP v n) w) := by
  by_cases hbad : v < 0 ∨ v > 4611686018427387904 ∨ n < 2 ∨ n > 64
  · exact put_bad v n hbad w
  · obtain ⟨u, rfl⟩ : ∃ u : Nat, v = u := ⟨v.toNat, by omega⟩
    obtain ⟨m, rfl⟩ : ∃ m : Nat, n = m := ⟨n.toNat, by omega⟩
    by_cases hs : (odI u).length < m
    · exact put_short u m (by omega) (by omega) hs w hT
    · by_cases hov : m < 9 ∧ 0 < u / 256 ^ (m - 1)
      · exact put_over u m (by omega) (by omega) hs hov.2 w hT
      · exact put_full u m (by omega) (by omega) hs hov w hT
/-! ### alive -/
def lead : List Int := [32, 48, 49, 55, 0, 0]
theorem oct15 : octalP lead = (15, 0) := by decide +kernel
theorem odI64 : odI 64 = [49, 48, 48] := by
  rw [odI_big (by decide), odI_big (by decide), odI_small (by decide)]
  rfl
theorem po64 : poP 64 3 = ([128, 0, 64], true) := by
  unfold poP
  rw [show (64 : Int).toNat = 64 from rfl, odI64]
  decide +kernel
theorem sec15 : fields_Seconds.f 5 ⟨#[45, 49, 46, 53]⟩ = some (-1500000000, 0) := by decide +kernel
theorem le513 : fields_Le.f 10 [1, 2] = some 513 := by decide +kernel
theorem dec1 : Lib.decDigits 1 = [49] := by simp [Lib.decDigits]
theorem dec15 : Lib.decDigits 1500000000 = [49, 53, 48, 48, 48, 48, 48, 48, 48, 48] := by simp [Lib.decDigits]
theorem ps15 : psB (-1500000000) = ⟨#[45, 49, 46, 53]⟩ := by
  unfold psB psU fracB decB
  rw [show (-1500000000 : Int).natAbs / 1000000000 = 1 from rfl, show 1000000000 + (-1500000000 : Int).natAbs % 1000000000 = 1500000000 from rfl, dec1, dec15]
  decide +kernel
theorem C_lit {w : World} {g : Nat} {l : List Int} {t : TypeId} {fr : Nat × Nat} (h : w.heap[g]? = some (.cells (l.map (Value.int .u8)).toArray t fr)) (hl : l.length ≤ 9223372036854775807) : Kd.C (Kd.int .u8) w (some ⟨g, 0, none⟩) l.length l := by
  refine ⟨rfl, hl, fun _ => ⟨_, rfl, fun j x hj => ?_⟩⟩
  refine ⟨[Value.int .u8 x], rfl, rfl, fun i u hu => ?_⟩
  have hs : (Kd.int IntKind.u8).sz = 1 := rfl
  have hi : i = 0 := by
    rcases i with _ | i
    · rfl
    · simp at hu
  subst hi
  simp at hu
  subst hu
  rw [hs, Lib.add_plain]
  refine (cell_of_row w g _ _ t fr h).trans ?_
  rw [List.getElem?_toArray, List.getElem?_map]
  simp [hj]
theorem lit_byte (l : List Int) (h : (l.all fun x => decide (0 ≤ x) && decide (x < 256)) = true) : ∀ x ∈ l, byteOk x := allB_ok h
theorem conv22 (w : World) (C : Array Value) (n c : Nat) : (convert 22 22 (.slice (some ⟨w.heap.size, 0, none⟩) n c)).run Tryd.prog (w.alloc (.cells C 5)) = .ok (.slice (some ⟨w.heap.size, 0, none⟩) n c) (w.alloc (.cells C 5 (C.size, C.size + 1))) :=
  Lib.run_convert_bytes_const w 22 5 C n c Tryd.underlying22 (by kernel_rfl)
theorem octal_lead (A : Option Addr) (w : World) (hC : Kd.C (Kd.int .u8) w A 6 lead) : Calls Tryd.prog 10 #[.slice A 6 6] w fun e w' => e = .returned (.tuple #[.int .i64 15, .int .i64 0]) ∧ Below w.heap.size w w' := by
  have := octal_calls A 6 lead w hC (Nat.le_refl _) (lit_byte _ (by decide)) (by decide)
  unfold OctalV at this
  rw [oct15] at this
  exact this
theorem put_64 (w : World) (hT : Tab w) : Calls Tryd.prog 13 #[.int .i64 64, .int .i64 3] w (PutV ([128, 0, 64], true) w) := by
  have := put_calls 64 3 (by omega) w hT
  rw [po64] at this
  exact this
theorem seconds_15 (w : World) : Calls Tryd.prog 15 #[.string ⟨#[45, 49, 46, 53]⟩] w fun e w' => e = .returned (.tuple #[.int .i64 (-1500000000), .int .i64 0]) ∧ Below w.heap.size w w' := fields_Seconds.calls 5 _ _ _ w sec15
theorem le_513 (A : Option Addr) (w : World) (hC : Kd.C (Kd.int .u8) w A 2 [1, 2]) : Calls Tryd.prog 19 #[.slice A 2 2] w fun e w' => e = .returned (.int .u64 513) ∧ Below w.heap.size w w' := fields_Le.calls 10 A 2 [1, 2] 513 w hC (Nat.le_refl _) le513
theorem putSeconds_15 (w : World) (hT : Tab w) : Calls Tryd.prog 17 #[.int .i64 (-1500000000)] w fun e w' => e = .returned (.string ⟨#[45, 49, 46, 53]⟩) ∧ Below w.heap.size w w' := by
  have := putSeconds_calls (-1500000000) (by omega) w hT.1
  rw [ps15] at this
  exact this
set_option maxHeartbeats 4000000 in
set_option maxRecDepth 100000 in
theorem alive_calls (w : World) (hT : Tab w) : Calls Tryd.prog 12 #[] w fun e w' => e = .returned (.bool true) ∧ Below w.heap.size w w' := by
  have hcv1 := conv22 w #[.int .u8 32, .int .u8 48, .int .u8 49, .int .u8 55, .int .u8 0, .int .u8 0] 6 6
  go_enter Tryd.func12, Tryd.ntmps12
  go_wp2_with fail
  clear hcv1
  generalize hw1 : World.alloc _ _ = w1
  have HJ1 : Aside0 (w1.heap[w.heap.size]? = some (.cells (lead.map (Value.int .u8)).toArray 5 (6, 7))) := ⟨by rw [← hw1]; exact blk_new _ _⟩
  have HB1 : Aside0 (Below w.heap.size w w1) := ⟨by rw [← hw1]; exact below_alloc (Below.refl _ _) _⟩
  clear hw1
  refine (octal_lead _ _ (C_lit HJ1.out (by decide))).mono ?_
  rintro e w2 ⟨rfl, hb2⟩
  have HB2 := Aside0.mk (below_step HB1.out hb2)
  clear hb2 HB1 HJ1
  go_upto_region 3 with (first
    | (go_at_call 13; (with_reducible refine (put_64 _ (hT.below HB2.out)).mono ?_); rintro e w3 ⟨A, c, rfl, hC, hc, hb3⟩; have HB3 := Aside0.mk (below_step HB2.out hb3); have HC3 := Aside0.mk hC; obtain ⟨ad, rfl, _⟩ := hC.2.2 (by decide); clear hC hb3)
    | fail)
  go_upto_region 4 with (first
    | (go_at_call 15; (with_reducible refine (seconds_15 _).mono ?_); rintro e w4 ⟨rfl, hb4⟩; have HB4 := Aside0.mk (below_step HB3.out hb4); have HC4 := Aside0.mk (Kd.C_below HC3.out hb4); clear hb4)
    | fail)
  have hst : (convert 22 9 (.slice (some ad) 3 c)).run Tryd.prog w4 = .ok (.string ⟨#[128, 0, 64]⟩) w4 := str_of HC4.out
  go_wp2_with (first
    | (go_at_call 19; refine (le_513 _ _ (C_lit (l := [1, 2]) (blk_new _ _) (by decide))).mono ?_; rintro e w5 ⟨rfl, hb5⟩; have HB5 := Aside0.mk (below_step (below_alloc HB4.out _) hb5); clear hb5)
    | (go_at_call 17; (with_reducible refine (putSeconds_15 _ (hT.below HB5.out)).mono ?_); rintro e w6 ⟨rfl, hb6⟩; have HB6 := Aside0.mk (below_step HB5.out hb6); clear hb6)
    | fail)
  go_ret
  exact ⟨by first | rfl | simp, HB6.out⟩
end Go.Proofs.YtngkbmlmlfofdaaDoor.F
namespace Go.Proofs.YtngkbmlmlfofdaaDoor.G
open Go.RowKit Go.Proofs.YtngkbmlmlfofdaaDoorW.PrintWords Go.Proofs.YtngkbmlmlfofdaaDoorW.PrintLast Go.Proofs.YtngkbmlmlfofdaaDoorW.PrintMore
open Go.Proofs.YtngkbmlmlfofdaaDoor.HA Go.Proofs.YtngkbmlmlfofdaaDoor.P Go.Proofs.YtngkbmlmlfofdaaDoor.F Go.Lib
set_option linter.unusedVariables false

def wainloadlaw03_alive.f : Option Bool := some true
theorem wainloadlaw03_alive.calls (r : Bool) (w : World) (hT : Tab w) (h : wainloadlaw03_alive.f = some r) :
    Calls Tryd.prog 12 #[] w fun e w' => e = .returned (.bool r) ∧ Below w.heap.size w w' := by
  injection h with h
  subst h
  exact alive_calls w hT
end Go.Proofs.YtngkbmlmlfofdaaDoor.G
