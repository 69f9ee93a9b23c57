/- The reference's PutSeconds is the plain one. -/
import Derived.Test.YtngkbmlmlfofdaaDoorPj
import Derived.Test.YtngkbmlmlfofdaaDoorPh
namespace Go.Proofs.YtngkbmlmlfofdaaDoor.P
open Go.RowKit Go.Proofs.YtngkbmlmlfofdaaDoorW.PrintWords Go.Proofs.YtngkbmlmlfofdaaDoorW.PrintLast Go.Proofs.YtngkbmlmlfofdaaDoorW.PrintMore
open Go.Proofs.YtngkbmlmlfofdaaDoor.HA Go.Proofs.YtngkbmlmlfofdaaDoor.HB Go.Proofs.YtngkbmlmlfofdaaDoor.HC Go.Proofs.YtngkbmlmlfofdaaDoor.HD Go.Proofs.YtngkbmlmlfofdaaDoor.G Go.Proofs.YtngkbmlmlfofdaaDoor.F
set_option linter.unusedVariables false

theorem below_30 (k u : Nat) (hk : 20 ≤ k ∧ k ≤ 30) (hu : u ≤ 9223372036854775807) : wainloadref03_below.f k (-(u : Int)) = some (decB u) := by
  obtain ⟨m, rfl⟩ : ∃ m, k = m + 1 := ⟨k - 1, by omega⟩
  refine below_f m u ?_ hu (by omega)
  have : 10 ^ 19 ≤ 10 ^ m := Nat.pow_le_pow_right (by decide) (by omega)
  have e : (10 : Nat) ^ 19 = 10000000000000000000 := by decide
  omega
theorem rps_l0 : ∀ (j k s : Nat) (X : ByteArray), s < 10 ^ j → j ≤ 9 → j + 20 ≤ k → k ≤ 30 → X.size + j < 1000 → ∃ R, wainloadref03_PutSeconds.l0 k X (-((s * 10 ^ (9 - j) : Nat) : Int)) = some R ∧ nums R = nums X ++ tz j s := by
  intro j
  induction j with
  | zero =>
    intro k s X hs hj hk hk2 hX
    obtain ⟨k, rfl⟩ : ∃ m, k = m + 1 := ⟨k - 1, by omega⟩
    obtain rfl : s = 0 := by simpa using hs
    refine ⟨X, ?_, ?_⟩
    · rw [wainloadref03_PutSeconds.l0, if_pos (by simp)]
    · show nums X = nums X ++ []
      rw [List.append_nil]
  | succ j ih =>
    intro k s X hs hj hk hk2 hX
    obtain ⟨k, rfl⟩ : ∃ m, k = m + 1 := ⟨k - 1, by omega⟩
    by_cases h0 : s = 0
    · subst h0
      refine ⟨X, ?_, ?_⟩
      · rw [wainloadref03_PutSeconds.l0, if_pos (by simp)]
      · rw [(tz_nil (j + 1) 0 hs).2 rfl, List.append_nil]
    · have hp : 0 < 10 ^ j := Nat.pow_pos (by decide)
      have hP : 0 < 10 ^ (9 - j) := Nat.pow_pos (by decide)
      have e10 : s * 10 ^ (9 - (j + 1)) * 10 = s * 10 ^ (9 - j) := by rw [Nat.mul_assoc, ← Nat.pow_succ, show (9 - (j + 1)).succ = 9 - j by omega]
      have e9 : 10 ^ j * 10 ^ (9 - j) = 1000000000 := by rw [← Nat.pow_add, show j + (9 - j) = 9 by omega]
      have hm : s * 10 ^ (9 - j) < 10 * 1000000000 := by
        rw [← e9, ← Nat.mul_assoc, Nat.mul_comm 10, ← Nat.pow_succ]
        exact Nat.mul_lt_mul_of_pos_right hs hP
      have hd : s * 10 ^ (9 - j) / 1000000000 = s / 10 ^ j := by rw [← e9, Nat.mul_div_mul_right _ _ hP]
      have hr : s * 10 ^ (9 - j) % 1000000000 = s % 10 ^ j * 10 ^ (9 - j) := by rw [← e9, Nat.mul_mod_mul_right]
      have hne : ¬ s * 10 ^ (9 - (j + 1)) = 0 := by
        intro h
        rcases Nat.mul_eq_zero.1 h with h | h
        · exact h0 h
        · have : 0 < 10 ^ (9 - (j + 1)) := Nat.pow_pos (by decide)
          omega
      have htz := tz_succ j s hs h0
      have hlt : s / 10 ^ j < 10 := by
        rw [Nat.div_lt_iff_lt_mul hp, Nat.mul_comm, ← Nat.pow_succ]
        exact hs
      have hsm := Nat.mod_lt s hp
      rw [wainloadref03_PutSeconds.l0]
      generalize hM : s * 10 ^ (9 - (j + 1)) = M at e10 hne
      rw [← e10] at hm hd hr
      have hw : wrap64 (-(M : Int) * 10) = -((M * 10 : Nat) : Int) := by rw [w64 (by omega)]; omega
      have hq : Int.tdiv (-((M * 10 : Nat) : Int)) 1000000000 = -((s / 10 ^ j : Nat) : Int) := by
        rw [Int.neg_tdiv, Int.tdiv_eq_ediv_of_nonneg (by omega), ← hd]
        omega
      have hmm : Int.tmod (-((M * 10 : Nat) : Int)) 1000000000 = -((s % 10 ^ j * 10 ^ (9 - j) : Nat) : Int) := by
        rw [Int.neg_tmod, Int.tmod_eq_emod_of_nonneg (by omega), ← hr]
        omega
      have hdb := decB_pos (s / 10 ^ j) (by omega)
      generalize s / 10 ^ j = D at hq hlt htz hdb
      obtain ⟨R, hR, hn⟩ := ih k (s % 10 ^ j) (X ++ decB D) hsm (by omega) (by omega) (by omega) (by
        have h1 : (decB D).size = 1 := by rw [← nums_len, decB_nums, dd_small hlt]; rfl
        rw [ByteArray.size_append, h1]
        omega)
      refine ⟨R, ?_, ?_⟩
      · rw [if_neg (by omega), hw, hq, w64 (by omega), below_30 k D (by omega) (by omega), Option.bind_some, if_pos (by omega), hmm]
        exact hR
      · rw [hn, F.nums_append, decB_nums, dd_small hlt, htz, List.append_assoc]
        rfl
theorem rps_j0 (u : Nat) (hu : u ≤ 9223372036854775808) (sg : ByteArray) (hs : sg.size ≤ 1) : wainloadref03_PutSeconds.j0 30 (-(u : Int)) sg = some (psU sg u) := by
  have hq : Int.tdiv (-(u : Int)) 1000000000 = -((u / 1000000000 : Nat) : Int) := by
    rw [Int.neg_tdiv, Int.tdiv_eq_ediv_of_nonneg (by omega)]
    omega
  have hm : Int.tmod (-(u : Int)) 1000000000 = -((u % 1000000000 : Nat) : Int) := by
    rw [Int.neg_tmod, Int.tmod_eq_emod_of_nonneg (by omega)]
    omega
  have hdb := decB_pos (u / 1000000000) (by omega)
  have hsz : (sg ++ decB (u / 1000000000)).size = sg.size + (decB (u / 1000000000)).size := ByteArray.size_append
  rw [wainloadref03_PutSeconds.j0, hq, w64 (by omega), below_30 29 _ (by decide) (by omega), Option.bind_some, hm, if_pos (by omega)]
  unfold psU
  by_cases h0 : u % 1000000000 = 0
  · rw [if_pos (by omega), if_pos h0]
  · have hr : u % 1000000000 < 1000000000 := by omega
    obtain ⟨R, hR, hn⟩ := rps_l0 9 29 (u % 1000000000) ((sg ++ decB (u / 1000000000)) ++ ⟨#[46]⟩) (by rw [show (10 : Nat) ^ 9 = 1000000000 by decide]; exact hr) (by decide) (by decide) (by decide) (by
      rw [ByteArray.size_append, hsz]
      have : (⟨#[46]⟩ : ByteArray).size = 1 := rfl
      omega)
    rw [if_neg (by omega), if_neg h0, if_pos (by rw [hsz]; omega)]
    rw [show (9 - 9 : Nat) = 0 from rfl, Nat.pow_zero, Nat.mul_one] at hR
    refine hR.trans (congrArg some (bytes_ext ?_))
    rw [hn, F.nums_append _ (fracB _), frac_nums _ hr]
theorem rps_f (t : Int) (ht : -9223372036854775808 ≤ t ∧ t ≤ 9223372036854775807) : wainloadref03_PutSeconds.f 30 t = some (psB t) := by
  unfold wainloadref03_PutSeconds.f psB
  by_cases h : t < 0
  · have e : t = -((t.natAbs : Nat) : Int) := by omega
    rw [if_pos h, if_pos h]
    conv => lhs; rw [e]
    exact rps_j0 t.natAbs (by omega) ⟨#[45]⟩ (by decide)
  · have e : wrap64 (-t) = -((t.natAbs : Nat) : Int) := by rw [w64 (by omega)]; omega
    rw [if_neg h, if_neg h, e]
    exact rps_j0 t.natAbs (by omega) ⟨#[]⟩ (by decide)
/-! ### What was written is read as it was -/
theorem dd_num (u : Nat) (hu : u ≤ 4611686018427387904) : ((ddI u).map (· - 48)).foldl (addP 10) 0 = (u : Int) := by
  induction u using Nat.strongRecOn with
  | _ u ih =>
    by_cases h : u < 10
    · rw [dd_small h]
      show addP 10 0 (48 + (u : Int) - 48) = _
      unfold addP top
      rw [if_neg (by omega), if_neg (by omega)]
      omega
    · rw [dd_big h, List.map_append, List.foldl_append, ih (u / 10) (by omega) (by omega)]
      show addP 10 ((u / 10 : Nat) : Int) (48 + ((u % 10 : Nat) : Int) - 48) = _
      rw [show 48 + ((u % 10 : Nat) : Int) - 48 = ((u % 10 : Nat) : Int) by omega]
      unfold addP top
      rw [if_neg (by omega), if_neg (by omega)]
      omega
theorem be10_bd (k u : Nat) : ∀ x ∈ beB 10 k u, 0 ≤ x ∧ x < 10 := by
  induction k generalizing u with
  | zero => intro x hx; cases hx
  | succ k ih =>
    intro x hx
    rw [beB] at hx
    rcases List.mem_append.1 hx with hx | hx
    · exact ih _ x hx
    · rw [List.mem_singleton] at hx; omega
theorem be10_num (k u : Nat) (h : u < 10 ^ k) : (beB 10 k u).foldl (fun v d => v * 10 + d) 0 = (u : Int) := by
  induction k generalizing u with
  | zero =>
    obtain rfl : u = 0 := by simpa using h
    rfl
  | succ k ih =>
    rw [Nat.pow_succ] at h
    rw [beB, List.foldl_append, ih (u / 10) (by omega)]
    show ((u / 10 : Nat) : Int) * 10 + ((u % 10 : Nat) : Int) = _
    omega
theorem trimZ_pad (l : List Int) : trimZ l ++ List.replicate (l.length - (trimZ l).length) 48 = l ∧ (trimZ l).length ≤ l.length := by
  induction l with
  | nil => exact ⟨rfl, Nat.le_refl _⟩
  | cons d l ih =>
    rw [trimZ_cons]
    split
    · rename_i h
      obtain ⟨h1, rfl⟩ := h
      rw [h1] at ih
      refine ⟨?_, Nat.zero_le _⟩
      have := ih.1
      rw [List.nil_append, List.length_nil, Nat.sub_zero] at this
      rw [List.nil_append, List.length_nil, Nat.sub_zero, List.length_cons, List.replicate_succ, this]
    · refine ⟨?_, ?_⟩
      · rw [List.cons_append, List.length_cons, List.length_cons, show l.length + 1 - ((trimZ l).length + 1) = l.length - (trimZ l).length by omega, ih.1]
      · rw [List.length_cons, List.length_cons]; omega
theorem tz_byte (r : Nat) : ∀ x ∈ tz 9 r, isDig 10 x = true := by
  intro x hx
  have hm : x ∈ (beB 10 9 r).map (48 + ·) := by
    have := (trimZ_pad ((beB 10 9 r).map (48 + ·))).1
    rw [← this]
    exact List.mem_append_left _ hx
  rw [List.mem_map] at hm
  obtain ⟨d, hd, rfl⟩ := hm
  have := be10_bd 9 r d hd
  simp [isDig]
  omega
theorem nan_tz (r : Nat) (h : r < 1000000000) : nanP (tz 9 r) = (r : Int) := by
  have hp := trimZ_pad ((beB 10 9 r).map (48 + ·))
  have hl : ((beB 10 9 r).map (48 + ·)).length = 9 := by rw [List.length_map, beB_len]
  rw [hl] at hp
  have e : (((tz 9 r).map (· - 48)) ++ List.replicate 9 (0 : Int)).take 9 = beB 10 9 r := by
    have h1 : ((tz 9 r).map (· - 48)) ++ List.replicate (9 - (tz 9 r).length) (0 : Int) = beB 10 9 r := by
      have h2 := congrArg (List.map (fun x : Int => x - 48)) hp.1
      rw [List.map_append, List.map_replicate, List.map_map] at h2
      have h3 : ((fun x : Int => x - 48) ∘ fun x => 48 + x) = id := by
        funext x
        show 48 + x - 48 = x
        omega
      rw [h3, List.map_id] at h2
      exact h2
    have hlen : (tz 9 r).length ≤ 9 := hp.2
    have h5 : List.replicate 9 (0 : Int) = List.replicate (9 - (tz 9 r).length) 0 ++ List.replicate (tz 9 r).length 0 := by rw [List.replicate_append_replicate, show 9 - (tz 9 r).length + (tz 9 r).length = 9 by omega]
    rw [h5, ← List.append_assoc, h1, List.take_append_of_le_length (by rw [beB_len]; exact Nat.le_refl _), List.take_of_length_le (by rw [beB_len]; exact Nat.le_refl _)]
  unfold nanP
  rw [e]
  exact be10_num 9 r (by rw [show (10 : Nat) ^ 9 = 1000000000 by decide]; exact h)
theorem dd_ne (u : Nat) : ddI u ≠ [] := by
  by_cases h : u < 10
  · rw [dd_small h]; simp
  · rw [dd_big h]; simp
/-- A text of digits q, a point, digits of r: what Seconds tells of it. -/
theorem body_dig (B : ByteArray) (q : Nat) (tl : List Int) (hB : nums B = ddI q ++ tl) (ht : tl = [] ∨ ∃ r, tl = 46 :: r) : digN 10 B = (ddI q).length ∧ (q ≤ 4611686018427387904 → digV 10 B = (q : Int)) := by
  have hd : ∀ x ∈ ddI q, isDig 10 x = true := fun x hx => by have := dd_byte q x hx; simp [isDig]; omega
  have ht2 : ∀ x, tl.head? = some x → isDig 10 x = false := by
    intro x hx
    rcases ht with rfl | ⟨r, rfl⟩
    · cases hx
    · injection hx with hx
      rw [← hx]
      rfl
  obtain ⟨t1, _⟩ := tw_split (isDig 10) (ddI q) tl hd ht2
  refine ⟨?_, fun hq => ?_⟩
  · unfold digN digs
    rw [hB, t1, List.length_map]
  · unfold digV digs numP
    rw [hB, t1]
    exact dd_num q hq
end Go.Proofs.YtngkbmlmlfofdaaDoor.P
