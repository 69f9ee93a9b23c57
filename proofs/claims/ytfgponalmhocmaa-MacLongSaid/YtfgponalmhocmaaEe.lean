/- The machine's side of the reference's sum with a key: what a call comes to. -/
import Derived.Test.YtfgponalmhocmaaEd
import Derived.Deep.DrawnRows
namespace Go.Proofs.Ytfgponalmhocmaa.D
open Go.RowKit Go.Proofs.YtfgponalmhocmaaW.PrintWords Go.Proofs.YtfgponalmhocmaaW.PrintLast Go.Proofs.YtfgponalmhocmaaW.PrintMore
open Go.Proofs.Ytfgponalmhocmaa.HA Go.Proofs.Ytfgponalmhocmaa.V
set_option linter.unusedVariables false
set_option linter.unusedSimpArgs false

/-- A row of cells that is written cell by cell. -/
theorem setCells_heap (g t : Nat) : ∀ (cs : List Value) (k : Nat) (old : Array Value) (w : World), w.heap[g]? = some (.cells old t (0, 0)) → k + cs.length ≤ old.size →
    (w.setCells g k cs).heap[g]? = some (.cells (old.toList.take k ++ cs ++ old.toList.drop (k + cs.length)).toArray t (0, 0))
  | [], k, old, w, h, _ => by simpa [World.setCells] using h
  | v :: rest, k, old, w, h, hl => by
    have h1 := blk_put h k v rfl
    have ih := setCells_heap g t rest (k + 1) _ _ h1 (by simp at hl ⊢; omega)
    have e := list_seg_step old.toList k v rest (by simp at hl ⊢; omega)
    rw [World.setCells, ih, Array.toList_setIfInBounds, e]
    rfl
theorem below_setCells {B : Nat} {w0 : World} (g : Nat) (hB : B ≤ g) : ∀ (cs : List Value) (k : Nat) (w : World), Below B w0 w → Below B w0 (w.setCells g k cs)
  | [], _, _, h => h
  | v :: rest, k, w, h => below_setCells g hB rest (k + 1) _ (h.setCell hB v)
theorem setCells_all (g t : Nat) (cs : List Value) (old : Array Value) (w : World) (h : w.heap[g]? = some (.cells old t (0, 0))) (hl : cs.length = old.size) : (w.setCells g 0 cs).heap[g]? = some (.cells cs.toArray t (0, 0)) := by
  have := setCells_heap g t cs 0 old w h (by omega)
  rw [List.take_zero, List.nil_append, Nat.zero_add, List.drop_of_length_le (by simp; omega), List.append_nil] at this
  exact this
theorem there_row (g t : Nat) (old : Array Value) (w : World) (h : w.heap[g]? = some (.cells old t (0, 0))) (n : Nat) (hn : n ≤ old.size) : w.there g 0 n := fun j hj => by
  refine ⟨?_, blk_frozen h _⟩
  rw [Nat.zero_add, blk_cell h j, Array.getElem?_eq_getElem (by omega)]
  rfl
/-- The reference's sum of two rows that were appended. -/
theorem refsum_of (A : Option Addr) (c : Nat) (l m : List Int) (w : World) {b : Nat} {ok : Nat → Prop} (hO : Kd.R (Kd.int .u8) 5 w b ok (.slice A (l ++ m).length c) (l ++ m)) (hb : ∀ x ∈ l ++ m, byteOk x) (hs : l.length + m.length + 200 < 140737488355328) :
    Calls Try.prog 16 #[.slice A (l.length + m.length) c] w fun e w' => e = .returned (.agg (u8s (dig (l ++ m))).toArray) ∧ Below w.heap.size w w' := by
  obtain ⟨_, h1, h2⟩ := Kd.R_reads' hO
  have := refsum_calls A c (l ++ m) w h2 h1 hb (by rw [List.length_append]; exact hs)
  rw [List.length_append] at this
  exact this

set_option maxHeartbeats 4000000 in
set_option maxRecDepth 100000 in
theorem refmac_calls (A0 : Option Addr) (c0 : Nat) (l0 : List Int) (A1 : Option Addr) (c1 : Nat) (l1 : List Int) (w : World) (hC0 : Kd.C (Kd.int .u8) w A0 l0.length l0) (hc0 : l0.length ≤ c0) (hb0 : ∀ x ∈ l0, byteOk x)
    (hC1 : Kd.C (Kd.int .u8) w A1 l1.length l1) (hc1 : l1.length ≤ c1) (hb1 : ∀ x ∈ l1, byteOk x) (hs0 : l0.length + 200 < 140737488355328) (hs1 : l1.length + 300 < 140737488355328) :
    Calls Try.prog 22 #[.slice A0 l0.length c0, .slice A1 l1.length c1] w fun e w' => e = .returned (.agg (u8s (hm l0 l1)).toArray) ∧ Below w.heap.size w w' := by
  have HC0 := Aside0.mk hC0
  have HC1 := Aside0.mk hC1
  have HY0 := Aside0.mk hb0
  have HY1 := Aside0.mk hb1
  have HKY := Aside0.mk (kpad_byte l0 hb0)
  clear hC0 hC1 hb0 hb1
  have hz24 := zero24'
  have hx1 : Aside0 ((xk 54 (kpad l0)).length = 64) := ⟨by rw [xk_len, kpad_len]⟩
  have hx2 : Aside0 ((xk 92 (kpad l0)).length = 64) := ⟨by rw [xk_len, kpad_len]⟩
  have hy1 : Aside0 (∀ x ∈ xk 54 (kpad l0) ++ l1, byteOk x) := ⟨fun x hx => (List.mem_append.1 hx).elim (xk_byte 54 _ ⟨by decide, by decide⟩ HKY.out x) (HY1.out x)⟩
  have hl1 : Aside0 ((xk 54 (kpad l0) ++ l1).length = 64 + l1.length) := ⟨by rw [List.length_append, hx1.out]⟩
  have hM1 : Aside0 (((xk 54 (kpad l0)).length + l1.length) * 1 ≤ 140737488355328) := ⟨by rw [hx1.out]; omega⟩
  have hsz20 : Aside0 (∀ T, (u8s (dig T)).toArray.size = 20) := ⟨fun T => by simp [u8s_len, dig_len]⟩
  go_enter Try.func22, Try.ntmps22
  go_upto_region 1 with fail
  generalize hw1 : World.alloc _ _ = w1
  have HR1 : Aside0 (w1.heap[w.heap.size]? = some (.cells (u8s z20).toArray 24 (0, 0))) := ⟨by rw [← hw1]; exact blk_new _ _⟩
  have HB1 : Aside0 (Below w.heap.size w w1) := ⟨by rw [← hw1]; exact below_alloc (Below.refl _ _) _⟩
  clear hw1
  have HC01 := Aside0.mk (Kd.C_below HC0.out HB1.out)
  have hs10 := Aside0.mk hs0
  go_upto_region 2 with (first
    | (go_at_call 31; (with_reducible refine (with_calls 54 A0 c0 l0 _ HC01.out hc0 HY0.out hs10.out).mono ?_); rintro e w2 ⟨A2, c2, rfl, ho2, hb2⟩; have HO2 := Aside0.mk (Kd.R_lower ho2 HB1.out.size); have HR2 := Aside0.mk (blk_below HR1.out hb2); have HB2 := Aside0.mk (below_step HB1.out hb2); have HC12 := Aside0.mk (Kd.C_below HC1.out (below_step HB1.out hb2)); have H64 := Aside0.mk ((Kd.R_bound ho2).1); clear ho2 hb2)
    | (refine Kd.R_append_rows (Kd.int .u8) (w0 := w) w.heap.size rfl (.tmp 7) (.tmp 8) 22 5 (.int .u8 0) 1 rfl Try.underlying22 info5 rfl (by decide) (by decide) _ (xk 54 (kpad l0)) l1 _ _ _ (fun _ => True) (fun _ => False) rfl rfl HO2.out HC12.out (fun _ _ h => h) (fun _ h => h.elim) (fun _ _ => trivial) HB2.out HB2.out.size hM1.out ?_; intro v1 w4 ho hb hg hat; obtain ⟨A4, c4, hx⟩ := Kd.R_slice ho; subst hx; have HR4 := Aside0.mk ((hg.block _ (blk_lt HR2.out) (fun e => by have := (H64.out _ e.symm).2.1; have := blk_lt HR1.out; omega)).trans HR2.out); have HRS := Aside0.mk (refsum_of A4 c4 (xk 54 (kpad l0)) l1 w4 ho hy1.out (by rw [hx1.out]; omega)); have HB4 := Aside0.mk hb; clear ho hb hg hat)
    | (go_at_call 16; (with_reducible refine HRS.out.mono ?_); rintro e w5 ⟨rfl, hb5⟩; have HR5 := Aside0.mk (blk_below HR4.out hb5); have HB5 := Aside0.mk (below_step HB4.out hb5); clear hb5)
    | (refine wpList_store_row rfl 24 _ _ rfl w5.heap.size _ rfl rfl 24 _ (blk_new _ _) (by rw [hsz20.out]; kernel_rfl) (by rw [hsz20.out]; kernel_rfl) (all_one (u8s_one _)) ?_)
    | fail)
  generalize hd : dig (xk 54 (kpad l0) ++ l1) = d1
  have hdl : Aside0 (d1.length = 20) := ⟨by rw [← hd]; exact dig_len _⟩
  have hdb : Aside0 (∀ x ∈ d1, byteOk x) := ⟨by rw [← hd]; exact dig_byte _⟩
  have hk5 := blk_lt HR5.out
  have hsz5 := HB5.out.size
  have hd := Aside0.mk hd
  generalize hw6 : World.setRow _ _ _ = w6
  have HR6 : Aside0 (w6.heap[w.heap.size]? = some (.cells (u8s z20).toArray 24 (0, 0))) := ⟨by rw [← hw6, setRow_other _ _ _ _ (by omega)]; exact blk_alloc HR5.out _⟩
  have HD6 : Aside0 (w6.heap[w5.heap.size]? = some (.cells (u8s d1).toArray 24 (0, 0))) := ⟨by rw [← hw6, ← hd.out]; exact setRow_heap _ _ _ _ _ _ (blk_new w5 (.cells (u8s z20).toArray 24))⟩
  have HB6 : Aside0 (Below w.heap.size w w6) := ⟨by rw [← hw6]; exact below_setRow (below_alloc HB5.out _) hsz5 _⟩
  clear hw6 HR1 HB1 HR2 HB2 HR4 HB4 HR5 HB5 HO2 H64 HRS HC12 HC01
  have HB7 : Aside0 (Below w.heap.size w w6.drew) := ⟨below_drew HB6.out⟩
  have HC07 := Aside0.mk (Kd.C_below HC0.out HB7.out)
  have HR7 : Aside0 (w6.drew.heap[w.heap.size]? = some (.cells (u8s z20).toArray 24 (0, 0))) := ⟨HR6.out⟩
  have HD7 : Aside0 (w6.drew.heap[w5.heap.size]? = some (.cells (u8s d1).toArray 24 (0, 0))) := ⟨HD6.out⟩
  have hk6 := blk_lt HR6.out
  have hM2 : Aside0 (((xk 92 (kpad l0)).length + 20) * 1 ≤ 140737488355328) := ⟨by rw [hx2.out]; decide⟩
  have hy2 : Aside0 (∀ x ∈ xk 92 (kpad l0) ++ d1, byteOk x) := ⟨fun x hx => (List.mem_append.1 hx).elim (xk_byte 92 _ ⟨by decide, by decide⟩ HKY.out x) (hdb.out x)⟩
  have hsl : Aside0 ((xk 92 (kpad l0) ++ d1).length = (xk 92 (kpad l0)).length + 20) := ⟨by rw [List.length_append, hdl.out]⟩
  have hi24 : (Try.prog.info? 24).map (·.size) = some (u8s (dig (xk 92 (kpad l0) ++ d1))).length := by rw [u8s_len, dig_len]; kernel_rfl
  have hi25 : (u8s (dig (xk 92 (kpad l0) ++ d1))).length = 20 := by rw [u8s_len, dig_len]
  have hone := u8s_one (dig (xk 92 (kpad l0) ++ d1))
  clear HR6 HD6 HB6
  go_region_held3 (fun _ => True) (trivial) (first
    | (go_at_call 31; (with_reducible refine (with_calls 92 A0 c0 l0 _ HC07.out hc0 HY0.out hs10.out).mono ?_); rintro e w7 ⟨A7, c7, rfl, ho7, hb7⟩; have HO7 := Aside0.mk (Kd.R_lower ho7 HB7.out.size); have H77 := Aside0.mk ((Kd.R_bound ho7).1); have HR8 := Aside0.mk (blk_below HR7.out hb7); have HD8 := Aside0.mk (blk_below HD7.out hb7); have HB8 := Aside0.mk (below_step HB7.out hb7); clear ho7 hb7)
    | ((refine Kd.R_append_rows_step (Kd.int .u8) (w0 := w) w.heap.size (by rfl) (.tmp 12) (.tmp 13) 22 5 (.int .u8 0) 1 rfl Try.underlying22 info5 rfl (by decide) (by decide) _ (xk 92 (kpad l0)) d1 _ 20 20 (fun _ => True) (fun _ => False) rfl rfl HO7.out (by have := C_rowT HD8.out (by rw [hdl.out]; decide); rw [hdl.out] at this; exact this) (fun _ _ h => h) (fun _ h => h.elim) (fun _ _ => trivial) HB8.out HB8.out.size hM2.out ?_); intro v1 w9 ho hb hg hat; obtain ⟨A9, c9, hx⟩ := Kd.R_slice ho; subst hx; have HR9 := Aside0.mk ((hg.block _ (blk_lt HR8.out) (fun e => by have := (H77.out _ e.symm).2.1; simp at this; omega)).trans HR8.out); have HRS := Aside0.mk (refsum_of A9 c9 (xk 92 (kpad l0)) d1 w9 ho hy2.out (by rw [hx2.out, hdl.out]; decide)); have HB9 := Aside0.mk hb; rw [List.length_append]; clear ho hb hg hat)
    | (go_at_call 16; (with_reducible refine HRS.out.mono ?_); rintro e w10 ⟨rfl, hb10⟩; have HR10 := Aside0.mk (blk_below HR9.out hb10); have HB10 := Aside0.mk (below_step HB9.out hb10); clear hb10; have hth := there_row _ _ _ _ HR10.out 20 (by decide))
    | fail)
  have HR11 : Aside0 ((w10.setCells w.heap.size 0 (u8s (dig (xk 92 (kpad l0) ++ d1)))).heap[w.heap.size]? = some (.cells (u8s (dig (xk 92 (kpad l0) ++ d1))).toArray 24 (0, 0))) := ⟨setCells_all _ _ _ _ _ HR10.out (by rw [hi25]; rfl)⟩
  have HB11 : Aside0 (Below w.heap.size w (w10.setCells w.heap.size 0 (u8s (dig (xk 92 (kpad l0) ++ d1))))) := ⟨below_setCells _ (Nat.le_refl _) _ _ _ HB10.out⟩
  go_wp2_with fail
  refine bodyPost_ret (results_cell_row rfl _ _ w.heap.size 24 _ (0, 0) _ rfl HR11.out Try.underlying24 rfl (by rw [hsz20.out]; kernel_rfl)) rfl ⟨?_, HB11.out⟩
  rw [← hd.out]
  rfl
end Go.Proofs.Ytfgponalmhocmaa.D
