/- win.Mark. -/
import Derived.Test.YtkmmfobnpapceaaE
namespace Go.Proofs.Ytkmmfobnpapceaa
open Go.RowKit

attribute [local go_sem] winA_lit

set_option maxRecDepth 100000 in
set_option maxHeartbeats 2000000 in
theorem mark_out (t : Int) (f : Nat → Bool) (n : Int) (w : World) (h : n < 0 ∨ 4611686018427387904 < n) :
    Calls Try.prog 15 #[.agg (winA t f), .int .i64 n] w fun e w' => e = .returned (.tuple #[.agg (winA t f), .int .i64 1]) ∧ Below w.heap.size w w' := by
  have hB := (Blk.new w 25 (winA t f)).alloc (.cells (winA 0 noBits) 25)
  have hZ : Blk ((w.alloc (.cells (winA t f) 25)).alloc (.cells (winA 0 noBits) 25)) (w.heap.size + 1) 25 (winA 0 noBits) := by
    have := Blk.new (w.alloc (.cells (winA t f) 25)) 25 (winA 0 noBits)
    rwa [World.size_alloc] at this
  have HB := Lib.hid (((Below.refl w.heap.size w).alloc (Nat.le_refl _) (Obj.cells (winA t f) 25)).alloc (by simp) (Obj.cells (winA 0 noBits) 25))
  rcases h with h | h
  · have d0 : decide (n < 0) = true := by simp; omega
    go_enter Try.func15, Try.ntmps15
    go_wp2_with (first | (refine load_blk (ty := 25) rfl rfl rfl Try.underlying25 rfl (info25' t f) hB ?_) | (refine store_blk' (ty := 25) rfl rfl rfl rfl (info25' t f) (winA_one _ _) (old := winA 0 noBits) (by rw [winA_size, winA_size]) hZ ?_; intro w2 hW2 hG2 hz2) | fail)
    refine bodyPost_ret (v := .tuple #[.agg (winA t f), .int .i64 1]) (results_cell_tmp rfl _ _ _ 25 _ _ rfl rfl hW2 Try.underlying25 rfl (info25' _ _)) rfl ?_
    exact ⟨rfl, HB.out.grown hG2 (by simp; omega) (by simp)⟩
  · have d0 : decide (n < 0) = false := by simp; omega
    have d1 : decide (4611686018427387904 < n) = true := by simp; omega
    go_enter Try.func15, Try.ntmps15
    go_wp2_with (first | (refine load_blk (ty := 25) rfl rfl rfl Try.underlying25 rfl (info25' t f) hB ?_) | (refine store_blk' (ty := 25) rfl rfl rfl rfl (info25' t f) (winA_one _ _) (old := winA 0 noBits) (by rw [winA_size, winA_size]) hZ ?_; intro w2 hW2 hG2 hz2) | fail)
    refine bodyPost_ret (v := .tuple #[.agg (winA t f), .int .i64 1]) (results_cell_tmp rfl _ _ _ 25 _ _ rfl rfl hW2 Try.underlying25 rfl (info25' _ _)) rfl ?_
    exact ⟨rfl, HB.out.grown hG2 (by simp; omega) (by simp)⟩

set_option maxRecDepth 100000 in
set_option maxHeartbeats 2000000 in
theorem mark_old (t : Int) (f : Nat → Bool) (n : Int) (w : World) (h0 : 0 ≤ t) (h1 : t ≤ 4611686018427387905) (hn0 : 0 ≤ n) (hn1 : n ≤ 4611686018427387904) (hfr : freshB t f n = false) :
    Calls Try.prog 15 #[.agg (winA t f), .int .i64 n] w fun e w' => e = .returned (.tuple #[.agg (winA t f), .int .i64 6]) ∧ Below w.heap.size w w' := by
  have hB := (Blk.new w 25 (winA t f)).alloc (.cells (winA 0 noBits) 25)
  have hZ : Blk ((w.alloc (.cells (winA t f) 25)).alloc (.cells (winA 0 noBits) 25)) (w.heap.size + 1) 25 (winA 0 noBits) := by
    have := Blk.new (w.alloc (.cells (winA t f) 25)) 25 (winA 0 noBits)
    rwa [World.size_alloc] at this
  have HB := Lib.hid (((Below.refl w.heap.size w).alloc (Nat.le_refl _) (Obj.cells (winA t f) 25)).alloc (by simp) (Obj.cells (winA 0 noBits) 25))
  have HF := Lib.hid hfr; clear hfr
  have d0 : decide (n < 0) = false := by simp; omega
  have d1 : decide (4611686018427387904 < n) = false := by simp; omega
  go_enter Try.func15, Try.ntmps15
  go_wp2_with (first | (go_at_call 13; refine (wFresh_any t f n _ h0 h1).mono ?_; rintro e w1 ⟨rfl, hb1⟩; rw [HF.out]; have hB1 := hB.belowSelf hb1; have hZ1 := hZ.belowSelf hb1; have HB1 := Lib.hid (HB.out.trans (hb1.mono (by simp; omega))); clear hb1) | (refine load_blk (ty := 25) rfl rfl rfl Try.underlying25 rfl (info25' t f) hB ?_) | (refine load_blk (ty := 25) rfl rfl rfl Try.underlying25 rfl (info25' t f) hB1 ?_) | (refine store_blk' (ty := 25) rfl rfl rfl rfl (info25' t f) (winA_one _ _) (old := winA 0 noBits) (by rw [winA_size, winA_size]) hZ1 ?_; intro w2 hW2 hG2 hz2) | fail)
  refine bodyPost_ret (v := .tuple #[.agg (winA t f), .int .i64 6]) (results_cell_tmp rfl _ _ _ 25 _ _ rfl rfl hW2 Try.underlying25 rfl (info25' _ _)) rfl ?_
  exact ⟨rfl, HB1.out.grown hG2 HB1.out.size (by simp)⟩

/-- The bits from t on, k of them, going round, made 0. -/
def clrR (f : Nat → Bool) (t k : Nat) : Nat → Bool := fun p => if (p + 1024 - t % 1024) % 1024 < k then false else f p
theorem clrR_zero (f : Nat → Bool) (t : Nat) : clrR f t 0 = f := by funext p; simp [clrR]
theorem clrR_succ (f : Nat → Bool) (t k p : Nat) (hk : k < 1024) (hp : p < 1024) : upd (clrR f t k) ((t + k) % 1024) false p = clrR f t (k + 1) p := by
  unfold upd clrR
  by_cases h : p = (t + k) % 1024
  · rw [if_pos h, if_pos (by omega)]
  · rw [if_neg h]
    by_cases h2 : (p + 1024 - t % 1024) % 1024 < k
    · rw [if_pos h2, if_pos (by omega)]
    · rw [if_neg h2, if_neg (by omega)]

theorem winA_clr (t : Int) (f : Nat → Bool) (k : Nat) (h0 : 0 ≤ t) (hk : k < 1024) : winA t (upd (clrR f t.toNat k) ((t + (k : Int)).toNat % 1024) false) = winA t (clrR f t.toNat (k + 1)) := by
  rw [show (t + (k : Int)).toNat = t.toNat + k by omega]
  exact winA_congr t fun p hp => clrR_succ f t.toNat k p hk hp

set_option maxRecDepth 100000 in
set_option maxHeartbeats 4000000 in
theorem mark_next (t : Int) (f : Nat → Bool) (K : Nat) (w : World) (h0 : 0 ≤ t) (h1 : t + K ≤ 4611686018427387904) (hK : K < 1024) :
    Calls Try.prog 15 #[.agg (winA t f), .int .i64 (t + K)] w fun e w' => e = .returned (.tuple #[.agg (winA (t + K + 1) (upd (clrR f t.toNat K) ((t + K).toNat % 1024) true)), .int .i64 0]) ∧ Below w.heap.size w w' := by
  have hB := (Blk.new w 25 (winA t f)).alloc (.cells (winA 0 noBits) 25)
  have hZ : Blk ((w.alloc (.cells (winA t f) 25)).alloc (.cells (winA 0 noBits) 25)) (w.heap.size + 1) 25 (winA 0 noBits) := by
    have := Blk.new (w.alloc (.cells (winA t f) 25)) 25 (winA 0 noBits)
    rwa [World.size_alloc] at this
  have HB := Lib.hid (((Below.refl w.heap.size w).alloc (Nat.le_refl _) (Obj.cells (winA t f) 25)).alloc (by simp) (Obj.cells (winA 0 noBits) 25))
  have HT := Lib.hid (fun g => winA_top t g)
  have HF : Hid (freshB t f (t + K) = true) := by
    show freshB _ _ _ = true
    unfold freshB
    simp; omega
  have d0 : decide (t + (K : Int) < 0) = false := by simp; omega
  have d1 : decide (4611686018427387904 < t + (K : Int)) = false := by simp; omega
  have d2 : decide (1024 ≤ (K : Int)) = false := by simp; omega
  go_enter Try.func15, Try.ntmps15
  go_wp2_with (first | (go_at_call 13; refine (wFresh_any t f _ _ h0 (by omega)).mono ?_; rintro e w1 ⟨rfl, hb1⟩; rw [HF.out]; have hB1 := hB.belowSelf hb1; have hZ1 := hZ.belowSelf hb1; have HB1 := Lib.hid (HB.out.trans (hb1.mono (by simp; omega))); have hct := (hB1.cell 0).trans (HT.out f); clear hb1) | (refine load_blk (ty := 25) rfl rfl rfl Try.underlying25 rfl (info25' t f) hB ?_) | fail)
  go_loopw [32] (fun i wr => ∃ k : Nat, k ≤ K ∧ i = .int .i64 k ∧ Blk wr w.heap.size 25 (winA t (clrR f t.toNat k)) ∧ Blk wr (w.heap.size + 1) 25 (winA 0 noBits) ∧ Below w.heap.size w wr) (fun i _ => K - (intOf i).toNat)
  case atStart => exact ⟨0, Nat.zero_le _, rfl, by rw [clrR_zero]; exact hB1, hZ1, HB1.out⟩
  case round =>
    obtain ⟨k, hk, rfl, hb0, hbz, hbl⟩ := hrel
    have HBL := Lib.hid hbl; clear hbl
    have hct := (hb0.cell 0).trans (HT.out _)
    by_cases hlt : k < K
    · go_wp2_with (first | (go_at_call 19; refine (set_any t (clrR f t.toNat k) (t + k) false _ (by omega) (by omega)).mono ?_; rintro e w3 ⟨rfl, hbw⟩; have hb0w := hb0.belowSelf hbw; have hbzw := hbz.belowSelf hbw; have HBW := Lib.hid (HBL.out.trans (hbw.mono (HBL.out.size))); clear hbw; rw [winA_clr t f k h0 (by omega)]) | (refine load_blk (ty := 25) rfl rfl rfl Try.underlying25 rfl (info25' t (clrR f t.toNat k)) hb0 ?_) | (refine store_blk' (ty := 25) rfl rfl rfl rfl (info25' t (clrR f t.toNat (k + 1))) (winA_one _ _) (old := winA t (clrR f t.toNat k)) (by rw [winA_size, winA_size]) hb0w ?_; intro w4 hW4 hG4 hz4) | fail)
      exact ⟨⟨k + 1, by omega, by go_num, hW4, hbzw.grown hG4 (by simp), HBW.out.grown hG4 HBW.out.size (by simp)⟩, by simp [intOf]; omega⟩
    · obtain rfl : k = K := by omega
      have hfz := hb0.frozen 0
      have hb0' := hb0.set_to 0 (.int .i64 (t + k + 1)) (winA_setTop t (t + k + 1) (clrR f t.toNat k))
      have hbz' := hbz.far (p := ⟨w.heap.size, 0, none⟩) (by simp) (.int .i64 (t + k + 1))
      have HBS := Lib.hid (HBL.out.setCell (p := ⟨w.heap.size, 0, none⟩) (Nat.le_refl _) (.int .i64 (t + k + 1)))
      go_wp2_with (first | (go_at_call 19; refine (set_any (t + k + 1) (clrR f t.toNat k) (t + k) true _ (by omega) (by omega)).mono ?_; rintro e w3 ⟨rfl, hbw⟩; have hbzw := hbz'.belowSelf hbw; have HBW := Lib.hid (HBS.out.trans (hbw.mono (HBS.out.size))); clear hbw) | (refine load_blk (ty := 25) rfl rfl rfl Try.underlying25 rfl (info25' (t + k + 1) (clrR f t.toNat k)) hb0' ?_) | (refine store_blk' (ty := 25) rfl rfl rfl rfl (info25' (t + k + 1) (upd (clrR f t.toNat k) ((t + (k : Int)).toNat % 1024) true)) (winA_one _ _) (old := winA 0 noBits) (by rw [winA_size, winA_size]) hbzw ?_; intro w4 hW4 hG4 hz4) | fail)
      refine bodyPost_ret (v := .tuple #[.agg (winA (t + k + 1) (upd (clrR f t.toNat k) ((t + (k : Int)).toNat % 1024) true)), .int .i64 0]) (results_cell_tmp rfl _ _ _ 25 _ _ rfl rfl hW4 Try.underlying25 rfl (info25' _ _)) rfl ?_
      exact ⟨rfl, HBW.out.grown hG4 HBW.out.size (by simp)⟩

set_option maxRecDepth 100000 in
set_option maxHeartbeats 4000000 in
theorem mark_back (t : Int) (f : Nat → Bool) (n : Int) (w : World) (h0 : 0 ≤ t) (h1 : t ≤ 4611686018427387905) (hn0 : 0 ≤ n) (hn1 : n ≤ 4611686018427387904) (hn2 : n < t) (hfr : freshB t f n = true) :
    Calls Try.prog 15 #[.agg (winA t f), .int .i64 n] w fun e w' => e = .returned (.tuple #[.agg (winA t (upd f (n.toNat % 1024) true)), .int .i64 0]) ∧ Below w.heap.size w w' := by
  have hB := (Blk.new w 25 (winA t f)).alloc (.cells (winA 0 noBits) 25)
  have hZ : Blk ((w.alloc (.cells (winA t f) 25)).alloc (.cells (winA 0 noBits) 25)) (w.heap.size + 1) 25 (winA 0 noBits) := by
    have := Blk.new (w.alloc (.cells (winA t f) 25)) 25 (winA 0 noBits)
    rwa [World.size_alloc] at this
  have HB := Lib.hid (((Below.refl w.heap.size w).alloc (Nat.le_refl _) (Obj.cells (winA t f) 25)).alloc (by simp) (Obj.cells (winA 0 noBits) 25))
  have HT := Lib.hid (fun g => winA_top t g)
  have HF := Lib.hid hfr; clear hfr
  have d0 : decide (n < 0) = false := by simp; omega
  have d1 : decide (4611686018427387904 < n) = false := by simp; omega
  go_enter Try.func15, Try.ntmps15
  go_wp2_with (first | (go_at_call 13; refine (wFresh_any t f _ _ h0 (by omega)).mono ?_; rintro e w1 ⟨rfl, hb1⟩; rw [HF.out]; have hB1 := hB.belowSelf hb1; have hZ1 := hZ.belowSelf hb1; have HB1 := Lib.hid (HB.out.trans (hb1.mono (by simp; omega))); have hct := (hB1.cell 0).trans (HT.out f); clear hb1) | (refine load_blk (ty := 25) rfl rfl rfl Try.underlying25 rfl (info25' t f) hB ?_) | fail)
  go_loopw [32] (fun i wr => i = .int .i64 0 ∧ Blk wr w.heap.size 25 (winA t f) ∧ Blk wr (w.heap.size + 1) 25 (winA 0 noBits) ∧ Below w.heap.size w wr) (fun _ _ => 0)
  case atStart => exact ⟨rfl, hB1, hZ1, HB1.out⟩
  case round =>
    obtain ⟨rfl, hb0, hbz, hbl⟩ := hrel
    have HBL := Lib.hid hbl; clear hbl
    have hct := (hb0.cell 0).trans (HT.out _)
    have hfz := hb0.frozen 0
    have hb0' := hb0.set_to 0 (.int .i64 t) (winA_setTop t t f)
    have hbz' := hbz.far (p := ⟨w.heap.size, 0, none⟩) (by simp) (.int .i64 t)
    have HBS := Lib.hid (HBL.out.setCell (p := ⟨w.heap.size, 0, none⟩) (Nat.le_refl _) (.int .i64 t))
    go_wp2_with (first | (go_at_call 19; refine (set_any t f n true _ (by omega) (by omega)).mono ?_; rintro e w3 ⟨rfl, hbw⟩; have hbzw := hbz'.belowSelf hbw; have HBW := Lib.hid (HBS.out.trans (hbw.mono (HBS.out.size))); clear hbw) | (refine load_blk (ty := 25) rfl rfl rfl Try.underlying25 rfl (info25' t f) hb0' ?_) | (refine store_blk' (ty := 25) rfl rfl rfl rfl (info25' t (upd f (n.toNat % 1024) true)) (winA_one _ _) (old := winA 0 noBits) (by rw [winA_size, winA_size]) hbzw ?_; intro w4 hW4 hG4 hz4) | fail)
    refine bodyPost_ret (v := .tuple #[.agg (winA t (upd f (n.toNat % 1024) true)), .int .i64 0]) (results_cell_tmp rfl _ _ _ 25 _ _ rfl rfl hW4 Try.underlying25 rfl (info25' _ _)) rfl ?_
    exact ⟨rfl, HBW.out.grown hG4 HBW.out.size (by simp)⟩

end Go.Proofs.Ytkmmfobnpapceaa
