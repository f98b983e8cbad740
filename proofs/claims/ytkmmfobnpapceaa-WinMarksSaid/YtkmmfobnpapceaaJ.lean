/- win.Mark, far ahead. -/
import Derived.Test.YtkmmfobnpapceaaI
namespace Go.Proofs.Ytkmmfobnpapceaa
open Go.RowKit

attribute [local go_sem] winA_lit

theorem word_noBits (i : Nat) : word noBits i = 0 := by
  apply Nat.eq_of_testBit_eq
  intro j
  unfold word
  rw [testBit_bitsOf]; simp [noBits]
theorem clrR_noBits (t k : Nat) : clrR noBits t k = noBits := by funext p; simp [clrR, noBits]

theorem winA_none (t : Int) (f : Nat → Bool) : putAt (winA t f) 1 (#[Value.int .u64 0, .int .u64 0, .int .u64 0, .int .u64 0, .int .u64 0, .int .u64 0, .int .u64 0, .int .u64 0, .int .u64 0, .int .u64 0, .int .u64 0, .int .u64 0, .int .u64 0, .int .u64 0, .int .u64 0, .int .u64 0] : Array Value).toList = winA t noBits := by
  simp [putAt, winA, winL, word_noBits, List.range, List.range.loop]

def zeros16 : Array Value := #[Value.int .u64 0, .int .u64 0, .int .u64 0, .int .u64 0, .int .u64 0, .int .u64 0, .int .u64 0, .int .u64 0, .int .u64 0, .int .u64 0, .int .u64 0, .int .u64 0, .int .u64 0, .int .u64 0, .int .u64 0, .int .u64 0]
theorem zeros16_one : zeros16.all (·.oneCell') = true := by simp [zeros16, Value.oneCell']
theorem winA_none' (t : Int) (f : Nat → Bool) : putAt (winA t f) 1 zeros16.toList = winA t noBits := winA_none t f
theorem upd_noBits (p : Nat) : upd noBits p false = noBits := by funext q; unfold upd noBits; simp
theorem info23 : (Try.prog.info? 23).map (·.size) = some 16 := by kernel_rfl

set_option maxRecDepth 100000 in
set_option maxHeartbeats 4000000 in
theorem mark_far (t : Int) (f : Nat → Bool) (n : Int) (w : World) (h0 : 0 ≤ t) (h1 : t + 1024 ≤ n) (hn1 : n ≤ 4611686018427387904) :
    Calls Try.prog 15 #[.agg (winA t f), .int .i64 n] w fun e w' => e = .returned (.tuple #[.agg (winA (n + 1) (upd noBits (n.toNat % 1024) true)), .int .i64 0]) ∧ Below w.heap.size w w' := by
  have hB := (Blk.new w 25 (winA t f)).alloc (.cells (winA 0 noBits) 25)
  have hZ : Blk ((w.alloc (.cells (winA t f) 25)).alloc (.cells (winA 0 noBits) 25)) (w.heap.size + 1) 25 (winA 0 noBits) := by
    have := Blk.new (w.alloc (.cells (winA t f) 25)) 25 (winA 0 noBits)
    rwa [World.size_alloc] at this
  have HB := Lib.hid (((Below.refl w.heap.size w).alloc (Nat.le_refl _) (Obj.cells (winA t f) 25)).alloc (by simp) (Obj.cells (winA 0 noBits) 25))
  have HT := Lib.hid (fun g => winA_top t g)
  have HF : Hid (freshB t f n = true) := by
    show freshB _ _ _ = true
    unfold freshB
    simp; omega
  have d0 : decide (n < 0) = false := by simp; omega
  have d1 : decide (4611686018427387904 < n) = false := by simp; omega
  go_enter Try.func15, Try.ntmps15
  go_wp2_with (first | (go_at_call 13; refine (wFresh_any t f _ _ h0 (by omega)).mono ?_; rintro e w1 ⟨rfl, hb1⟩; rw [HF.out]; have hB1 := hB.belowSelf hb1; have hZ1 := hZ.belowSelf hb1; have HB1 := Lib.hid (HB.out.trans (hb1.mono (by simp; omega))); have hct := (hB1.cell 0).trans (HT.out f); clear hb1) | (refine load_blk (ty := 25) rfl rfl rfl Try.underlying25 rfl (info25' t f) hB ?_) | ((refine store_mid_blk (ty := 23) (cs := zeros16) (old := winA t f) (new := winA t noBits) rfl rfl rfl rfl info23 zeros16_one (by rw [winA_size]; decide) hB1 (winA_none' t f) ?_); intro w2 hW2 hG2 hz2; have hZ2 := hZ1.grown hG2 (by simp); have HB2 := Lib.hid (HB1.out.grown hG2 HB1.out.size (by simp)); have hct2 := (hW2.cell 0).trans (HT.out noBits); clear hG2 hz2) | fail)
  all_goals
    go_loopw [32] (fun i wr => ∃ k : Nat, k ≤ 1024 ∧ i = .int .i64 k ∧ Blk wr w.heap.size 25 (winA t noBits) ∧ Blk wr (w.heap.size + 1) 25 (winA 0 noBits) ∧ Below w.heap.size w wr) (fun i _ => 1024 - (intOf i).toNat)
    case atStart => exact ⟨0, Nat.zero_le _, rfl, hW2, hZ2, HB2.out⟩
    case round =>
      obtain ⟨k, hk, rfl, hb0, hbz, hbl⟩ := hrel
      have HBL := Lib.hid hbl; clear hbl
      have hct := (hb0.cell 0).trans (HT.out _)
      by_cases hlt : k < 1024
      · go_wp2_with (first | (go_at_call 19; refine (set_any t noBits (t + k) false _ (by omega) (by omega)).mono ?_; rintro e w3 ⟨rfl, hbw⟩; have hb0w := hb0.belowSelf hbw; have hbzw := hbz.belowSelf hbw; have HBW := Lib.hid (HBL.out.trans (hbw.mono (HBL.out.size))); clear hbw; rw [upd_noBits]) | (refine load_blk (ty := 25) rfl rfl rfl Try.underlying25 rfl (info25' t noBits) hb0 ?_) | (refine store_blk' (ty := 25) rfl rfl rfl rfl (info25' t noBits) (winA_one _ _) (old := winA t noBits) rfl hb0w ?_; intro w4 hW4 hG4 hz4) | fail)
        exact ⟨⟨k + 1, by omega, by go_num, hW4, hbzw.grown hG4 (by simp), HBW.out.grown hG4 HBW.out.size (by simp)⟩, by simp [intOf]; omega⟩
      · have hfz := hb0.frozen 0
        have hb0' := hb0.set_to 0 (.int .i64 (n + 1)) (winA_setTop t (n + 1) noBits)
        have hbz' := hbz.far (p := ⟨w.heap.size, 0, none⟩) (by simp) (.int .i64 (n + 1))
        have HBS := Lib.hid (HBL.out.setCell (p := ⟨w.heap.size, 0, none⟩) (Nat.le_refl _) (.int .i64 (n + 1)))
        go_wp2_with (first | (go_at_call 19; refine (set_any (n + 1) noBits n true _ (by omega) (by omega)).mono ?_; rintro e w3 ⟨rfl, hbw⟩; have hbzw := hbz'.belowSelf hbw; have HBW := Lib.hid (HBS.out.trans (hbw.mono (HBS.out.size))); clear hbw) | (refine load_blk (ty := 25) rfl rfl rfl Try.underlying25 rfl (info25' (n + 1) noBits) hb0' ?_) | (refine store_blk' (ty := 25) rfl rfl rfl rfl (info25' (n + 1) (upd noBits (n.toNat % 1024) true)) (winA_one _ _) (old := winA 0 noBits) (by rw [winA_size, winA_size]) hbzw ?_; intro w4 hW4 hG4 hz4) | fail)
        refine bodyPost_ret (v := .tuple #[.agg (winA (n + 1) (upd noBits (n.toNat % 1024) true)), .int .i64 0]) (results_cell_tmp rfl _ _ _ 25 _ _ rfl rfl hW4 Try.underlying25 rfl (info25' _ _)) rfl ?_
        exact ⟨rfl, HBW.out.grown hG4 HBW.out.size (by simp)⟩
end Go.Proofs.Ytkmmfobnpapceaa
