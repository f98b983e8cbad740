/- Contracts of win.Right, win.Fresh. -/
import Derived.Test.YtkmmfobnpapceaaC
namespace Go.Proofs.Ytkmmfobnpapceaa
open Go.RowKit

attribute [local go_sem] winA_lit

/-- A window is right. -/
def RightP (t : Int) (f : Nat → Bool) : Prop :=
  0 ≤ t ∧ t ≤ 4611686018427387905 ∧ (∀ p : Nat, p < 1024 → t ≤ p → f p = false) ∧ (t = 0 ∨ f ((t - 1).toNat % 1024) = true)

set_option maxHeartbeats 1000000 in
theorem wRight_out (t : Int) (f : Nat → Bool) (w : World) (h : t < 0 ∨ 4611686018427387905 < t) :
    Calls Try.prog 12 #[.agg (winA t f)] w fun e w' => e = .returned (.bool false) ∧ Below w.heap.size w w' := by
  have ht := winA_top t f
  have HB := Lib.hid ((Below.refl w.heap.size w).alloc (Nat.le_refl _) (Obj.cells (winA t f) 25))
  rcases h with h | h
  · go_enter Try.func12, Try.ntmps12
    go_wp2
    go_ret
    exact ⟨rfl, HB.out⟩
  · have h0 : ¬ t < 0 := by omega
    go_enter Try.func12, Try.ntmps12
    go_wp2
    go_ret
    exact ⟨rfl, HB.out⟩

set_option maxHeartbeats 1000000 in
theorem wRight_zero (f : Nat → Bool) (w : World) :
    Calls Try.prog 12 #[.agg (winA 0 f)] w fun e w' => e = .returned (.bool (weq 0 f 0 noBits)) ∧ Below w.heap.size w w' := by
  have ht := winA_top 0 f
  have HB := Lib.hid ((Below.refl w.heap.size w).alloc (Nat.le_refl _) (Obj.cells (winA 0 f) 25))
  go_enter Try.func12, Try.ntmps12
  go_wp2_with (first | (refine load_blk (ty := 25) rfl rfl rfl Try.underlying25 rfl (info25' 0 f) (Blk.new w 25 _) ?_) | (refine eql_win rfl rfl rfl rfl ?_))
  go_ret
  exact ⟨rfl, HB.out⟩

set_option maxHeartbeats 1000000 in
theorem wRight_no (t : Int) (f : Nat → Bool) (w : World) (h0 : 1 ≤ t) (h1 : t ≤ 4611686018427387905) (hf : f ((t - 1).toNat % 1024) = false) :
    Calls Try.prog 12 #[.agg (winA t f)] w fun e w' => e = .returned (.bool false) ∧ Below w.heap.size w w' := by
  have ht := winA_top t f
  have HB := Lib.hid ((Below.refl w.heap.size w).alloc (Nat.le_refl _) (Obj.cells (winA t f) 25))
  have HF := Lib.hid hf; clear hf
  have ht0 : (t == 0) = false := beq_eq_false_iff_ne.2 (by omega)
  have hd0 : decide (t < 0) = false := by simp; omega
  have hd1 : decide (4611686018427387905 < t) = false := by simp; omega
  go_enter Try.func12, Try.ntmps12
  go_wp2_with (first | (refine load_blk (ty := 25) rfl rfl rfl Try.underlying25 rfl (info25' t f) (Blk.new w 25 _) ?_) | fail)
  refine (has_any t f (t - 1) _ (by omega) (by omega)).mono ?_
  rintro e w' ⟨rfl, hb1⟩
  rw [HF.out]
  have HB1 := Lib.hid (HB.out.trans (hb1.mono (by simp))); clear hb1
  go_wp2
  go_ret
  exact ⟨rfl, HB1.out⟩

def clr (f : Nat → Bool) (k : Nat) : Nat → Bool := fun p => if p < k then false else f p
theorem clr_zero (f : Nat → Bool) : clr f 0 = f := by funext p; simp [clr]
theorem clr_succ (f : Nat → Bool) (k : Nat) : upd (clr f k) k false = clr f (k + 1) := by
  funext p; unfold upd clr
  by_cases h : p = k
  · simp [h]
  · by_cases h2 : p < k
    · rw [if_neg h, if_pos h2, if_pos (by omega)]
    · rw [if_neg h, if_neg h2, if_neg (by omega)]

set_option maxRecDepth 100000 in
set_option maxHeartbeats 2000000 in
theorem wRight_yes (t : Int) (f : Nat → Bool) (w : World) (h0 : 1 ≤ t) (h1 : t ≤ 4611686018427387905) (hf : f ((t - 1).toNat % 1024) = true) :
    Calls Try.prog 12 #[.agg (winA t f)] w fun e w' => e = .returned (.bool (weq t (clr f (min t.toNat 1024)) t noBits)) ∧ Below w.heap.size w w' := by
  have ht := winA_top t f
  have HB := Lib.hid ((Below.refl w.heap.size w).alloc (Nat.le_refl _) (Obj.cells (winA t f) 25))
  have HF := Lib.hid hf; clear hf
  have ht0 : (t == 0) = false := beq_eq_false_iff_ne.2 (by omega)
  have hd0 : decide (t < 0) = false := by simp; omega
  have hd1 : decide (4611686018427387905 < t) = false := by simp; omega
  go_enter Try.func12, Try.ntmps12
  go_wp2_with (first | (refine load_blk (ty := 25) rfl rfl rfl Try.underlying25 rfl (info25' t f) (Blk.new w 25 _) ?_) | fail)
  refine (has_any t f (t - 1) _ (by omega) (by omega)).mono ?_
  rintro e w1 ⟨rfl, hb1⟩
  rw [HF.out]
  have hB := (Blk.new w 25 (winA t f)).below hb1 (by simp)
  have hc : w1.cell? ⟨w.heap.size, 0, none⟩ = some (.int .i64 t) := (hB.cell 0).trans ht
  have hz : w.heap.size < w1.heap.size := hB.lt
  have HB1 := Lib.hid (HB.out.trans (hb1.mono (by simp))); clear hb1 HB
  go_wp2_with (first | (refine load_blk (ty := 25) rfl rfl rfl Try.underlying25 rfl (info25' t f) hB ?_) | (refine store_blk' (ty := 25) rfl rfl rfl rfl (info25' t f) (winA_one _ _) (by rw [winA_size, winA_size]) (Blk.new w1 25 (winA 0 noBits)) ?_; intro w2 hW2 hG2 hz2; have hB2 := (hB.alloc (.cells (winA 0 noBits) 25)).grown hG2 (by simp; omega); have hc2 : w2.cell? ⟨w.heap.size, 0, none⟩ = some (.int .i64 t) := (hB2.cell 0).trans ht) | fail)
  all_goals
    have HB2 := Lib.hid (show Below w.heap.size w w2 from (HB1.out.alloc (Nat.le_of_lt hz) _).grown hG2 (by simp; omega) (by simp; omega))
    clear hG2 hz2 HB1 hc2 hc
    obtain ⟨K, hK⟩ : ∃ K, min t.toNat 1024 = K := ⟨_, rfl⟩
    have hK1 : K ≤ 1024 := by omega
    have hK2 : (K : Int) ≤ t := by omega
    have hK3 : t ≤ K ∨ 1024 ≤ K := by omega
    have HK := Lib.hid hK; clear hK
    generalize hg1 : w1.heap.size = g1 at *
    clear hg1
    go_loopw [32] (fun i wr => ∃ k : Nat, k ≤ K ∧ i = .int .i64 k ∧ Blk wr g1 25 (winA t (clr f k)) ∧ Blk wr w.heap.size 25 (winA t f) ∧ Below w.heap.size w wr) (fun i _ => K - (intOf i).toNat)
    case atStart => exact ⟨0, Nat.zero_le _, rfl, by rw [clr_zero]; exact hW2, hB2, HB2.out⟩
    case round =>
      obtain ⟨k, hk, rfl, hb1, hb0, hbl⟩ := hrel
      have HBL := Lib.hid hbl; clear hbl
      by_cases hlt : k < K
      · go_wp2_with (first | (refine load_blk (ty := 25) rfl rfl rfl Try.underlying25 rfl (info25' t (clr f k)) hb1 ?_) | (go_at_call 19; refine (set_any t (clr f k) k false _ (by omega) (by omega)).mono ?_; rintro e w3 ⟨rfl, hbw⟩; have hb1w := hb1.belowSelf hbw; have hb0w := hb0.belowSelf hbw; have HBW := Lib.hid (HBL.out.trans (hbw.mono (HBL.out.size))); clear hbw; rw [Int.toNat_natCast, Nat.mod_eq_of_lt (by omega), clr_succ]) | (refine store_blk' (ty := 25) rfl rfl rfl rfl (info25' t (clr f (k + 1))) (winA_one _ _) (old := winA t (clr f k)) (by rw [winA_size, winA_size]) hb1w ?_; intro w4 hW4 hG4 hz4) | fail)
        all_goals exact ⟨⟨k + 1, by omega, by go_num, hW4, hb0w.grown hG4 (by simp; omega), HBW.out.grown hG4 HBW.out.size (by simp; omega)⟩, by simp [intOf]; omega⟩
      · obtain rfl : k = K := by omega
        have hct : wr.cell? ⟨w.heap.size, 0, none⟩ = some (.int .i64 t) := (hb0.cell 0).trans ht
        go_wp2_with (first | (refine load_blk (ty := 25) rfl rfl rfl Try.underlying25 rfl (info25' t (clr f k)) hb1 ?_) | (refine eql_win rfl rfl rfl rfl ?_) | fail)
        go_ret
        exact ⟨by rw [HK.out]; rfl, HBL.out⟩
end Go.Proofs.Ytkmmfobnpapceaa
