/- The reference's Right, Fresh: their contracts. -/
import Derived.Test.YtkmmfobnpapceaaE
import Derived.Test.YtkmmfobnpapceaaF
namespace Go.Proofs.Ytkmmfobnpapceaa
open Go.RowKit

set_option maxHeartbeats 1000000 in
theorem rRight_out (t : Int) (f : Nat → Bool) (w : World) (h : t < 0 ∨ 4611686018427387905 < t) :
    Calls Try.prog 11 #[.agg (winA t f)] w fun e w' => e = .returned (.bool false) ∧ Below w.heap.size w w' := by
  have ht := winA_top t f
  have HB := Lib.hid ((Below.refl w.heap.size w).alloc (Nat.le_refl _) (Obj.cells (winA t f) 25))
  rcases h with h | h
  · go_enter Try.func11, Try.ntmps11
    go_wp2
    go_ret
    exact ⟨rfl, HB.out⟩
  · have h0 : ¬ t < 0 := by omega
    go_enter Try.func11, Try.ntmps11
    go_wp2
    go_ret
    exact ⟨rfl, HB.out⟩

/-- Up to which place all bits from t on are 0. -/
theorem first_one (f : Nat → Bool) (t : Nat) : (∀ p, t ≤ p → p < 1024 → f p = false) ∨ ∃ p, t ≤ p ∧ p < 1024 ∧ f p = true ∧ ∀ q, t ≤ q → q < p → f q = false := by
  by_cases h : ∀ p, t ≤ p → p < 1024 → f p = false
  · exact .inl h
  · right
    have : ∀ n, (∃ p, t ≤ p ∧ p < n ∧ f p = true) → ∃ p, t ≤ p ∧ p < n ∧ f p = true ∧ ∀ q, t ≤ q → q < p → f q = false := by
      intro n
      induction n with
      | zero => rintro ⟨p, _, hp, _⟩; omega
      | succ n ih =>
        rintro ⟨p, h1, h2, h3⟩
        by_cases hx : ∃ p, t ≤ p ∧ p < n ∧ f p = true
        · obtain ⟨r, a, b, c, d⟩ := ih hx
          exact ⟨r, a, by omega, c, d⟩
        · refine ⟨p, h1, h2, h3, fun q hq hqp => ?_⟩
          cases hfq : f q
          · rfl
          · exact absurd ⟨q, hq, by omega, hfq⟩ hx
    obtain ⟨p, hp⟩ := Classical.not_forall.1 h
    obtain ⟨h1, hp⟩ := Classical.not_imp.1 hp
    obtain ⟨h2, hp⟩ := Classical.not_imp.1 hp
    exact this 1024 ⟨p, h1, h2, by simpa using hp⟩

set_option maxRecDepth 100000 in
set_option maxHeartbeats 2000000 in
/-- A bit that is 1 above the greatest number. -/
theorem rRight_bit (t : Int) (f : Nat → Bool) (w : World) (h0 : 0 ≤ t) (m : Nat) (hm0 : t.toNat ≤ m) (hm : m < 1024) (hf : f m = true) (hz : ∀ q, t.toNat ≤ q → q < m → f q = false) :
    Calls Try.prog 11 #[.agg (winA t f)] w fun e w' => e = .returned (.bool false) ∧ Below w.heap.size w w' := by
  have ht := winA_top t f
  have hB := Blk.new w 25 (winA t f)
  have HB := Lib.hid ((Below.refl w.heap.size w).alloc (Nat.le_refl _) (Obj.cells (winA t f) 25))
  have HF := Lib.hid hf; clear hf
  have HZ := Lib.hid hz; clear hz
  have hd0 : decide (t < 0) = false := by simp; omega
  have hd1 : decide (4611686018427387905 < t) = false := by simp; omega
  go_enter Try.func11, Try.ntmps11
  go_wp2
  go_loopw [3] (fun i wr => ∃ k : Nat, t.toNat ≤ k ∧ k ≤ m ∧ i = .int .i64 k ∧ Blk wr w.heap.size 25 (winA t f) ∧ Below w.heap.size w wr) (fun i _ => m - (intOf i).toNat)
  case atStart => exact ⟨t.toNat, Nat.le_refl _, hm0, by rw [Int.toNat_of_nonneg h0], hB, HB.out⟩
  case round =>
    obtain ⟨k, hk0, hk, rfl, hb0, hbl⟩ := hrel
    have HBL := Lib.hid hbl; clear hbl
    by_cases hlt : k < m
    · go_wp2_with (first | (refine load_blk (ty := 25) rfl rfl rfl Try.underlying25 rfl (info25' t f) hb0 ?_) | (go_at_call 17; refine (rHas_any t f k _ (by omega) (by omega)).mono ?_; rintro e w3 ⟨rfl, hbw⟩; have hb0w := hb0.belowSelf hbw; have HBW := Lib.hid (HBL.out.trans (hbw.mono (HBL.out.size))); clear hbw; rw [Int.toNat_natCast, HZ.out k hk0 hlt]) | fail)
      exact ⟨⟨k + 1, by omega, by omega, by go_num, hb0w, HBW.out⟩, by simp [intOf]; omega⟩
    · obtain rfl : k = m := by omega
      go_wp2_with (first | (refine load_blk (ty := 25) rfl rfl rfl Try.underlying25 rfl (info25' t f) hb0 ?_) | (go_at_call 17; refine (rHas_any t f k _ (by omega) (by omega)).mono ?_; rintro e w3 ⟨rfl, hbw⟩; have hb0w := hb0.belowSelf hbw; have HBW := Lib.hid (HBL.out.trans (hbw.mono (HBL.out.size))); clear hbw; rw [Int.toNat_natCast, HF.out]) | fail)
      go_ret
      exact ⟨rfl, HBW.out⟩

set_option maxRecDepth 100000 in
set_option maxHeartbeats 2000000 in
theorem rRight_zero (f : Nat → Bool) (w : World) (hz : ∀ q, q < 1024 → f q = false) :
    Calls Try.prog 11 #[.agg (winA 0 f)] w fun e w' => e = .returned (.bool true) ∧ Below w.heap.size w w' := by
  have ht := winA_top 0 f
  have hB := Blk.new w 25 (winA 0 f)
  have HB := Lib.hid ((Below.refl w.heap.size w).alloc (Nat.le_refl _) (Obj.cells (winA 0 f) 25))
  have HZ := Lib.hid hz; clear hz
  go_enter Try.func11, Try.ntmps11
  go_wp2
  go_loopw [3] (fun i wr => ∃ k : Nat, k ≤ 1024 ∧ i = .int .i64 k ∧ Blk wr w.heap.size 25 (winA 0 f) ∧ Below w.heap.size w wr) (fun i _ => 1024 - (intOf i).toNat)
  case atStart => exact ⟨0, by omega, rfl, hB, HB.out⟩
  case round =>
    obtain ⟨k, hk, rfl, hb0, hbl⟩ := hrel
    have HBL := Lib.hid hbl; clear hbl
    by_cases hlt : k < 1024
    · go_wp2_with (first | (refine load_blk (ty := 25) rfl rfl rfl Try.underlying25 rfl (info25' 0 f) hb0 ?_) | (go_at_call 17; refine (rHas_any 0 f k _ (by omega) (by omega)).mono ?_; rintro e w3 ⟨rfl, hbw⟩; have hb0w := hb0.belowSelf hbw; have HBW := Lib.hid (HBL.out.trans (hbw.mono (HBL.out.size))); clear hbw; rw [Int.toNat_natCast, HZ.out k hlt]) | fail)
      exact ⟨⟨k + 1, by omega, by go_num, hb0w, HBW.out⟩, by simp [intOf]; omega⟩
    · obtain rfl : k = 1024 := by omega
      have hct : wr.cell? ⟨w.heap.size, 0, none⟩ = some (.int .i64 0) := (hb0.cell 0).trans ht
      go_wp2
      go_ret
      exact ⟨rfl, HBL.out⟩

set_option maxRecDepth 100000 in
set_option maxHeartbeats 2000000 in
theorem rRight_last (t : Int) (f : Nat → Bool) (w : World) (h0 : 1 ≤ t) (h1 : t ≤ 4611686018427387905) (hz : ∀ q, t.toNat ≤ q → q < 1024 → f q = false) :
    Calls Try.prog 11 #[.agg (winA t f)] w fun e w' => e = .returned (.bool (f ((t - 1).toNat % 1024))) ∧ Below w.heap.size w w' := by
  have ht := winA_top t f
  have hB := Blk.new w 25 (winA t f)
  have HB := Lib.hid ((Below.refl w.heap.size w).alloc (Nat.le_refl _) (Obj.cells (winA t f) 25))
  have HZ := Lib.hid hz; clear hz
  have hd0 : decide (t < 0) = false := by simp; omega
  have hd1 : decide (4611686018427387905 < t) = false := by simp; omega
  have ht0 : (t == 0) = false := beq_eq_false_iff_ne.2 (by omega)
  obtain ⟨m, hm⟩ : ∃ m : Nat, m = max t.toNat 1024 := ⟨_, rfl⟩
  have hm1 : t.toNat ≤ m := by omega
  have hm2 : 1024 ≤ m := by omega
  have HM := Lib.hid hm; clear hm
  go_enter Try.func11, Try.ntmps11
  go_wp2
  go_loopw [3] (fun i wr => ∃ k : Nat, t.toNat ≤ k ∧ k ≤ m ∧ i = .int .i64 k ∧ Blk wr w.heap.size 25 (winA t f) ∧ Below w.heap.size w wr) (fun i _ => m - (intOf i).toNat)
  case atStart => exact ⟨t.toNat, Nat.le_refl _, hm1, by rw [Int.toNat_of_nonneg (by omega)], hB, HB.out⟩
  case round =>
    obtain ⟨k, hk0, hk, rfl, hb0, hbl⟩ := hrel
    have HBL := Lib.hid hbl; clear hbl
    by_cases hlt : k < 1024
    · go_wp2_with (first | (refine load_blk (ty := 25) rfl rfl rfl Try.underlying25 rfl (info25' t f) hb0 ?_) | (go_at_call 17; refine (rHas_any t f k _ (by omega) (by omega)).mono ?_; rintro e w3 ⟨rfl, hbw⟩; have hb0w := hb0.belowSelf hbw; have HBW := Lib.hid (HBL.out.trans (hbw.mono (HBL.out.size))); clear hbw; rw [Int.toNat_natCast, HZ.out k hk0 hlt]) | fail)
      exact ⟨⟨k + 1, by omega, by omega, by go_num, hb0w, HBW.out⟩, by simp [intOf]; omega⟩
    · have hct : wr.cell? ⟨w.heap.size, 0, none⟩ = some (.int .i64 t) := (hb0.cell 0).trans ht
      go_wp2_with (first | (refine load_blk_g (ty := 25) rfl rfl rfl Try.underlying25 rfl (info25' t f) hb0 ?_) | (go_at_call 17; refine (rHas_any t f _ _ (by omega) (by omega)).mono ?_; rintro e w3 ⟨rfl, hbw⟩; have HBW := Lib.hid (HBL.out.trans (hbw.mono (HBL.out.size))); clear hbw) | fail)
      go_ret
      exact ⟨by rw [show (t - 1).toNat % 1024 = ((t - 1) % 1024).toNat from by omega]; rfl, HBW.out⟩

theorem rRight_t (t : Int) (f : Nat → Bool) (w : World) (h : RightP t f) : Calls Try.prog 11 #[.agg (winA t f)] w fun e w' => e = .returned (.bool true) ∧ Below w.heap.size w w' := by
  obtain ⟨h0, h1, h2, h3⟩ := h
  by_cases hz : t = 0
  · subst hz; exact rRight_zero f w (fun q hq => h2 q hq (by omega))
  · have h3 := h3.resolve_left hz
    have := rRight_last t f w (by omega) h1 (fun q hq hq2 => h2 q hq2 (by omega))
    rwa [h3] at this
theorem rRight_f (t : Int) (f : Nat → Bool) (w : World) (h : ¬ RightP t f) : Calls Try.prog 11 #[.agg (winA t f)] w fun e w' => e = .returned (.bool false) ∧ Below w.heap.size w w' := by
  by_cases h0 : t < 0 ∨ 4611686018427387905 < t
  · exact rRight_out t f w h0
  rcases first_one f t.toNat with hz | ⟨m, a, b, c, d⟩
  · have ht : ¬ t = 0 := fun e => h ⟨by omega, by omega, fun p hp ht => hz p (by omega) hp, .inl e⟩
    have hf : f ((t - 1).toNat % 1024) = false := by
      cases hf : f ((t - 1).toNat % 1024)
      · rfl
      · exact absurd ⟨by omega, by omega, fun p hp ht => hz p (by omega) hp, .inr hf⟩ h
    have := rRight_last t f w (by omega) (by omega) hz
    rwa [hf] at this
  · exact rRight_bit t f w (by omega) m a b c d
end Go.Proofs.Ytkmmfobnpapceaa
