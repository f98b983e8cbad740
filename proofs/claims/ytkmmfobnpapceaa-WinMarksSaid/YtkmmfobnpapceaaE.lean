/- win.Right, win.Fresh: their contracts on any window. -/
import Derived.Test.YtkmmfobnpapceaaD
namespace Go.Proofs.Ytkmmfobnpapceaa
open Go.RowKit

theorem wRight_t (t : Int) (f : Nat → Bool) (w : World) (h : RightP t f) : Calls Try.prog 12 #[.agg (winA t f)] w fun e w' => e = .returned (.bool true) ∧ Below w.heap.size w w' := by
  obtain ⟨h0, h1, h2, h3⟩ := h
  by_cases hz : t = 0
  · subst hz
    have e : weq 0 f 0 noBits = true := (weq_iff _ _ _ _).2 ⟨rfl, fun p hp => h2 p hp (by omega)⟩
    rw [← e]; exact wRight_zero f w
  · have e : weq t (clr f (min t.toNat 1024)) t noBits = true := (weq_iff _ _ _ _).2 ⟨rfl, fun p hp => by
      unfold clr noBits
      by_cases hq : p < min t.toNat 1024
      · rw [if_pos hq]
      · rw [if_neg hq]; exact h2 p hp (by omega)⟩
    rw [← e]; exact wRight_yes t f w (by omega) h1 (h3.resolve_left hz)

theorem wRight_f (t : Int) (f : Nat → Bool) (w : World) (h : ¬ RightP t f) : Calls Try.prog 12 #[.agg (winA t f)] w fun e w' => e = .returned (.bool false) ∧ Below w.heap.size w w' := by
  by_cases h0 : t < 0 ∨ 4611686018427387905 < t
  · exact wRight_out t f w h0
  by_cases hz : t = 0
  · subst hz
    have e : weq 0 f 0 noBits = false := Bool.eq_false_iff.2 fun he => h ⟨by omega, by omega, fun p hp _ => ((weq_iff _ _ _ _).1 he).2 p hp, .inl rfl⟩
    rw [← e]; exact wRight_zero f w
  · by_cases hf : f ((t - 1).toNat % 1024) = true
    · have e : weq t (clr f (min t.toNat 1024)) t noBits = false := Bool.eq_false_iff.2 fun he => h ⟨by omega, by omega, fun p hp ht => by
        have := ((weq_iff _ _ _ _).1 he).2 p hp
        unfold clr noBits at this
        rwa [if_neg (by omega)] at this, .inr hf⟩
      rw [← e]; exact wRight_yes t f w (by omega) (by omega) hf
    · exact wRight_no t f w (by omega) (by omega) (by simpa using hf)

/-- May a number be taken? -/
def freshB (t : Int) (f : Nat → Bool) (n : Int) : Bool :=
  decide (0 ≤ n) && decide (n ≤ 4611686018427387904) && (decide (t ≤ n) || decide (t - 1024 ≤ n) && !f (n.toNat % 1024))

set_option maxRecDepth 100000 in
set_option maxHeartbeats 2000000 in
theorem wFresh_near (t : Int) (f : Nat → Bool) (n : Int) (w : World) (h0 : 0 ≤ t) (h1 : t ≤ 4611686018427387905) (hn0 : 0 ≤ n) (hn1 : n ≤ 4611686018427387904) (hn2 : n < t) (hn3 : t - 1024 ≤ n) :
    Calls Try.prog 13 #[.agg (winA t f), .int .i64 n] w fun e w' => e = .returned (.bool (!f (n.toNat % 1024))) ∧ Below w.heap.size w w' := by
  have ht := winA_top t f
  have HB := Lib.hid ((Below.refl w.heap.size w).alloc (Nat.le_refl _) (Obj.cells (winA t f) 25))
  have d0 : decide (0 ≤ n) = true := by simp; omega
  have d1 : decide (n ≤ 4611686018427387904) = true := by simp; omega
  have d2 : decide (t ≤ n) = false := by simp; omega
  have d3 : decide (t - 1024 ≤ n) = true := by simp; omega
  go_enter Try.func13, Try.ntmps13
  go_wp2_with (first | (refine load_blk_g (ty := 25) rfl rfl rfl Try.underlying25 rfl (info25' t f) (Blk.new w 25 _) ?_) | (go_at_call 18; refine (has_any t f n _ (by omega) (by omega)).mono ?_; rintro e w' ⟨rfl, hb1⟩; have HB1 := Lib.hid (HB.out.trans (hb1.mono (by simp))); clear hb1) | fail)
  go_ret
  exact ⟨rfl, HB1.out⟩

set_option maxRecDepth 100000 in
set_option maxHeartbeats 2000000 in
theorem wFresh_low (t : Int) (f : Nat → Bool) (n : Int) (w : World) (h0 : 0 ≤ t) (h1 : t ≤ 4611686018427387905) (hn0 : 0 ≤ n) (hn1 : n ≤ 4611686018427387904) (hn3 : n < t - 1024) :
    Calls Try.prog 13 #[.agg (winA t f), .int .i64 n] w fun e w' => e = .returned (.bool false) ∧ Below w.heap.size w w' := by
  have ht := winA_top t f
  have HB := Lib.hid ((Below.refl w.heap.size w).alloc (Nat.le_refl _) (Obj.cells (winA t f) 25))
  have d0 : decide (0 ≤ n) = true := by simp; omega
  have d1 : decide (n ≤ 4611686018427387904) = true := by simp; omega
  have d2 : decide (t ≤ n) = false := by simp; omega
  have d3 : decide (t - 1024 ≤ n) = false := by simp; omega
  go_enter Try.func13, Try.ntmps13
  go_wp2
  go_ret
  exact ⟨rfl, HB.out⟩

set_option maxRecDepth 100000 in
set_option maxHeartbeats 2000000 in
theorem wFresh_high (t : Int) (f : Nat → Bool) (n : Int) (w : World) (_h0 : 0 ≤ t) (_h1 : t ≤ 4611686018427387905) (hn0 : 0 ≤ n) (hn1 : n ≤ 4611686018427387904) (hn3 : t ≤ n) :
    Calls Try.prog 13 #[.agg (winA t f), .int .i64 n] w fun e w' => e = .returned (.bool true) ∧ Below w.heap.size w w' := by
  have ht := winA_top t f
  have HB := Lib.hid ((Below.refl w.heap.size w).alloc (Nat.le_refl _) (Obj.cells (winA t f) 25))
  have d0 : decide (0 ≤ n) = true := by simp; omega
  have d1 : decide (n ≤ 4611686018427387904) = true := by simp; omega
  have d2 : decide (t ≤ n) = true := by simp; omega
  go_enter Try.func13, Try.ntmps13
  go_wp2
  go_ret
  exact ⟨rfl, HB.out⟩

set_option maxRecDepth 100000 in
set_option maxHeartbeats 2000000 in
theorem wFresh_out (t : Int) (f : Nat → Bool) (n : Int) (w : World) (h : n < 0 ∨ 4611686018427387904 < n) :
    Calls Try.prog 13 #[.agg (winA t f), .int .i64 n] w fun e w' => e = .returned (.bool false) ∧ Below w.heap.size w w' := by
  have ht := winA_top t f
  have HB := Lib.hid ((Below.refl w.heap.size w).alloc (Nat.le_refl _) (Obj.cells (winA t f) 25))
  rcases h with h | h
  · have d0 : decide (0 ≤ n) = false := by simp; omega
    go_enter Try.func13, Try.ntmps13
    go_wp2
    go_ret
    exact ⟨rfl, HB.out⟩
  · have d0 : decide (0 ≤ n) = true := by simp; omega
    have d1 : decide (n ≤ 4611686018427387904) = false := by simp; omega
    go_enter Try.func13, Try.ntmps13
    go_wp2
    go_ret
    exact ⟨rfl, HB.out⟩

theorem wFresh_any (t : Int) (f : Nat → Bool) (n : Int) (w : World) (h0 : 0 ≤ t) (h1 : t ≤ 4611686018427387905) :
    Calls Try.prog 13 #[.agg (winA t f), .int .i64 n] w fun e w' => e = .returned (.bool (freshB t f n)) ∧ Below w.heap.size w w' := by
  by_cases a : n < 0 ∨ 4611686018427387904 < n
  · have e : freshB t f n = false := by
      unfold freshB
      rcases a with a | a
      · rw [show decide (0 ≤ n) = false by simp; omega]; rfl
      · rw [show decide (n ≤ 4611686018427387904) = false by simp; omega]; simp
    rw [e]
    exact wFresh_out t f n w a
  have d0 : decide (0 ≤ n) = true := by simp; omega
  have d1 : decide (n ≤ 4611686018427387904) = true := by simp; omega
  by_cases b : t ≤ n
  · rw [show freshB t f n = true from by unfold freshB; rw [d0, d1, show decide (t ≤ n) = true by simp; omega]; rfl]
    exact wFresh_high t f n w h0 h1 (by omega) (by omega) b
  have d2 : decide (t ≤ n) = false := by simp; omega
  by_cases c : t - 1024 ≤ n
  · rw [show freshB t f n = !f (n.toNat % 1024) from by unfold freshB; rw [d0, d1, d2, show decide (t - 1024 ≤ n) = true by simp; omega]; simp]
    exact wFresh_near t f n w h0 h1 (by omega) (by omega) (by omega) c
  · rw [show freshB t f n = false from by unfold freshB; rw [d0, d1, d2, show decide (t - 1024 ≤ n) = false by simp; omega]; rfl]
    exact wFresh_low t f n w h0 h1 (by omega) (by omega) (by omega)
end Go.Proofs.Ytkmmfobnpapceaa
