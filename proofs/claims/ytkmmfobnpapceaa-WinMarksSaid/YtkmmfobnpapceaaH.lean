/- The reference's Fresh: its contract. -/
import Derived.Test.YtkmmfobnpapceaaG
namespace Go.Proofs.Ytkmmfobnpapceaa
open Go.RowKit

set_option maxRecDepth 100000 in
set_option maxHeartbeats 2000000 in
theorem rFresh_near (t : Int) (f : Nat → Bool) (n : Int) (w : World) (h0 : 0 ≤ t) (h1 : t ≤ 4611686018427387905) (hn0 : 0 ≤ n) (hn1 : n ≤ 4611686018427387904) (hn2 : n < t) (hn3 : t - 1024 ≤ n) :
    Calls Try.prog 14 #[.agg (winA t f), .int .i64 n] w fun e w' => e = .returned (.bool (!f (n.toNat % 1024))) ∧ Below w.heap.size w w' := by
  have ht := winA_top t f
  have HB := Lib.hid ((Below.refl w.heap.size w).alloc (Nat.le_refl _) (Obj.cells (winA t f) 25))
  have d0 : decide (n < 0) = false := by simp; omega
  have d1 : decide (4611686018427387904 < n) = false := by simp; omega
  have d2 : decide (n < t - 1024) = false := by simp; omega
  have d3 : decide (t ≤ n) = false := by simp; omega
  go_enter Try.func14, Try.ntmps14
  go_wp2_with (first | (refine load_blk_g (ty := 25) rfl rfl rfl Try.underlying25 rfl (info25' t f) (Blk.new w 25 _) ?_) | (go_at_call 17; refine (rHas_any t f _ _ (by omega) (by omega)).mono ?_; rintro e w' ⟨rfl, hb1⟩; have HB1 := Lib.hid (HB.out.trans (hb1.mono (by simp))); clear hb1) | fail)
  go_ret
  exact ⟨by rw [show n.toNat % 1024 = (n % 1024).toNat from by omega]; rfl, HB1.out⟩

set_option maxRecDepth 100000 in
set_option maxHeartbeats 2000000 in
theorem rFresh_low (t : Int) (f : Nat → Bool) (n : Int) (w : World) (h0 : 0 ≤ t) (h1 : t ≤ 4611686018427387905) (hn0 : 0 ≤ n) (hn1 : n ≤ 4611686018427387904) (hn3 : n < t - 1024) :
    Calls Try.prog 14 #[.agg (winA t f), .int .i64 n] w fun e w' => e = .returned (.bool false) ∧ Below w.heap.size w w' := by
  have ht := winA_top t f
  have HB := Lib.hid ((Below.refl w.heap.size w).alloc (Nat.le_refl _) (Obj.cells (winA t f) 25))
  have d0 : decide (n < 0) = false := by simp; omega
  have d1 : decide (4611686018427387904 < n) = false := by simp; omega
  have d2 : decide (n < t - 1024) = true := by simp; omega
  go_enter Try.func14, Try.ntmps14
  go_wp2
  go_ret
  exact ⟨rfl, HB.out⟩

set_option maxRecDepth 100000 in
set_option maxHeartbeats 2000000 in
theorem rFresh_high (t : Int) (f : Nat → Bool) (n : Int) (w : World) (h0 : 0 ≤ t) (h1 : t ≤ 4611686018427387905) (hn0 : 0 ≤ n) (hn1 : n ≤ 4611686018427387904) (hn3 : t ≤ n) :
    Calls Try.prog 14 #[.agg (winA t f), .int .i64 n] w fun e w' => e = .returned (.bool true) ∧ Below w.heap.size w w' := by
  have ht := winA_top t f
  have HB := Lib.hid ((Below.refl w.heap.size w).alloc (Nat.le_refl _) (Obj.cells (winA t f) 25))
  have d0 : decide (n < 0) = false := by simp; omega
  have d1 : decide (4611686018427387904 < n) = false := by simp; omega
  have d2 : decide (n < t - 1024) = false := by simp; omega
  have d3 : decide (t ≤ n) = true := by simp; omega
  go_enter Try.func14, Try.ntmps14
  go_wp2
  go_ret
  exact ⟨rfl, HB.out⟩

set_option maxRecDepth 100000 in
set_option maxHeartbeats 2000000 in
theorem rFresh_out (t : Int) (f : Nat → Bool) (n : Int) (w : World) (h : n < 0 ∨ 4611686018427387904 < n) :
    Calls Try.prog 14 #[.agg (winA t f), .int .i64 n] w fun e w' => e = .returned (.bool false) ∧ Below w.heap.size w w' := by
  have ht := winA_top t f
  have HB := Lib.hid ((Below.refl w.heap.size w).alloc (Nat.le_refl _) (Obj.cells (winA t f) 25))
  rcases h with h | h
  · have d0 : decide (n < 0) = true := by simp; omega
    go_enter Try.func14, Try.ntmps14
    go_wp2
    go_ret
    exact ⟨rfl, HB.out⟩
  · have d0 : decide (n < 0) = false := by simp; omega
    have d1 : decide (4611686018427387904 < n) = true := by simp; omega
    go_enter Try.func14, Try.ntmps14
    go_wp2
    go_ret
    exact ⟨rfl, HB.out⟩

theorem freshB_out {t : Int} {f : Nat → Bool} {n : Int} (a : n < 0 ∨ 4611686018427387904 < n) : freshB t f n = false := by
  unfold freshB
  rcases a with a | a
  · rw [show decide (0 ≤ n) = false by simp; omega]; rfl
  · rw [show decide (n ≤ 4611686018427387904) = false by simp; omega]; simp
theorem freshB_high {t : Int} {f : Nat → Bool} {n : Int} (h0 : 0 ≤ n) (h1 : n ≤ 4611686018427387904) (h2 : t ≤ n) : freshB t f n = true := by
  unfold freshB; rw [show decide (0 ≤ n) = true by simp; omega, show decide (n ≤ 4611686018427387904) = true by simp; omega, show decide (t ≤ n) = true by simp; omega]; rfl
theorem freshB_low {t : Int} {f : Nat → Bool} {n : Int} (h2 : n < t - 1024) : freshB t f n = false := by
  unfold freshB; rw [show decide (t ≤ n) = false by simp; omega, show decide (t - 1024 ≤ n) = false by simp; omega]; simp
theorem freshB_near {t : Int} {f : Nat → Bool} {n : Int} (h0 : 0 ≤ n) (h1 : n ≤ 4611686018427387904) (h2 : n < t) (h3 : t - 1024 ≤ n) : freshB t f n = !f (n.toNat % 1024) := by
  unfold freshB; rw [show decide (0 ≤ n) = true by simp; omega, show decide (n ≤ 4611686018427387904) = true by simp; omega, show decide (t ≤ n) = false by simp; omega, show decide (t - 1024 ≤ n) = true by simp; omega]; simp

theorem rFresh_any (t : Int) (f : Nat → Bool) (n : Int) (w : World) (h0 : 0 ≤ t) (h1 : t ≤ 4611686018427387905) :
    Calls Try.prog 14 #[.agg (winA t f), .int .i64 n] w fun e w' => e = .returned (.bool (freshB t f n)) ∧ Below w.heap.size w w' := by
  by_cases a : n < 0 ∨ 4611686018427387904 < n
  · rw [freshB_out a]; exact rFresh_out t f n w a
  by_cases b : t ≤ n
  · rw [freshB_high (by omega) (by omega) b]; exact rFresh_high t f n w h0 h1 (by omega) (by omega) b
  by_cases c : t - 1024 ≤ n
  · rw [freshB_near (by omega) (by omega) (by omega) c]; exact rFresh_near t f n w h0 h1 (by omega) (by omega) (by omega) c
  · rw [freshB_low (by omega)]; exact rFresh_low t f n w h0 h1 (by omega) (by omega) (by omega)
end Go.Proofs.Ytkmmfobnpapceaa
