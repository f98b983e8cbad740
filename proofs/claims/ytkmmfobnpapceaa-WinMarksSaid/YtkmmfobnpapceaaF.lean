/- The reference's power, Has. -/
import Derived.Test.YtkmmfobnpapceaaC
namespace Go.Proofs.Ytkmmfobnpapceaa
open Go.RowKit

theorem pow2_zero : pow2 0 = 1 := rfl
theorem pow2_succ (k : Nat) : pow2 (k + 1) = 2 * pow2 k := by unfold pow2; rw [Nat.pow_succ]; omega
theorem pow2_wrap (k : Nat) (h : k + 1 < 64) : IntKind.u64.wrap (2 * (pow2 k : Int)) = (pow2 (k + 1) : Int) := by
  have := pow2_lt (k + 1) h
  rw [pow2_succ] at this ⊢
  rw [IntKind.wrap_u64]; omega

set_option maxRecDepth 100000 in
set_option maxHeartbeats 400000 in
theorem power_any (n : Int) (w : World) (h0 : 0 ≤ n) (h1 : n < 64) :
    Calls Try.prog 21 #[.int .i64 n] w fun e w' => e = .returned (.int .u64 (pow2 n.toNat : Int)) ∧ w' = w := by
  obtain ⟨m, rfl⟩ := Int.eq_ofNat_of_zero_le h0
  rw [Int.toNat_natCast]
  go_enter Try.func21, Try.ntmps21
  go_wp2
  go_loop [3, 4] (fun o i => ∃ k : Nat, k ≤ m ∧ i = .int .i64 k ∧ o = .int .u64 (pow2 k : Int)) (fun _ i => m - (intOf i).toNat)
  case atStart => exact ⟨0, Nat.zero_le _, rfl, rfl⟩
  case round =>
    obtain ⟨k, hk, rfl, rfl⟩ := hrel
    by_cases hlt : k < m
    · have hw := pow2_wrap k (by omega)
      go_wp2
      exact ⟨⟨k + 1, by omega, by go_num, rfl⟩, by simp [intOf]; omega⟩
    · obtain rfl : k = m := by omega
      go_wp2
      go_ret
      exact ⟨rfl, rfl⟩

theorem power_nat (j : Nat) (w : World) (h : j < 64) : Calls Try.prog 21 #[.int .i64 (j : Int)] w fun e w' => e = .returned (.int .u64 (pow2 j : Int)) ∧ w' = w := by
  have := power_any j w (by omega) (by omega)
  rwa [Int.toNat_natCast] at this

set_option maxRecDepth 100000 in
set_option maxHeartbeats 400000 in
theorem rHas_any (t : Int) (f : Nat → Bool) (n : Int) (w : World) (h0 : 0 ≤ n) (h1 : n < 1024) :
    Calls Try.prog 17 #[.agg (winA t f), .int .i64 n] w fun e w' => e = .returned (.bool (f n.toNat)) ∧ Below w.heap.size w w' := by
  obtain ⟨p, rfl⟩ := Int.eq_ofNat_of_zero_le h0
  rw [Int.toNat_natCast]
  have hp : p < 1024 := by omega
  have hdv := word_div f p
  obtain ⟨i, hi⟩ : ∃ i, p / 64 = i := ⟨_, rfl⟩
  obtain ⟨j, hj⟩ : ∃ j, p % 64 = j := ⟨_, rfl⟩
  rw [hi, hj] at hdv
  have e1 : IntKind.i64.wrap ((p : Int) / 64) = (i : Int) := by rw [IntKind.wrap_i64]; omega
  have e2 : (p : Int).tmod 64 = (j : Int) := by rw [Int.tmod_eq_emod_of_nonneg (by omega)]; omega
  have e3 : i < 16 := by omega
  have e4 : j < 64 := by omega
  have e5 : (i : Int) < 16 := by omega
  have hb := winA_bits t f i e3
  have hpos := pow2_pos j
  have hwl := word_lt f i
  obtain ⟨q, hq⟩ : ∃ q, word f i / pow2 j = q := ⟨_, rfl⟩
  have hql : q ≤ word f i := by rw [← hq]; exact Nat.div_le_self _ _
  rw [show 2 ^ j = pow2 j from rfl, hq] at hdv
  have f1 : ((pow2 j : Int) == 0) = false := beq_eq_false_iff_ne.2 (by omega)
  have f2 : (word f i : Int).tdiv (pow2 j : Int) = (q : Int) := by rw [Int.tdiv_eq_ediv_of_nonneg (by omega), ← Int.natCast_ediv, hq]
  have f3 : IntKind.u64.wrap (q : Int) = (q : Int) := by rw [IntKind.wrap_u64]; omega
  have HDV := Lib.hid hdv
  clear hi hj hdv hq
  go_enter Try.func17, Try.ntmps17
  go_wp2
  go_quiet ((go_at_call 21; exact Calls.quiet_of_same (power_nat j _ (by omega))))
  have HR : Hid (((q : Int) % 2 == 1) = f p) := by
    have h := HDV.out
    show _ = _
    rw [← h, Bool.eq_iff_iff, beq_iff_eq, beq_iff_eq]; omega
  have HB : Hid (Below w.heap.size w ((w.alloc (Obj.cells (winA t f) 25)).drewN nq)) := below_drewN ((Below.refl w.heap.size w).alloc (Nat.le_refl _) _) nq
  go_wp2
  go_ret
  exact ⟨by rw [← HR.out]; rfl, HB.out⟩
end Go.Proofs.Ytkmmfobnpapceaa
