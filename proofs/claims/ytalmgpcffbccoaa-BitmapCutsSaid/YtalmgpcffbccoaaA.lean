/- Contracts: Place, Right, Ints, Same. -/
import Derived.Test.YtalmgpcffbccoaaZ
import Derived.Test.YtalmgpcffbccoaaB
import Derived.WalkLawsBesides
import Derived.WalkSpells
import Derived.Laws.BytesArg
import Derived.IntWalk
import Derived.Outline
namespace Go.Proofs.Ytalmgpcffbccoaa
open Go.RowKit

set_option maxRecDepth 100000 in
set_option maxHeartbeats 2000000 in
theorem place_yes (n : Int) (w : World) (h1 : 1 ≤ n) (h2 : n ≤ 128) : Calls Try.prog 12 #[.int .i64 n] w fun e w' => e = .returned (.tuple #[.int .i64 (placeA n), .int .u8 (placeB n)]) ∧ Below w.heap.size w w' := by
  have d0 : decide (n < 1) = false := by simp; omega
  have d1 : decide (128 < n) = false := by simp; omega
  have e1 : IntKind.i64.wrap (n - 1) = n - 1 := IntWalk.i64_in _ (by omega)
  go_enter Try.func12, Try.ntmps12
  go_wp2_with fail
  go_quiet (fail)
  go_wp2_with fail
  go_ret2
  exact ⟨by rw [placeA_in h1 h2, placeB_in h1 h2]; rfl, below_drewN (Below.refl _ _) _⟩

set_option maxRecDepth 100000 in
set_option maxHeartbeats 2000000 in
theorem place_no (n : Int) (w : World) (h : n < 1 ∨ 128 < n) : Calls Try.prog 12 #[.int .i64 n] w fun e w' => e = .returned (.tuple #[.int .i64 (placeA n), .int .u8 (placeB n)]) ∧ Below w.heap.size w w' := by
  have HP := Lib.hid (place_out h)
  by_cases h0 : n < 1
  · have d0 : decide (n < 1) = true := by simp; omega
    clear h
    go_enter Try.func12, Try.ntmps12
    go_wp2_with fail
    go_ret2
    exact ⟨by rw [HP.out.1, HP.out.2]; rfl, Below.refl _ _⟩
  · have d0 : decide (n < 1) = false := by simp; omega
    have d1 : decide (128 < n) = true := by simp; omega
    clear h
    go_enter Try.func12, Try.ntmps12
    go_wp2_with fail
    go_ret2
    exact ⟨by rw [HP.out.1, HP.out.2]; rfl, Below.refl _ _⟩

theorem place_any (n : Int) (w : World) : Calls Try.prog 12 #[.int .i64 n] w fun e w' => e = .returned (.tuple #[.int .i64 (placeA n), .int .u8 (placeB n)]) ∧ Below w.heap.size w w' := by
  by_cases h : 1 ≤ n ∧ n ≤ 128
  · exact place_yes n w h.1 h.2
  · exact place_no n w (by omega)

theorem half_half (k : Nat) : (128 : Int) / 2 ^ k / 2 = 128 / 2 ^ (k + 1) := by
  rw [Int.ediv_ediv_of_nonneg (Int.le_of_lt (Int.pow_pos (by omega))), ← Int.pow_succ]
theorem half_bd (k : Nat) : 0 ≤ (128 : Int) / 2 ^ k ∧ (128 : Int) / 2 ^ k ≤ 128 := by
  have h : (0 : Int) < 2 ^ k := Int.pow_pos (by omega)
  refine ⟨Int.ediv_nonneg (by omega) (by omega), Int.ediv_le_self _ (by omega)⟩

set_option maxRecDepth 100000 in
set_option maxHeartbeats 2000000 in
theorem rplace_yes (n : Int) (w : World) (h1 : 1 ≤ n) (h2 : n ≤ 128) : Calls Try.prog 13 #[.int .i64 n] w fun e w' => e = .returned (.tuple #[.int .i64 (placeA n), .int .u8 (placeB n)]) ∧ w' = w := by
  have d0 : decide (n < 1) = false := by simp; omega
  have d1 : decide (128 < n) = false := by simp; omega
  go_enter Try.func13, Try.ntmps13
  go_wp2_with fail
  go_loop [4, 5] (fun b i => ∃ k : Nat, (k : Int) ≤ (n - 1) % 8 ∧ i = .int .i64 k ∧ b = .int .i64 (128 / 2 ^ k)) (fun _ i => ((n - 1) % 8 - intOf i).toNat)
  case atStart => exact ⟨0, by omega, rfl, rfl⟩
  case round =>
    obtain ⟨k, hk, rfl, rfl⟩ := hrel
    have hb := half_bd k
    by_cases hlt : (k : Int) < (n - 1) % 8
    · have HH := Lib.hid (half_half k)
      go_wp2
      go_round
      case rel => exact ⟨k + 1, by omega, by go_num, by rw [← HH.out]⟩
      case measure => simp [intOf]; omega
    · have HK : Hid (((n - 1) % 8).toNat = k) := Lib.hid (by omega)
      go_wp2
      go_ret2
      exact ⟨by rw [placeA_in h1 h2, placeB_in h1 h2, HK.out]; rfl, rfl⟩

set_option maxRecDepth 100000 in
set_option maxHeartbeats 2000000 in
theorem rplace_no (n : Int) (w : World) (h : n < 1 ∨ 128 < n) : Calls Try.prog 13 #[.int .i64 n] w fun e w' => e = .returned (.tuple #[.int .i64 (placeA n), .int .u8 (placeB n)]) ∧ w' = w := by
  have HP := Lib.hid (place_out h)
  by_cases h0 : n < 1
  · have d0 : decide (n < 1) = true := by simp; omega
    clear h
    go_enter Try.func13, Try.ntmps13
    go_wp2_with fail
    go_ret2
    exact ⟨by rw [HP.out.1, HP.out.2]; rfl, rfl⟩
  · have d0 : decide (n < 1) = false := by simp; omega
    have d1 : decide (128 < n) = true := by simp; omega
    clear h
    go_enter Try.func13, Try.ntmps13
    go_wp2_with fail
    go_ret2
    exact ⟨by rw [HP.out.1, HP.out.2]; rfl, rfl⟩

theorem rplace_any (n : Int) (w : World) : Calls Try.prog 13 #[.int .i64 n] w fun e w' => e = .returned (.tuple #[.int .i64 (placeA n), .int .u8 (placeB n)]) ∧ w' = w := by
  by_cases h : 1 ≤ n ∧ n ≤ 128
  · exact rplace_yes n w h.1 h.2
  · exact rplace_no n w (by omega)

set_option maxRecDepth 100000 in
set_option maxHeartbeats 4000000 in
theorem right_any (A : Option Addr) (l : List Int) (c : Nat) (w : World) (hx : Ri w A l) : Calls Try.prog 15 #[.slice A l.length c] w fun e w' => e = .returned (.bool (rightL l)) ∧ w' = w := by
  have hm := hx.len
  unfold maxLen at hm
  go_enter Try.func15, Try.ntmps15
  go_wp2_with fail
  go_loop [3, 8] (fun last i => ∃ (k : Nat) (p : Int), k ≤ l.length ∧ i = .int .i64 k ∧ last = .int .i64 p ∧ Hid (rightL l = rightF p (l.drop k))) (fun _ i => l.length - (intOf i).toNat)
  case atStart => exact ⟨0, 1, by omega, rfl, rfl, Lib.hid rfl⟩
  case round =>
    obtain ⟨k, p, hk, rfl, rfl, HR⟩ := hrel
    by_cases hlt : k < l.length
    · obtain ⟨b, off, rfl, hb, hc⟩ := hx.cells (by omega)
      have hck := hc k hlt
      have HS := Lib.hid (rightF_step (p := p) hlt)
      clear hc hx
      generalize l.getD k 0 = x at *
      by_cases h1 : x ≤ p
      · have HB : Hid (badN p x = true) := Lib.hid (by unfold badN; simp [h1])
        have d1 : decide (x ≤ p) = true := by simpa using h1
        clear h1
        go_wp2_with fail
        go_ret
        exact ⟨by rw [HR.out, HS.out, HB.out]; rfl, rfl⟩
      have d1 : decide (x ≤ p) = false := by simpa using h1
      by_cases h2 : 128 < x
      · have HB : Hid (badN p x = true) := Lib.hid (by unfold badN; simp [h2])
        have d2 : decide (128 < x) = true := by simpa using h2
        clear h1 h2
        go_wp2_with fail
        go_ret
        exact ⟨by rw [HR.out, HS.out, HB.out]; rfl, rfl⟩
      have d2 : decide (128 < x) = false := by simpa using h2
      cases h3 : x == 65
      · have HB : Hid (badN p x = false) := Lib.hid (by unfold badN; simp [d1, d2, h3])
        clear h1 h2
        go_wp2_with fail
        go_round
        case rel => exact ⟨k + 1, x, by omega, by go_num, rfl, Lib.hid (by rw [HR.out, HS.out, HB.out]; rfl)⟩
        case measure => simp [intOf]; omega
      · have HB : Hid (badN p x = true) := Lib.hid (by unfold badN; simp [h3])
        clear h1 h2
        go_wp2_with fail
        go_ret
        exact ⟨by rw [HR.out, HS.out, HB.out]; rfl, rfl⟩
    · have HE := Lib.hid (rightF_end (p := p) (l := l) (k := k) (by omega))
      clear hx
      go_wp2_with fail
      go_ret
      exact ⟨by rw [HR.out, HE.out]; rfl, rfl⟩
end Go.Proofs.Ytalmgpcffbccoaa
