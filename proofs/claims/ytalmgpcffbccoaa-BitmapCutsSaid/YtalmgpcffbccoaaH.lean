/- Contracts: set, and the iterator that it hands back. -/
import Derived.Test.YtalmgpcffbccoaaG
import Derived.RangeFuncNested
import Derived.RangeFuncBound
import Derived.RangeFuncCalls
import Derived.RangeFuncLeaves
import Derived.Shelf.Abstract
import Derived.Shelf.RegionOpen
import Derived.OwnWalkIn
import Derived.TacticsInMore
import Derived.LoopNIn
import Derived.LoopIn
namespace Go.Proofs.Ytalmgpcffbccoaa
open Go.RowKit Go.Shelf

attribute [local go_sem] Oper.semAt_some

/-- The numbers up to m whose bits are 1. -/
def bitsTo (zs : List Int) : Nat → List Int
  | 0 => []
  | m + 1 => bitsTo zs m ++ (if testB zs (m + 1) then [((m + 1 : Nat) : Int)] else [])
theorem bitsTo_yes {zs : List Int} {m : Nat} (h : testB zs (m + 1) = true) : bitsTo zs (m + 1) = bitsTo zs m ++ [(m : Int) + 1] := by
  show bitsTo zs m ++ _ = _
  rw [if_pos h]; rfl
theorem bitsTo_no {zs : List Int} {m : Nat} (h : testB zs (m + 1) = false) : bitsTo zs (m + 1) = bitsTo zs m := by
  show bitsTo zs m ++ _ = _
  rw [if_neg (by rw [h]; simp), List.append_nil]
theorem bitsTo_len (zs : List Int) : ∀ m, (bitsTo zs m).length ≤ m
  | 0 => Nat.le_refl _
  | m + 1 => by
    have := bitsTo_len zs m
    unfold bitsTo
    rw [List.length_append]
    split <;> simp <;> omega

/-- What a round keeps for the iterator. -/
def Kps (n₀ Bn : Nat) (W W' : World) : Prop := Below n₀ W W' ∧ W'.cell? ⟨Bn, 0, none⟩ = W.cell? ⟨Bn, 0, none⟩

theorem grown_of_below {w w' : World} (hb : Below w.heap.size w w') : w.grownBy w' none := ⟨hb.os, hb.tape, hb.output, hb.size, fun k hk _ => hb.block k hk⟩

set_option maxRecDepth 100000 in
set_option maxHeartbeats 4000000 in
theorem set1_in (n : Nat) (hn : 1 ≤ n) (l Bn n₀ : Nat) (A : Option Addr) (zs : List Int) (c : Nat) (hz16 : zs.length ≤ 16) (hz : ∀ x ∈ zs, 0 ≤ x ∧ x ≤ 255) (J Jx : List Int → World → Prop) (W : World) (hJ : AbidesFrom W.heap.size J)
    (hY : ∀ pre x W1, J pre W1 → pre.length < 8 * zs.length → YieldAt Fence.wide (n - 1) Try.prog l #[.int .i64 x] W1 fun e W' =>
      (e = .returned (.bool true) ∧ J (pre ++ [x]) W' ∧ Kps n₀ Bn W1 W') ∨ (e = .returned (.bool false) ∧ Jx (pre ++ [x]) W'))
    (hn₀ : n₀ ≤ W.heap.size) (hBn : W.cell? ⟨Bn, 0, none⟩ = some (.slice A zs.length c))
    (hc : 0 < zs.length → ∃ b off, A = some ⟨b, off, none⟩ ∧ b < n₀ ∧ ∀ j, j < zs.length → W.cell? ⟨b, off + j, none⟩ = some (.int .u8 (zs.getD j 0))) (h0 : J [] W) :
    CallsIn Fence.wide n Try.prog 24 #[.func (.yield l) #[] #[], .pointer (some ⟨Bn, 0, none⟩)] W fun e W' => (∃ v, e = .returned v) ∧
      ((∃ ys, ys = bitsTo zs (8 * zs.length) ∧ J ys W') ∨ (∃ pre, (∃ k, k ≤ 8 * zs.length ∧ pre = bitsTo zs k) ∧ Jx pre W')) := by
  have HC := Lib.hid hc
  have HY := Lib.hid hY
  have HZ := Lib.hid hz
  have HJ := Lib.hid hJ
  clear hc hY hz hJ
  refine callsIn_of_wp Try.func24 rfl trivial ?_ rfl
  simp only [Try.ntmps24, List.size_toArray, List.length_cons, List.length_nil, Nat.reduceAdd, Nat.reduceSub, Array.replicate_succ, Array.replicate_zero, List.push_toArray, List.append_toArray, List.nil_append, List.cons_append]
  gi_wp2
  gi_loopw [3] (fun i wr => ∃ k : Nat, k ≤ 8 * zs.length ∧ i = .int .i64 ((k : Int) + 1) ∧ J (bitsTo zs k) wr ∧ Below n₀ W wr ∧ wr.cell? ⟨Bn, 0, none⟩ = some (.slice A zs.length c) ∧ W.heap.size ≤ wr.heap.size) (fun i _ => 8 * zs.length + 1 - (intOf i).toNat)
  case atStart => exact ⟨0, Nat.zero_le _, rfl, h0, Below.refl _ _, hBn, Nat.le_refl _⟩
  case round =>
    clear hBn h0
    obtain ⟨k, hk, rfl, hJs, hbl, hBr, hsz⟩ := hrel
    have HJs := Lib.hid hJs
    have Hbl := Lib.hid hbl
    clear hJs hbl
    by_cases hlt : k < 8 * zs.length
    · have d0 : decide ((k : Int) + 1 ≤ 8 * zs.length) = true := decide_eq_true (by omega)
      obtain ⟨b, off, rfl, hb, hcell⟩ := HC.out (by omega)
      have hj : k / 8 < zs.length := by omega
      have hck : wr.cell? ⟨b, off + k / 8, none⟩ = some (.int .u8 (zs.getD (k / 8) 0)) := (Hbl.out.cell (p := ⟨b, off + k / 8, none⟩) hb).trans (hcell _ hj)
      have hbd := HZ.out _ (getD_mem hj)
      have hk8 : 7 - k % 8 < 8 := by omega
      have hT : (bits .and .u8 (zs.getD (k / 8) 0) ((2 ^ (7 - k % 8) : Nat) : Int) != 0) = testB zs (k + 1) := and_test hbd.1 hbd.2 hk8
      obtain ⟨p1, p2⟩ := place_nat (n := k + 1) (by omega) (by omega)
      have HP : Hid (∀ W, Calls Try.prog 12 #[.int .i64 ((k : Int) + 1)] W fun e w' => e = .returned (.tuple #[.int .i64 ((k / 8 : Nat) : Int), .int .u8 ((2 ^ (7 - k % 8) : Nat) : Int)]) ∧ Below W.heap.size W w') := Lib.hid fun W => by
        have h := place_any ((k : Int) + 1) W
        rw [show (k : Int) + 1 = ((k + 1 : Nat) : Int) from rfl] at h ⊢
        rwa [p1, p2] at h
      clear p1 p2 hbd hk8 hcell
      have hjl : ((k / 8 : Nat) : Int) < zs.length := by omega
      have HBR := Lib.hid hBr
      have HCK := Lib.hid hck
      generalize 2 ^ (7 - k % 8) = q at *
      generalize zs.getD (k / 8) 0 = x at *
      have hbw : b < wr.heap.size := by omega
      generalize k / 8 = j at *
      cases ht : testB zs (k + 1)
      · rw [ht] at hT
        have HS := Lib.hid (bitsTo_no ht)
        clear ht
        gi_wp2_with (first | (refine ⟨trivial, ?_⟩; gi_at_call 12; refine (callsIn_wide.2 (HP.out _)).mono ?_; rintro e w1 ⟨rfl, hb1⟩; have hB1 := (hb1.mono (show n₀ ≤ wr.heap.size by omega)); have hcell1 : w1.cell? ⟨b, off + j, none⟩ = some (.int .u8 x) := (hb1.cell (p := ⟨b, off + j, none⟩) hbw).trans HCK.out; have hbn1 : w1.cell? ⟨Bn, 0, none⟩ = some (.slice (some ⟨b, off, none⟩) zs.length c) := (hb1.cell (p := ⟨Bn, 0, none⟩) (World.block_lt_of_cell? wr _ HBR.out)).trans HBR.out; have HB1 := Lib.hid hb1; clear hb1) | fail)
        refine ⟨fun _ h => (by cases h), ?_⟩
        gi_wp2
        go_roundw
        case rel => exact ⟨k + 1, by omega, by go_num, by rw [HS.out]; exact HJ.out _ _ _ none HJs.out (grown_of_below HB1.out) (fun r h => by cases h), Hbl.out.trans hB1, hbn1, by have := HB1.out.size; omega⟩
        case measure => simp [intOf]; omega
      · rw [ht] at hT
        have HS := Lib.hid (bitsTo_yes ht)
        have HL : Hid ((bitsTo zs k).length < 8 * zs.length) := Lib.hid (by have := bitsTo_len zs k; omega)
        clear ht
        gi_wp2_with (first | (refine ⟨trivial, ?_⟩; gi_at_call 12; refine (callsIn_wide.2 (HP.out _)).mono ?_; rintro e w1 ⟨rfl, hb1⟩; have hB1 := (hb1.mono (show n₀ ≤ wr.heap.size by omega)); have hcell1 : w1.cell? ⟨b, off + j, none⟩ = some (.int .u8 x) := (hb1.cell (p := ⟨b, off + j, none⟩) hbw).trans HCK.out; have hbn1 : w1.cell? ⟨Bn, 0, none⟩ = some (.slice (some ⟨b, off, none⟩) zs.length c) := (hb1.cell (p := ⟨Bn, 0, none⟩) (World.block_lt_of_cell? wr _ HBR.out)).trans HBR.out; have HB1 := Lib.hid hb1; clear hb1; obtain ⟨fn, tmps, assign, body, hy, hR⟩ := HY.out _ ((k : Int) + 1) w1 (HJ.out _ _ _ none HJs.out (grown_of_below HB1.out) (fun r h => by cases h)) HL.out) | fail)
        refine hR.mono ?_
        rintro e W3 (⟨rfl, hJ3, hk3, hk4⟩ | ⟨rfl, hJx3⟩)
        · gi_wp2
          go_roundw
          case rel => exact ⟨k + 1, by omega, by go_num, by rw [HS.out]; exact hJ3, (Hbl.out.trans hB1).trans hk3, hk4.trans hbn1, by have := HB1.out.size; have := hk3.size; omega⟩
          case measure => simp [intOf]; omega
        · gi_wp2
          refine bodyPost_ret (results_none rfl _ _ _) rfl ?_
          exact ⟨⟨_, rfl⟩, .inr ⟨_, ⟨k + 1, by omega, HS.out.symm⟩, hJx3⟩⟩
    · have d0 : decide ((k : Int) + 1 ≤ 8 * zs.length) = false := decide_eq_false (by omega)
      have HE : Hid (k = 8 * zs.length) := Lib.hid (by omega)
      gi_wp2
      go_end0
      exact ⟨⟨_, rfl⟩, .inl ⟨_, rfl, by rw [← HE.out]; exact HJs.out⟩⟩
end Go.Proofs.Ytalmgpcffbccoaa
