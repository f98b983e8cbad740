/- win.Mark on a right window; the law's examples. -/
import Derived.Test.YtkmmfobnpapceaaH
import Derived.Test.YtkmmfobnpapceaaJ
namespace Go.Proofs.Ytkmmfobnpapceaa
open Go.RowKit

/-- A window's bits behind a number that was taken. -/
def markG (t : Int) (f : Nat → Bool) (n : Int) : Nat → Bool :=
  if n < t then upd f (n.toNat % 1024) true else if t + 1024 ≤ n then upd noBits (n.toNat % 1024) true else upd (clrR f t.toNat (n - t).toNat) (n.toNat % 1024) true

theorem mark_ok (t : Int) (f : Nat → Bool) (n : Int) (w : World) (h0 : 0 ≤ t) (h1 : t ≤ 4611686018427387905) (hfr : freshB t f n = true) :
    Calls Try.prog 15 #[.agg (winA t f), .int .i64 n] w fun e w' => e = .returned (.tuple #[.agg (winA (max t (n + 1)) (markG t f n)), .int .i64 0]) ∧ Below w.heap.size w w' := by
  have hn : ¬ (n < 0 ∨ 4611686018427387904 < n) := fun h => by rw [freshB_out h] at hfr; cases hfr
  unfold markG
  by_cases a : n < t
  · rw [if_pos a, show max t (n + 1) = t by omega]
    exact mark_back t f n w h0 h1 (by omega) (by omega) a hfr
  · rw [if_neg a, show max t (n + 1) = n + 1 by omega]
    by_cases b : t + 1024 ≤ n
    · rw [if_pos b]
      exact mark_far t f n w h0 b (by omega)
    · rw [if_neg b]
      have h := mark_next t f (n - t).toNat w h0 (by omega) (by omega)
      rw [show t + ((n - t).toNat : Int) = n by omega] at h
      exact h

/-- A number that is refused. -/
theorem mark_no (t : Int) (f : Nat → Bool) (n : Int) (w : World) (h0 : 0 ≤ t) (h1 : t ≤ 4611686018427387905) (hfr : freshB t f n = false) :
    Calls Try.prog 15 #[.agg (winA t f), .int .i64 n] w fun e w' => e = .returned (.tuple #[.agg (winA t f), .int .i64 (if n < 0 ∨ 4611686018427387904 < n then 1 else 6)]) ∧ Below w.heap.size w w' := by
  by_cases a : n < 0 ∨ 4611686018427387904 < n
  · rw [if_pos a]; exact mark_out t f n w a
  · rw [if_neg a]; exact mark_old t f n w h0 h1 (by omega) (by omega) hfr

def f1 : Nat → Bool := markG 0 noBits 5
def f2 : Nat → Bool := markG 6 f1 3
def f3 : Nat → Bool := markG 6 f2 2000
theorem f3_right : RightP 2001 f3 := by
  refine ⟨by omega, by omega, fun p hp ht => by omega, .inr ?_⟩
  decide

attribute [local go_sem] winA_lit

set_option maxRecDepth 100000 in
set_option maxHeartbeats 4000000 in
theorem shown_ok (w : World) : Calls Try.prog 10 #[] w fun e w' => e = .returned (.bool true) ∧ Below w.heap.size w w' := by
  have hm1 : ∀ w : World, Calls Try.prog 15 #[.agg (winA 0 noBits), .int .i64 5] w fun e w' => e = .returned (.tuple #[.agg (winA 6 f1), .int .i64 0]) ∧ Below w.heap.size w w' := fun w => mark_ok 0 noBits 5 w (by omega) (by omega) (by decide)
  have hm2 : ∀ w : World, Calls Try.prog 15 #[.agg (winA 6 f1), .int .i64 3] w fun e w' => e = .returned (.tuple #[.agg (winA 6 f2), .int .i64 0]) ∧ Below w.heap.size w w' := fun w => mark_ok 6 f1 3 w (by omega) (by omega) (by decide)
  have hm3 : ∀ w : World, Calls Try.prog 15 #[.agg (winA 6 f2), .int .i64 3] w fun e w' => e = .returned (.tuple #[.agg (winA 6 f2), .int .i64 6]) ∧ Below w.heap.size w w' := fun w => mark_no 6 f2 3 w (by omega) (by omega) (by decide)
  have hm4 : ∀ w : World, Calls Try.prog 15 #[.agg (winA 6 f2), .int .i64 2000] w fun e w' => e = .returned (.tuple #[.agg (winA 2001 f3), .int .i64 0]) ∧ Below w.heap.size w w' := fun w => mark_ok 6 f2 2000 w (by omega) (by omega) (by decide)
  have hf4 : ∀ w : World, Calls Try.prog 13 #[.agg (winA 6 f2), .int .i64 4] w fun e w' => e = .returned (.bool true) ∧ Below w.heap.size w w' := fun w => (show freshB 6 f2 4 = true from by decide) ▸ wFresh_any 6 f2 4 w (by omega) (by omega)
  have hf3 : ∀ w : World, Calls Try.prog 13 #[.agg (winA 6 f2), .int .i64 3] w fun e w' => e = .returned (.bool false) ∧ Below w.heap.size w w' := fun w => (show freshB 6 f2 3 = false from by decide) ▸ wFresh_any 6 f2 3 w (by omega) (by omega)
  have hf5 : ∀ w : World, Calls Try.prog 13 #[.agg (winA 6 f2), .int .i64 5] w fun e w' => e = .returned (.bool false) ∧ Below w.heap.size w w' := fun w => (show freshB 6 f2 5 = false from by decide) ▸ wFresh_any 6 f2 5 w (by omega) (by omega)
  have hf7 : ∀ w : World, Calls Try.prog 13 #[.agg (winA 2001 f3), .int .i64 977] w fun e w' => e = .returned (.bool true) ∧ Below w.heap.size w w' := fun w => (show freshB 2001 f3 977 = true from by decide) ▸ wFresh_any 2001 f3 977 w (by omega) (by omega)
  have hf6 : ∀ w : World, Calls Try.prog 13 #[.agg (winA 2001 f3), .int .i64 976] w fun e w' => e = .returned (.bool false) ∧ Below w.heap.size w w' := fun w => (show freshB 2001 f3 976 = false from by decide) ▸ wFresh_any 2001 f3 976 w (by omega) (by omega)
  have hr3 : ∀ w : World, Calls Try.prog 12 #[.agg (winA 2001 f3)] w fun e w' => e = .returned (.bool true) ∧ Below w.heap.size w w' := fun w => wRight_t 2001 f3 w f3_right
  have hr1 : ∀ w : World, Calls Try.prog 12 #[.agg (winA 1 noBits)] w fun e w' => e = .returned (.bool false) ∧ Below w.heap.size w w' := fun w => wRight_f 1 noBits w (by
    rintro ⟨_, _, _, h | h⟩
    · omega
    · simp [noBits] at h)
  have ht3 := winA_top 2001 f3
  have M1 := Lib.hid hm1; have M2 := Lib.hid hm2; have M3 := Lib.hid hm3; have M4 := Lib.hid hm4; have F4 := Lib.hid hf4; have F3 := Lib.hid hf3; have F5 := Lib.hid hf5; have F7 := Lib.hid hf7; have F6 := Lib.hid hf6; have R3 := Lib.hid hr3; have R1 := Lib.hid hr1; have HT := Lib.hid ht3
  clear hm1 hm2 hm3 hm4 hf4 hf3 hf5 hf7 hf6 hr3 hr1 ht3
  go_enter Try.func10, Try.ntmps10
  go_wp2_with fail
  refine (M1.out _).mono ?_
  rintro e w1 ⟨rfl, hb1⟩
  have HB1 := Lib.hid hb1; clear hb1
  go_wp2_with (first | (refine store_blk' (ty := 25) rfl rfl rfl rfl (info25' 6 f1) (winA_one _ _) (old := winA 0 noBits) (by rw [winA_size, winA_size]) (Blk.new w1 25 (winA 0 noBits)) ?_; intro w2 hW2 hG2 hz2; have HB2 := Lib.hid ((HB1.out.alloc HB1.out.size _).grown hG2 (by have := HB1.out.size; simp; omega) (by have := HB1.out.size; simp; omega)); clear hG2 hz2) | (refine load_blk (ty := 25) rfl rfl rfl Try.underlying25 rfl (info25' 6 f1) hW2 ?_) | fail)
  refine (M2.out _).mono ?_
  rintro e w3 ⟨rfl, hb3⟩
  have hW3 := hW2.belowSelf hb3
  have HB3 := Lib.hid (HB2.out.trans (hb3.mono HB2.out.size)); clear hb3 HB2 hW2
  have hg1 := HB1.out.size
  generalize w1.heap.size = g1 at *
  go_wp2_with (first | (refine store_blk' (ty := 25) rfl rfl rfl rfl (info25' 6 f2) (winA_one _ _) (old := winA 6 f1) (by rw [winA_size, winA_size]) hW3 ?_; intro w4 hW4 hG4 hz4; have HB4 := Lib.hid (HB3.out.grown hG4 HB3.out.size (by simp; omega)); clear hG4 hz4) | (refine load_blk (ty := 25) rfl rfl rfl Try.underlying25 rfl (info25' 6 f2) hW4 ?_) | fail)
  refine (M3.out _).mono ?_
  rintro e w5 ⟨rfl, hb5⟩
  have hW5 := hW4.belowSelf hb5
  have HB5 := Lib.hid (HB4.out.trans (hb5.mono HB4.out.size)); clear hb5 HB4 hW4
  have hz5 := HB5.out.size
  go_wp2_with (first | (refine store_blk' (ty := 25) rfl rfl rfl rfl (info25' 6 f2) (winA_one _ _) (old := winA 0 noBits) (by rw [winA_size, winA_size]) (Blk.new w5 25 (winA 0 noBits)) ?_; intro w6 hW6 hG6 hz6; have HB6 := Lib.hid ((HB5.out.alloc HB5.out.size _).grown hG6 (by simp; omega) (by simp; omega)); have hV6 := (hW5.alloc (.cells (winA 0 noBits) 25)).grown hG6 (by have := hW5.lt; simp; omega); clear hG6 hz6 hW6) | (refine load_blk (ty := 25) rfl rfl rfl Try.underlying25 rfl (info25' 6 f2) hV6 ?_) | fail)
  refine (M4.out _).mono ?_
  rintro e w7 ⟨rfl, hb7⟩
  have hV7 := hV6.belowSelf hb7
  have HB7 := Lib.hid (HB6.out.trans (hb7.mono HB6.out.size)); clear hb7 HB6 hV6
  have hz7 := HB7.out.size
  go_wp2_with (first | (refine store_blk' (ty := 25) rfl rfl rfl rfl (info25' 2001 f3) (winA_one _ _) (old := winA 0 noBits) (by rw [winA_size, winA_size]) (Blk.new w7 25 (winA 0 noBits)) ?_; intro w8 hX8 hG8 hz8; have HB8 := Lib.hid ((HB7.out.alloc HB7.out.size _).grown hG8 (by simp; omega) (by simp; omega)); have hV8 := (hV7.alloc (.cells (winA 0 noBits) 25)).grown hG8 (by have := hV7.lt; simp; omega); clear hG8 hz8) | (refine load_blk_g (ty := 25) rfl rfl rfl Try.underlying25 rfl (info25' 6 f2) hV8 ?_) | fail)
  refine (F4.out _).mono ?_
  rintro e w9 ⟨rfl, hb9⟩
  have hV9 := hV8.belowSelf hb9
  have hX9 := hX8.belowSelf hb9
  have HB9 := Lib.hid (HB8.out.trans (hb9.mono HB8.out.size)); clear hb9 HB8 hV8 hX8
  generalize w7.heap.size = g7 at *
  go_wp2_with (first | (refine load_blk_g (ty := 25) rfl rfl rfl Try.underlying25 rfl (info25' 6 f2) hV9 ?_) | fail)
  refine (F3.out _).mono ?_
  rintro e wA ⟨rfl, hbA⟩
  have hVA := hV9.belowSelf hbA
  have hXA := hX9.belowSelf hbA
  have HBA := Lib.hid (HB9.out.trans (hbA.mono HB9.out.size)); clear hbA HB9 hV9 hX9
  go_wp2_with (first | (refine load_blk_g (ty := 25) rfl rfl rfl Try.underlying25 rfl (info25' 6 f2) hVA ?_) | fail)
  refine (F5.out _).mono ?_
  rintro e wB ⟨rfl, hbB⟩
  have hXB := hXA.belowSelf hbB
  have HBB := Lib.hid (HBA.out.trans (hbB.mono HBA.out.size)); clear hbB HBA hVA hXA
  have hcB := (hXB.cell 0).trans HT.out
  go_wp2_with (first | (refine load_blk_g (ty := 25) rfl rfl rfl Try.underlying25 rfl (info25' 2001 f3) hXB ?_) | fail)
  refine (F7.out _).mono ?_
  rintro e wC ⟨rfl, hbC⟩
  have hXC := hXB.belowSelf hbC
  have HBC := Lib.hid (HBB.out.trans (hbC.mono HBB.out.size)); clear hbC HBB hXB
  go_wp2_with (first | (refine load_blk_g (ty := 25) rfl rfl rfl Try.underlying25 rfl (info25' 2001 f3) hXC ?_) | fail)
  refine (F6.out _).mono ?_
  rintro e wD ⟨rfl, hbD⟩
  have hXD := hXC.belowSelf hbD
  have HBD := Lib.hid (HBC.out.trans (hbD.mono HBC.out.size)); clear hbD HBC hXC
  go_wp2_with (first | (refine load_blk_g (ty := 25) rfl rfl rfl Try.underlying25 rfl (info25' 2001 f3) hXD ?_) | fail)
  refine (R3.out _).mono ?_
  rintro e wE ⟨rfl, hbE⟩
  have HBE := Lib.hid (HBD.out.trans (hbE.mono HBD.out.size)); clear hbE HBD hXD
  go_wp2_with fail
  refine (R1.out _).mono ?_
  rintro e wF ⟨rfl, hbF⟩
  have HBF := Lib.hid (HBE.out.trans (hbF.mono HBE.out.size)); clear hbF HBE
  go_wp2_with fail
  go_ret
  exact ⟨rfl, HBF.out⟩
end Go.Proofs.Ytkmmfobnpapceaa
