/- WinOrder: of two numbers that are near to one another, and ahead of all that were taken, it is the same in which order they are taken: for every window and numbers. No condition. -/
import Derived.Test.YtkmmfobnpapceaaL
import Derived.Test.YtkmmfobnpapceaaP
namespace Go.Proofs.Ytkmmfobnpapceaa
open Go.ChangeShapes Go.WideShapes Go.ChangeAt Go.RowKit
namespace winOrder
attribute [local go_sem] winA_lit

theorem both (t : Int) (f : Nat → Bool) (a b : Int) (hR : RightP t f) (ha : t ≤ a) (hb : a + 1 ≤ b) (hab : b ≤ a + 1023) (hl : b ≤ 4611686018427387904) :
    ∃ G1 G2 H1 H2 : Nat → Bool, (∀ W : World, Calls Try.prog 15 #[.agg (winA t f), .int .i64 a] W fun e w' => e = .returned (.tuple #[.agg (winA (a + 1) G1), .int .i64 0]) ∧ Below W.heap.size W w') ∧
      (∀ W : World, Calls Try.prog 15 #[.agg (winA (a + 1) G1), .int .i64 b] W fun e w' => e = .returned (.tuple #[.agg (winA (b + 1) G2), .int .i64 0]) ∧ Below W.heap.size W w') ∧
      (∀ W : World, Calls Try.prog 15 #[.agg (winA t f), .int .i64 b] W fun e w' => e = .returned (.tuple #[.agg (winA (b + 1) H1), .int .i64 0]) ∧ Below W.heap.size W w') ∧
      (∀ W : World, Calls Try.prog 15 #[.agg (winA (b + 1) H1), .int .i64 a] W fun e w' => e = .returned (.tuple #[.agg (winA (b + 1) H2), .int .i64 0]) ∧ Below W.heap.size W w') ∧
      (∀ W : World, Calls Try.prog 15 #[.agg (winA (b + 1) H2), .int .i64 b] W fun e w' => e = .returned (.tuple #[.agg (winA (b + 1) H2), .int .i64 6]) ∧ Below W.heap.size W w') ∧
      weq (b + 1) G2 (b + 1) H2 = true := by
  have h0 := hR.1
  have fa : freshB t f a = true := freshB_high (by omega) (by omega) (by omega)
  have fb : freshB t f b = true := freshB_high (by omega) (by omega) (by omega)
  have m1 := fun W => mark_ok t f a W h0 hR.2.1 fa
  have r1 := right_mark t f a hR fa
  have q1 := fun o => fresh_mark t f a o h0 fa
  have m3 := fun W => mark_ok t f b W h0 hR.2.1 fb
  have r3 := right_mark t f b hR fb
  have q3 := fun o => fresh_mark t f b o h0 fb
  rw [show max t (a + 1) = a + 1 by omega] at m1 r1 q1
  rw [show max t (b + 1) = b + 1 by omega] at m3 r3 q3
  generalize markG t f a = G1 at *
  generalize markG t f b = H1 at *
  have fb1 : freshB (a + 1) G1 b = true := freshB_high (by omega) (by omega) (by omega)
  have m2 := fun W => mark_ok (a + 1) G1 b W r1.1 r1.2.1 fb1
  have r2 := right_mark (a + 1) G1 b r1 fb1
  have q2 := fun o => fresh_mark (a + 1) G1 b o r1.1 fb1
  rw [show max (a + 1) (b + 1) = b + 1 by omega] at m2 r2 q2
  generalize markG (a + 1) G1 b = G2 at *
  have fa3 : freshB (b + 1) H1 a = true := by
    rw [q3, fa, show decide (a ≠ b) = true by simp; omega, show decide (b - 1024 < a) = true by simp; omega]; rfl
  have m4 := fun W => mark_ok (b + 1) H1 a W r3.1 r3.2.1 fa3
  have r4 := right_mark (b + 1) H1 a r3 fa3
  have q4 := fun o => fresh_mark (b + 1) H1 a o r3.1 fa3
  rw [show max (b + 1) (a + 1) = b + 1 by omega] at m4 r4 q4
  generalize markG (b + 1) H1 a = H2 at *
  have fb4 : freshB (b + 1) H2 b = false := by rw [q4, q3]; simp
  have m5 := fun W => mark_no (b + 1) H2 b W r4.1 r4.2.1 fb4
  rw [if_neg (by omega)] at m5
  refine ⟨G1, G2, H1, H2, m1, m2, m3, m4, m5, (weq_iff _ _ _ _).2 ⟨rfl, fun p hp => fresh_ext (b + 1) G2 H2 r2 r4 (fun o => ?_) p hp⟩⟩
  rw [q2, q1, q4, q3]
  cases freshB t f o <;> cases decide (o ≠ a) <;> cases decide (o ≠ b) <;> cases decide (a - 1024 < o) <;> cases decide (b - 1024 < o) <;> rfl

set_option maxRecDepth 100000 in
set_option maxHeartbeats 8000000 in
theorem walk_ok (t : Int) (f : Nat → Bool) (x : Int) (hx : 0 ≤ x ∧ x ≤ 65535) (y : Int) (hy : 0 ≤ y ∧ y ≤ 65535) (w : World) (hR : RightP t f) (ht : t ≤ 1000000000000) :
    Calls Try.prog 7 #[.agg (winA t f), .int .u16 x, .int .u16 y] w fun e w' => e = .returned (.bool true) ∧ Below w.heap.size w w' := by
  have hR0 := hR.1
  obtain ⟨G1, G2, H1, H2, m1, m2, m3, m4, m5, hq⟩ := both t f (t + x) (t + x + 1 + y % 1023) hR (by omega) (by omega) (by omega) (by omega)
  have M1 := Lib.hid m1; have M2 := Lib.hid m2; have M3 := Lib.hid m3; have M4 := Lib.hid m4; have M5 := Lib.hid m5; have HQ := Lib.hid hq; have HR := Lib.hid hR
  clear m1 m2 m3 m4 m5 hq hR
  have d0 : decide (1000000000000 < t) = false := by simp; omega
  have bw_0 := Blk.new w 25 (winA (t) (f))
  have HB0 := Lib.hid ((Below.refl w.heap.size w).alloc (Nat.le_refl _) (Obj.cells (winA (t) (f)) 25))
  have cw_0 := (bw_0.cell 0).trans (winA_top (t) (f))
  go_enter Try.func7, Try.ntmps7
  go_wp2_with fail
  refine (shown_ok _).mono ?_
  rintro e w1 ⟨rfl, hb1⟩
  have bw_1 := bw_0.belowSelf hb1
  have HB1 := Lib.hid (HB0.out.trans (hb1.mono (by simp)))
  clear hb1 HB0 bw_0
  have cw_1 := (bw_1.cell 0).trans (winA_top (t) (f))
  go_wp2_with (first | (refine load_blk (ty := 25) rfl rfl rfl Try.underlying25 rfl (info25' (t) (f)) bw_1 ?_) | (refine load_blk_g (ty := 25) rfl rfl rfl Try.underlying25 rfl (info25' (t) (f)) bw_1 ?_) | fail)
  refine (rRight_t t f _ HR.out).mono ?_
  rintro e w2 ⟨rfl, hb2⟩
  have bw_2 := bw_1.belowSelf hb2
  have HB2 := Lib.hid (HB1.out.trans (hb2.mono (HB1.out.size)))
  clear hb2 HB1 bw_1
  have cw_2 := (bw_2.cell 0).trans (winA_top (t) (f))
  go_wp2_with (first | (refine load_blk (ty := 25) rfl rfl rfl Try.underlying25 rfl (info25' (t) (f)) bw_2 ?_) | (refine load_blk_g (ty := 25) rfl rfl rfl Try.underlying25 rfl (info25' (t) (f)) bw_2 ?_) | fail)
  refine (M1.out _).mono ?_
  rintro e w3 ⟨rfl, hb3⟩
  have bw_3 := bw_2.belowSelf hb3
  have HB3 := Lib.hid (HB2.out.trans (hb3.mono (HB2.out.size)))
  clear hb3 HB2 bw_2
  have lwx := bw_3.lt
  go_wp2_with (first | (refine store_blk' (ty := 25) rfl rfl rfl rfl (info25' (t + x + 1) (G1)) (winA_one _ _) (old := winA 0 noBits) (by simp only [winA_size]) (Blk.new w3 25 (winA 0 noBits)) ?_; intro w4 bx_4 hG4 hz4; have HB4 := Lib.hid ((HB3.out.alloc HB3.out.size _).grown hG4 (by have := HB3.out.size; simp; omega) (by have := HB3.out.size; simp; omega)); have bw_4 := (bw_3.alloc (.cells (winA 0 noBits) 25)).grown hG4 (by simp; omega); clear hG4 hz4) | (refine load_blk (ty := 25) rfl rfl rfl Try.underlying25 rfl (info25' (t) (f)) bw_4 ?_) | (refine load_blk_g (ty := 25) rfl rfl rfl Try.underlying25 rfl (info25' (t) (f)) bw_4 ?_) | (refine load_blk (ty := 25) rfl rfl rfl Try.underlying25 rfl (info25' (t + x + 1) (G1)) bx_4 ?_) | (refine load_blk_g (ty := 25) rfl rfl rfl Try.underlying25 rfl (info25' (t + x + 1) (G1)) bx_4 ?_) | fail)
  refine (M2.out _).mono ?_
  rintro e w5 ⟨rfl, hb5⟩
  have bw_5 := bw_4.belowSelf hb5
  have bx_5 := bx_4.belowSelf hb5
  have HB5 := Lib.hid (HB4.out.trans (hb5.mono (HB4.out.size)))
  clear hb5 HB4 bw_4 bx_4
  go_wp2_with (first | (refine store_blk' (ty := 25) rfl rfl rfl rfl (info25' (t + x + 1 + y % 1023 + 1) (G2)) (winA_one _ _) (old := winA (t + x + 1) (G1)) (by simp only [winA_size]) bx_5 ?_; intro w6 bx_6 hG6 hz6; have HB6 := Lib.hid (HB5.out.grown hG6 HB5.out.size (by simp; omega)); have bw_6 := bw_5.grown hG6 (by simp; omega); clear hG6 hz6) | (refine load_blk (ty := 25) rfl rfl rfl Try.underlying25 rfl (info25' (t) (f)) bw_6 ?_) | (refine load_blk_g (ty := 25) rfl rfl rfl Try.underlying25 rfl (info25' (t) (f)) bw_6 ?_) | (refine load_blk (ty := 25) rfl rfl rfl Try.underlying25 rfl (info25' (t + x + 1 + y % 1023 + 1) (G2)) bx_6 ?_) | (refine load_blk_g (ty := 25) rfl rfl rfl Try.underlying25 rfl (info25' (t + x + 1 + y % 1023 + 1) (G2)) bx_6 ?_) | fail)
  refine (M3.out _).mono ?_
  rintro e w7 ⟨rfl, hb7⟩
  have bw_7 := bw_6.belowSelf hb7
  have bx_7 := bx_6.belowSelf hb7
  have HB7 := Lib.hid (HB6.out.trans (hb7.mono (HB6.out.size)))
  clear hb7 HB6 bw_6 bx_6
  have lwy := bw_7.lt
  have lxy := bx_7.lt
  go_wp2_with (first | (refine store_blk' (ty := 25) rfl rfl rfl rfl (info25' (t + x + 1 + y % 1023 + 1) (H1)) (winA_one _ _) (old := winA 0 noBits) (by simp only [winA_size]) (Blk.new w7 25 (winA 0 noBits)) ?_; intro w8 by_8 hG8 hz8; have HB8 := Lib.hid ((HB7.out.alloc HB7.out.size _).grown hG8 (by have := HB7.out.size; simp; omega) (by have := HB7.out.size; simp; omega)); have bw_8 := (bw_7.alloc (.cells (winA 0 noBits) 25)).grown hG8 (by simp; omega); have bx_8 := (bx_7.alloc (.cells (winA 0 noBits) 25)).grown hG8 (by simp; omega); clear hG8 hz8) | (refine load_blk (ty := 25) rfl rfl rfl Try.underlying25 rfl (info25' (t) (f)) bw_8 ?_) | (refine load_blk_g (ty := 25) rfl rfl rfl Try.underlying25 rfl (info25' (t) (f)) bw_8 ?_) | (refine load_blk (ty := 25) rfl rfl rfl Try.underlying25 rfl (info25' (t + x + 1 + y % 1023 + 1) (G2)) bx_8 ?_) | (refine load_blk_g (ty := 25) rfl rfl rfl Try.underlying25 rfl (info25' (t + x + 1 + y % 1023 + 1) (G2)) bx_8 ?_) | (refine load_blk (ty := 25) rfl rfl rfl Try.underlying25 rfl (info25' (t + x + 1 + y % 1023 + 1) (H1)) by_8 ?_) | (refine load_blk_g (ty := 25) rfl rfl rfl Try.underlying25 rfl (info25' (t + x + 1 + y % 1023 + 1) (H1)) by_8 ?_) | fail)
  refine (M4.out _).mono ?_
  rintro e w9 ⟨rfl, hb9⟩
  have bw_9 := bw_8.belowSelf hb9
  have bx_9 := bx_8.belowSelf hb9
  have by_9 := by_8.belowSelf hb9
  have HB9 := Lib.hid (HB8.out.trans (hb9.mono (HB8.out.size)))
  clear hb9 HB8 bw_8 bx_8 by_8
  go_wp2_with (first | (refine store_blk' (ty := 25) rfl rfl rfl rfl (info25' (t + x + 1 + y % 1023 + 1) (H2)) (winA_one _ _) (old := winA (t + x + 1 + y % 1023 + 1) (H1)) (by simp only [winA_size]) by_9 ?_; intro w10 by_10 hG10 hz10; have HB10 := Lib.hid (HB9.out.grown hG10 HB9.out.size (by simp; omega)); have bw_10 := bw_9.grown hG10 (by simp; omega); have bx_10 := bx_9.grown hG10 (by simp; omega); clear hG10 hz10) | (refine load_blk (ty := 25) rfl rfl rfl Try.underlying25 rfl (info25' (t) (f)) bw_10 ?_) | (refine load_blk_g (ty := 25) rfl rfl rfl Try.underlying25 rfl (info25' (t) (f)) bw_10 ?_) | (refine load_blk (ty := 25) rfl rfl rfl Try.underlying25 rfl (info25' (t + x + 1 + y % 1023 + 1) (G2)) bx_10 ?_) | (refine load_blk_g (ty := 25) rfl rfl rfl Try.underlying25 rfl (info25' (t + x + 1 + y % 1023 + 1) (G2)) bx_10 ?_) | (refine load_blk (ty := 25) rfl rfl rfl Try.underlying25 rfl (info25' (t + x + 1 + y % 1023 + 1) (H2)) by_10 ?_) | (refine load_blk_g (ty := 25) rfl rfl rfl Try.underlying25 rfl (info25' (t + x + 1 + y % 1023 + 1) (H2)) by_10 ?_) | fail)
  refine (M5.out _).mono ?_
  rintro e w11 ⟨rfl, hb11⟩
  have bw_11 := bw_10.belowSelf hb11
  have bx_11 := bx_10.belowSelf hb11
  have by_11 := by_10.belowSelf hb11
  have HB11 := Lib.hid (HB10.out.trans (hb11.mono (HB10.out.size)))
  clear hb11 HB10 bw_10 bx_10 by_10
  have lwz := bw_11.lt
  have lxz := bx_11.lt
  have lyz := by_11.lt
  go_wp2_with (first | (refine store_blk' (ty := 25) rfl rfl rfl rfl (info25' (t + x + 1 + y % 1023 + 1) (H2)) (winA_one _ _) (old := winA 0 noBits) (by simp only [winA_size]) (Blk.new w11 25 (winA 0 noBits)) ?_; intro w12 bz_12 hG12 hz12; have HB12 := Lib.hid ((HB11.out.alloc HB11.out.size _).grown hG12 (by have := HB11.out.size; simp; omega) (by have := HB11.out.size; simp; omega)); have bw_12 := (bw_11.alloc (.cells (winA 0 noBits) 25)).grown hG12 (by simp; omega); have bx_12 := (bx_11.alloc (.cells (winA 0 noBits) 25)).grown hG12 (by simp; omega); have by_12 := (by_11.alloc (.cells (winA 0 noBits) 25)).grown hG12 (by simp; omega); clear hG12 hz12) | (refine eql_win_g rfl rfl rfl rfl ?_; rw [HQ.out]) | (refine load_blk (ty := 25) rfl rfl rfl Try.underlying25 rfl (info25' (t) (f)) bw_12 ?_) | (refine load_blk_g (ty := 25) rfl rfl rfl Try.underlying25 rfl (info25' (t) (f)) bw_12 ?_) | (refine load_blk (ty := 25) rfl rfl rfl Try.underlying25 rfl (info25' (t + x + 1 + y % 1023 + 1) (G2)) bx_12 ?_) | (refine load_blk_g (ty := 25) rfl rfl rfl Try.underlying25 rfl (info25' (t + x + 1 + y % 1023 + 1) (G2)) bx_12 ?_) | (refine load_blk (ty := 25) rfl rfl rfl Try.underlying25 rfl (info25' (t + x + 1 + y % 1023 + 1) (H2)) by_12 ?_) | (refine load_blk_g (ty := 25) rfl rfl rfl Try.underlying25 rfl (info25' (t + x + 1 + y % 1023 + 1) (H2)) by_12 ?_) | (refine load_blk (ty := 25) rfl rfl rfl Try.underlying25 rfl (info25' (t + x + 1 + y % 1023 + 1) (H2)) bz_12 ?_) | (refine load_blk_g (ty := 25) rfl rfl rfl Try.underlying25 rfl (info25' (t + x + 1 + y % 1023 + 1) (H2)) bz_12 ?_) | fail)
  go_ret
  exact ⟨rfl, HB12.out⟩
set_option maxRecDepth 100000 in
set_option maxHeartbeats 8000000 in
theorem walk_no (t : Int) (f : Nat → Bool) (x y : Int) (w : World) (hR : ¬ RightP t f) :
    Calls Try.prog 7 #[.agg (winA t f), .int .u16 x, .int .u16 y] w fun e w' => e = .returned (.bool true) ∧ Below w.heap.size w w' := by
  have HR := Lib.hid hR
  clear hR
  have bw_0 := Blk.new w 25 (winA (t) (f))
  have HB0 := Lib.hid ((Below.refl w.heap.size w).alloc (Nat.le_refl _) (Obj.cells (winA (t) (f)) 25))
  go_enter Try.func7, Try.ntmps7
  go_wp2_with fail
  refine (shown_ok _).mono ?_
  rintro e w1 ⟨rfl, hb1⟩
  have bw_1 := bw_0.belowSelf hb1
  have HB1 := Lib.hid (HB0.out.trans (hb1.mono (by simp)))
  clear hb1 HB0 bw_0
  go_wp2_with (first | (refine load_blk (ty := 25) rfl rfl rfl Try.underlying25 rfl (info25' (t) (f)) bw_1 ?_) | (refine load_blk_g (ty := 25) rfl rfl rfl Try.underlying25 rfl (info25' (t) (f)) bw_1 ?_) | fail)
  refine (rRight_f t f _ HR.out).mono ?_
  rintro e w2 ⟨rfl, hb2⟩
  have bw_2 := bw_1.belowSelf hb2
  have HB2 := Lib.hid (HB1.out.trans (hb2.mono (HB1.out.size)))
  clear hb2 HB1 bw_1
  go_wp2_with fail
  go_ret
  exact ⟨rfl, HB2.out⟩
set_option maxRecDepth 100000 in
set_option maxHeartbeats 8000000 in
theorem walk_big (t : Int) (f : Nat → Bool) (x y : Int) (w : World) (hR : RightP t f) (ht : 1000000000000 < t) :
    Calls Try.prog 7 #[.agg (winA t f), .int .u16 x, .int .u16 y] w fun e w' => e = .returned (.bool true) ∧ Below w.heap.size w w' := by
  have HR := Lib.hid hR
  clear hR
  have d0 : decide (1000000000000 < t) = true := by simp; omega
  have bw_0 := Blk.new w 25 (winA (t) (f))
  have HB0 := Lib.hid ((Below.refl w.heap.size w).alloc (Nat.le_refl _) (Obj.cells (winA (t) (f)) 25))
  go_enter Try.func7, Try.ntmps7
  go_wp2_with fail
  refine (shown_ok _).mono ?_
  rintro e w1 ⟨rfl, hb1⟩
  have bw_1 := bw_0.belowSelf hb1
  have HB1 := Lib.hid (HB0.out.trans (hb1.mono (by simp)))
  clear hb1 HB0 bw_0
  go_wp2_with (first | (refine load_blk (ty := 25) rfl rfl rfl Try.underlying25 rfl (info25' (t) (f)) bw_1 ?_) | (refine load_blk_g (ty := 25) rfl rfl rfl Try.underlying25 rfl (info25' (t) (f)) bw_1 ?_) | fail)
  refine (rRight_t t f _ HR.out).mono ?_
  rintro e w2 ⟨rfl, hb2⟩
  have bw_2 := bw_1.belowSelf hb2
  have HB2 := Lib.hid (HB1.out.trans (hb2.mono (HB1.out.size)))
  clear hb2 HB1 bw_1
  have cw_2 := (bw_2.cell 0).trans (winA_top (t) (f))
  go_wp2_with fail
  go_ret
  exact ⟨rfl, HB2.out⟩

theorem walk (t : Int) (f : Nat → Bool) (_ : (Lit.int .i64 t).wf = true) (x : Int) (wx : (Lit.int .u16 x).wf = true) (y : Int) (wy : (Lit.int .u16 y).wf = true) (w : World) :
    Calls Try.prog 7 #[.agg (winA t f), .int .u16 x, .int .u16 y] w fun e w' => e = .returned (.bool true) ∧ Below w.heap.size w w' := by
  by_cases hR : RightP t f
  · by_cases ht : t ≤ 1000000000000
    · exact walk_ok t f x (bounds16 wx) y (bounds16 wy) w hR ht
    · exact walk_big t f x y w hR (by omega)
  · exact walk_no t f x y w hR

set_option maxRecDepth 100000 in
theorem lifted (os : Os) (started : os.Started) (H : Type) (enc : TypeId × Value → H) :
    ReturnsInHanded {} Try.checked os 7 .any (Rows.winOrderSpec.pre6 enc Try.prog Try.f7 Rows.winOrderRow.domain false) (Rows.winOrderSpec.post enc Try.prog Try.f7 false true false false) := by
  refine returnsInHanded_of_change (C := Try.checked) own started (by kernel_rfl) Try.func7
    (ChangeSpec.witness6 (enc := enc) (C := Try.checked) false ⟨#[], #[.agg #[.int .i64 0, .int .u64 0, .int .u64 0, .int .u64 0, .int .u64 0, .int .u64 0, .int .u64 0, .int .u64 0, .int .u64 0, .int .u64 0, .int .u64 0, .int .u64 0, .int .u64 0, .int .u64 0, .int .u64 0, .int .u64 0, .int .u64 0], .int .u16 0, .int .u16 0], []⟩ 8 (by kernel_rfl) (by kernel_rfl) (by kernel_rfl) (by kernel_rfl)) ?_
  intro W base args ds gs before hval0 hW _ _
  have hval : ∀ (j : Nat) t v, Try.f7.params[j]? = some t → args[j]? = some v → Value.okWide Try.prog W .any base t v := hval0
  have hW' := hW
  obtain ⟨p, q, hA0, hV, rfl, _, _⟩ := hW
  have hA : DataW.TrodAll enc Try.prog W 0 (fun _ => true) true Try.f7.params.toList args.toList ds p := hA0
  rw [Try.params7] at hA hval
  obtain ⟨v0, vs0, d0, ds0, p0, q0, hargs, rfl, rfl, h0, r0x⟩ := trodAll_cons hA
  obtain ⟨v1, vs1, d1, ds1, p1, q1, rfl, rfl, rfl, h1, r1x⟩ := trodAll_cons r0x
  obtain ⟨v2, vs2, d2, ds2, p2, q2, rfl, rfl, rfl, h2, r2x⟩ := trodAll_cons r1x
  obtain ⟨rfl, rfl, rfl⟩ := trodAll_nil r2x
  obtain rfl : args = #[v0, v1, v2] := by cases args; simp_all
  obtain ⟨t0, f0, rfl, w0⟩ := open_win (hval 0 25 v0 rfl rfl) h0
  obtain ⟨a1, rfl, rfl, rfl, w1⟩ := open_int Try.underlying37 (hval 1 37 v1 rfl rfl) h1
  obtain ⟨a2, rfl, rfl, rfl, w2⟩ := open_int Try.underlying37 (hval 2 37 v2 rfl rfl) h2
  clear hA0 hval0
  refine (walk t0 f0 w0 a1 w1 a2 w2 W).mono fun e W' ⟨he, hg⟩ => ?_
  subst he
  exact ⟨_, rfl, law_post hW' rfl rfl (fun h => by subst h; exact ⟨rfl, rfl, rfl⟩) (by rw [Try.params7]; intro t ht; simp at ht; rcases ht with rfl | rfl | rfl <;> exact ⟨by kernel_rfl, of_decide_eq_true (by kernel_rfl)⟩) hg⟩

theorem over : Rows.winOrderRow.holds Try.pinned (OpenSpec.ofChange Rows.winOrderSpec) :=
  OpenClaim.holds_of_wide 7 Try.f7 rfl rfl rfl rfl rfl rfl rfl ⟨rfl, rfl, rfl, rfl, rfl⟩ rfl rfl rfl rfl rfl (by kernel_rfl) Try.func7 (by kernel_rfl)
    (of_decide_eq_true (by kernel_rfl)) (by unfold Func.isWrapper; first | (rw [if_pos (by decide +kernel)]; kernel_rfl) | (rw [if_neg (by decide +kernel)]; exact ⟨rfl, rfl⟩))
    (fun os started H enc _ => lifted os started H enc)

theorem proved : Rows.WinOrderSaid :=
  over
#print axioms proved
end winOrder
end Go.Proofs.Ytkmmfobnpapceaa
