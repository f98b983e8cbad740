/- WinFirst: to a window that took nothing all numbers are fresh; behind one number, all within 1023 below it, and all above: for every two numbers. No condition. -/
import Derived.Test.YtkmmfobnpapceaaL
import Derived.Test.YtkmmfobnpapceaaP
namespace Go.Proofs.Ytkmmfobnpapceaa
open Go.ChangeShapes Go.WideShapes Go.ChangeAt Go.RowKit
namespace winFirst
attribute [local go_sem] winA_lit

set_option maxRecDepth 100000 in
set_option maxHeartbeats 8000000 in
theorem walk_neg_neg (n o : Int) (wn : -9223372036854775808 ≤ n ∧ n ≤ 9223372036854775807) (w : World) (hn : n < 0) (ho : o < 0) :
    Calls Try.prog 9 #[.int .i64 n, .int .i64 o] w fun e w' => e = .returned (.bool true) ∧ Below w.heap.size w w' := by
  have hf0 : freshB 0 noBits o = false := freshB_out (by omega)
  have hm1 : ∀ W : World, Calls Try.prog 13 #[.agg (winA 0 noBits), .int .i64 o] W fun e w' => e = .returned (.bool false) ∧ Below W.heap.size W w' := fun W => by
    have := wFresh_any 0 noBits o W (by omega) (by omega)
    rwa [hf0] at this
  have hm : ∀ W : World, Calls Try.prog 15 #[.agg (winA 0 noBits), .int .i64 n] W fun e w' => e = .returned (.tuple #[.agg (winA 0 noBits), .int .i64 1]) ∧ Below W.heap.size W w' := fun W => mark_out 0 noBits n W (by omega)
  have HM := Lib.hid hm; have HM1 := Lib.hid hm1; clear hm hm1 hf0
  have dn0 : decide (0 ≤ n) = false := by simp; omega
  have do0 : decide (0 ≤ o) = false := by simp; omega
  have HB0 := Lib.hid (Below.refl w.heap.size w)
  go_enter Try.func9, Try.ntmps9
  go_wp2_with fail
  refine (shown_ok _).mono ?_
  rintro e w1 ⟨rfl, hb1⟩
  have HB1 := Lib.hid (HB0.out.trans (hb1.mono (HB0.out.size)))
  clear hb1 HB0
  go_wp2_with (first | fail)
  refine (HM.out _).mono ?_
  rintro e w2 ⟨rfl, hb2⟩
  have HB2 := Lib.hid (HB1.out.trans (hb2.mono (HB1.out.size)))
  clear hb2 HB1
  go_wp2_with (first | (refine store_blk' (ty := 25) rfl rfl rfl rfl (info25' (0) (noBits)) (winA_one _ _) (old := winA 0 noBits) (by simp only [winA_size]) (Blk.new w2 25 (winA 0 noBits)) ?_; intro w3 bx_3 hG3 hz3; have HB3 := Lib.hid ((HB2.out.alloc HB2.out.size _).grown hG3 (by have := HB2.out.size; simp; omega) (by have := HB2.out.size; simp; omega)); clear hG3 hz3) | (refine load_blk (ty := 25) rfl rfl rfl Try.underlying25 rfl (info25' (0) (noBits)) bx_3 ?_) | (refine load_blk_g (ty := 25) rfl rfl rfl Try.underlying25 rfl (info25' (0) (noBits)) bx_3 ?_) | fail)
  refine (HM1.out _).mono ?_
  rintro e w4 ⟨rfl, hb4⟩
  have bx_4 := bx_3.belowSelf hb4
  have HB4 := Lib.hid (HB3.out.trans (hb4.mono (HB3.out.size)))
  clear hb4 HB3 bx_3
  go_wp2_with fail
  go_ret
  exact ⟨rfl, HB4.out⟩

set_option maxRecDepth 100000 in
set_option maxHeartbeats 8000000 in
theorem walk_neg_big (n o : Int) (wn : -9223372036854775808 ≤ n ∧ n ≤ 9223372036854775807) (w : World) (hn : n < 0) (ho : 4611686018427387904 < o) :
    Calls Try.prog 9 #[.int .i64 n, .int .i64 o] w fun e w' => e = .returned (.bool true) ∧ Below w.heap.size w w' := by
  have hf0 : freshB 0 noBits o = false := freshB_out (by omega)
  have hm1 : ∀ W : World, Calls Try.prog 13 #[.agg (winA 0 noBits), .int .i64 o] W fun e w' => e = .returned (.bool false) ∧ Below W.heap.size W w' := fun W => by
    have := wFresh_any 0 noBits o W (by omega) (by omega)
    rwa [hf0] at this
  have hm : ∀ W : World, Calls Try.prog 15 #[.agg (winA 0 noBits), .int .i64 n] W fun e w' => e = .returned (.tuple #[.agg (winA 0 noBits), .int .i64 1]) ∧ Below W.heap.size W w' := fun W => mark_out 0 noBits n W (by omega)
  have HM := Lib.hid hm; have HM1 := Lib.hid hm1; clear hm hm1 hf0
  have dn0 : decide (0 ≤ n) = false := by simp; omega
  have do0 : decide (0 ≤ o) = true := by simp; omega
  have do1 : decide (o ≤ 4611686018427387904) = false := by simp; omega
  have HB0 := Lib.hid (Below.refl w.heap.size w)
  go_enter Try.func9, Try.ntmps9
  go_wp2_with fail
  refine (shown_ok _).mono ?_
  rintro e w1 ⟨rfl, hb1⟩
  have HB1 := Lib.hid (HB0.out.trans (hb1.mono (HB0.out.size)))
  clear hb1 HB0
  go_wp2_with (first | fail)
  refine (HM.out _).mono ?_
  rintro e w2 ⟨rfl, hb2⟩
  have HB2 := Lib.hid (HB1.out.trans (hb2.mono (HB1.out.size)))
  clear hb2 HB1
  go_wp2_with (first | (refine store_blk' (ty := 25) rfl rfl rfl rfl (info25' (0) (noBits)) (winA_one _ _) (old := winA 0 noBits) (by simp only [winA_size]) (Blk.new w2 25 (winA 0 noBits)) ?_; intro w3 bx_3 hG3 hz3; have HB3 := Lib.hid ((HB2.out.alloc HB2.out.size _).grown hG3 (by have := HB2.out.size; simp; omega) (by have := HB2.out.size; simp; omega)); clear hG3 hz3) | (refine load_blk (ty := 25) rfl rfl rfl Try.underlying25 rfl (info25' (0) (noBits)) bx_3 ?_) | (refine load_blk_g (ty := 25) rfl rfl rfl Try.underlying25 rfl (info25' (0) (noBits)) bx_3 ?_) | fail)
  refine (HM1.out _).mono ?_
  rintro e w4 ⟨rfl, hb4⟩
  have bx_4 := bx_3.belowSelf hb4
  have HB4 := Lib.hid (HB3.out.trans (hb4.mono (HB3.out.size)))
  clear hb4 HB3 bx_3
  go_wp2_with fail
  go_ret
  exact ⟨rfl, HB4.out⟩

set_option maxRecDepth 100000 in
set_option maxHeartbeats 8000000 in
theorem walk_neg_in (n o : Int) (wn : -9223372036854775808 ≤ n ∧ n ≤ 9223372036854775807) (w : World) (hn : n < 0) (ho : 0 ≤ o ∧ o ≤ 4611686018427387904) :
    Calls Try.prog 9 #[.int .i64 n, .int .i64 o] w fun e w' => e = .returned (.bool true) ∧ Below w.heap.size w w' := by
  have hf0 : freshB 0 noBits o = true := freshB_high (by omega) (by omega) (by omega)
  have hm1 : ∀ W : World, Calls Try.prog 13 #[.agg (winA 0 noBits), .int .i64 o] W fun e w' => e = .returned (.bool true) ∧ Below W.heap.size W w' := fun W => by
    have := wFresh_any 0 noBits o W (by omega) (by omega)
    rwa [hf0] at this
  have hm : ∀ W : World, Calls Try.prog 15 #[.agg (winA 0 noBits), .int .i64 n] W fun e w' => e = .returned (.tuple #[.agg (winA 0 noBits), .int .i64 1]) ∧ Below W.heap.size W w' := fun W => mark_out 0 noBits n W (by omega)
  have HM := Lib.hid hm; have HM1 := Lib.hid hm1; clear hm hm1 hf0
  have dn0 : decide (0 ≤ n) = false := by simp; omega
  have do0 : decide (0 ≤ o) = true := by simp; omega
  have do1 : decide (o ≤ 4611686018427387904) = true := by simp; omega
  have HB0 := Lib.hid (Below.refl w.heap.size w)
  go_enter Try.func9, Try.ntmps9
  go_wp2_with fail
  refine (shown_ok _).mono ?_
  rintro e w1 ⟨rfl, hb1⟩
  have HB1 := Lib.hid (HB0.out.trans (hb1.mono (HB0.out.size)))
  clear hb1 HB0
  go_wp2_with (first | fail)
  refine (HM.out _).mono ?_
  rintro e w2 ⟨rfl, hb2⟩
  have HB2 := Lib.hid (HB1.out.trans (hb2.mono (HB1.out.size)))
  clear hb2 HB1
  go_wp2_with (first | (refine store_blk' (ty := 25) rfl rfl rfl rfl (info25' (0) (noBits)) (winA_one _ _) (old := winA 0 noBits) (by simp only [winA_size]) (Blk.new w2 25 (winA 0 noBits)) ?_; intro w3 bx_3 hG3 hz3; have HB3 := Lib.hid ((HB2.out.alloc HB2.out.size _).grown hG3 (by have := HB2.out.size; simp; omega) (by have := HB2.out.size; simp; omega)); clear hG3 hz3) | (refine load_blk (ty := 25) rfl rfl rfl Try.underlying25 rfl (info25' (0) (noBits)) bx_3 ?_) | (refine load_blk_g (ty := 25) rfl rfl rfl Try.underlying25 rfl (info25' (0) (noBits)) bx_3 ?_) | fail)
  refine (HM1.out _).mono ?_
  rintro e w4 ⟨rfl, hb4⟩
  have bx_4 := bx_3.belowSelf hb4
  have HB4 := Lib.hid (HB3.out.trans (hb4.mono (HB3.out.size)))
  clear hb4 HB3 bx_3
  go_wp2_with fail
  go_ret
  exact ⟨rfl, HB4.out⟩

set_option maxRecDepth 100000 in
set_option maxHeartbeats 8000000 in
theorem walk_big_neg (n o : Int) (wn : -9223372036854775808 ≤ n ∧ n ≤ 9223372036854775807) (w : World) (hn : 4611686018427387904 < n) (ho : o < 0) :
    Calls Try.prog 9 #[.int .i64 n, .int .i64 o] w fun e w' => e = .returned (.bool true) ∧ Below w.heap.size w w' := by
  have hf0 : freshB 0 noBits o = false := freshB_out (by omega)
  have hm1 : ∀ W : World, Calls Try.prog 13 #[.agg (winA 0 noBits), .int .i64 o] W fun e w' => e = .returned (.bool false) ∧ Below W.heap.size W w' := fun W => by
    have := wFresh_any 0 noBits o W (by omega) (by omega)
    rwa [hf0] at this
  have hm : ∀ W : World, Calls Try.prog 15 #[.agg (winA 0 noBits), .int .i64 n] W fun e w' => e = .returned (.tuple #[.agg (winA 0 noBits), .int .i64 1]) ∧ Below W.heap.size W w' := fun W => mark_out 0 noBits n W (by omega)
  have HM := Lib.hid hm; have HM1 := Lib.hid hm1; clear hm hm1 hf0
  have dn0 : decide (0 ≤ n) = true := by simp; omega
  have dn1 : decide (n ≤ 4611686018427387904) = false := by simp; omega
  have do0 : decide (0 ≤ o) = false := by simp; omega
  have HB0 := Lib.hid (Below.refl w.heap.size w)
  go_enter Try.func9, Try.ntmps9
  go_wp2_with fail
  refine (shown_ok _).mono ?_
  rintro e w1 ⟨rfl, hb1⟩
  have HB1 := Lib.hid (HB0.out.trans (hb1.mono (HB0.out.size)))
  clear hb1 HB0
  go_wp2_with (first | fail)
  refine (HM.out _).mono ?_
  rintro e w2 ⟨rfl, hb2⟩
  have HB2 := Lib.hid (HB1.out.trans (hb2.mono (HB1.out.size)))
  clear hb2 HB1
  go_wp2_with (first | (refine store_blk' (ty := 25) rfl rfl rfl rfl (info25' (0) (noBits)) (winA_one _ _) (old := winA 0 noBits) (by simp only [winA_size]) (Blk.new w2 25 (winA 0 noBits)) ?_; intro w3 bx_3 hG3 hz3; have HB3 := Lib.hid ((HB2.out.alloc HB2.out.size _).grown hG3 (by have := HB2.out.size; simp; omega) (by have := HB2.out.size; simp; omega)); clear hG3 hz3) | (refine load_blk (ty := 25) rfl rfl rfl Try.underlying25 rfl (info25' (0) (noBits)) bx_3 ?_) | (refine load_blk_g (ty := 25) rfl rfl rfl Try.underlying25 rfl (info25' (0) (noBits)) bx_3 ?_) | fail)
  refine (HM1.out _).mono ?_
  rintro e w4 ⟨rfl, hb4⟩
  have bx_4 := bx_3.belowSelf hb4
  have HB4 := Lib.hid (HB3.out.trans (hb4.mono (HB3.out.size)))
  clear hb4 HB3 bx_3
  go_wp2_with fail
  go_ret
  exact ⟨rfl, HB4.out⟩

set_option maxRecDepth 100000 in
set_option maxHeartbeats 8000000 in
theorem walk_big_big (n o : Int) (wn : -9223372036854775808 ≤ n ∧ n ≤ 9223372036854775807) (w : World) (hn : 4611686018427387904 < n) (ho : 4611686018427387904 < o) :
    Calls Try.prog 9 #[.int .i64 n, .int .i64 o] w fun e w' => e = .returned (.bool true) ∧ Below w.heap.size w w' := by
  have hf0 : freshB 0 noBits o = false := freshB_out (by omega)
  have hm1 : ∀ W : World, Calls Try.prog 13 #[.agg (winA 0 noBits), .int .i64 o] W fun e w' => e = .returned (.bool false) ∧ Below W.heap.size W w' := fun W => by
    have := wFresh_any 0 noBits o W (by omega) (by omega)
    rwa [hf0] at this
  have hm : ∀ W : World, Calls Try.prog 15 #[.agg (winA 0 noBits), .int .i64 n] W fun e w' => e = .returned (.tuple #[.agg (winA 0 noBits), .int .i64 1]) ∧ Below W.heap.size W w' := fun W => mark_out 0 noBits n W (by omega)
  have HM := Lib.hid hm; have HM1 := Lib.hid hm1; clear hm hm1 hf0
  have dn0 : decide (0 ≤ n) = true := by simp; omega
  have dn1 : decide (n ≤ 4611686018427387904) = false := by simp; omega
  have do0 : decide (0 ≤ o) = true := by simp; omega
  have do1 : decide (o ≤ 4611686018427387904) = false := by simp; omega
  have HB0 := Lib.hid (Below.refl w.heap.size w)
  go_enter Try.func9, Try.ntmps9
  go_wp2_with fail
  refine (shown_ok _).mono ?_
  rintro e w1 ⟨rfl, hb1⟩
  have HB1 := Lib.hid (HB0.out.trans (hb1.mono (HB0.out.size)))
  clear hb1 HB0
  go_wp2_with (first | fail)
  refine (HM.out _).mono ?_
  rintro e w2 ⟨rfl, hb2⟩
  have HB2 := Lib.hid (HB1.out.trans (hb2.mono (HB1.out.size)))
  clear hb2 HB1
  go_wp2_with (first | (refine store_blk' (ty := 25) rfl rfl rfl rfl (info25' (0) (noBits)) (winA_one _ _) (old := winA 0 noBits) (by simp only [winA_size]) (Blk.new w2 25 (winA 0 noBits)) ?_; intro w3 bx_3 hG3 hz3; have HB3 := Lib.hid ((HB2.out.alloc HB2.out.size _).grown hG3 (by have := HB2.out.size; simp; omega) (by have := HB2.out.size; simp; omega)); clear hG3 hz3) | (refine load_blk (ty := 25) rfl rfl rfl Try.underlying25 rfl (info25' (0) (noBits)) bx_3 ?_) | (refine load_blk_g (ty := 25) rfl rfl rfl Try.underlying25 rfl (info25' (0) (noBits)) bx_3 ?_) | fail)
  refine (HM1.out _).mono ?_
  rintro e w4 ⟨rfl, hb4⟩
  have bx_4 := bx_3.belowSelf hb4
  have HB4 := Lib.hid (HB3.out.trans (hb4.mono (HB3.out.size)))
  clear hb4 HB3 bx_3
  go_wp2_with fail
  go_ret
  exact ⟨rfl, HB4.out⟩

set_option maxRecDepth 100000 in
set_option maxHeartbeats 8000000 in
theorem walk_big_in (n o : Int) (wn : -9223372036854775808 ≤ n ∧ n ≤ 9223372036854775807) (w : World) (hn : 4611686018427387904 < n) (ho : 0 ≤ o ∧ o ≤ 4611686018427387904) :
    Calls Try.prog 9 #[.int .i64 n, .int .i64 o] w fun e w' => e = .returned (.bool true) ∧ Below w.heap.size w w' := by
  have hf0 : freshB 0 noBits o = true := freshB_high (by omega) (by omega) (by omega)
  have hm1 : ∀ W : World, Calls Try.prog 13 #[.agg (winA 0 noBits), .int .i64 o] W fun e w' => e = .returned (.bool true) ∧ Below W.heap.size W w' := fun W => by
    have := wFresh_any 0 noBits o W (by omega) (by omega)
    rwa [hf0] at this
  have hm : ∀ W : World, Calls Try.prog 15 #[.agg (winA 0 noBits), .int .i64 n] W fun e w' => e = .returned (.tuple #[.agg (winA 0 noBits), .int .i64 1]) ∧ Below W.heap.size W w' := fun W => mark_out 0 noBits n W (by omega)
  have HM := Lib.hid hm; have HM1 := Lib.hid hm1; clear hm hm1 hf0
  have dn0 : decide (0 ≤ n) = true := by simp; omega
  have dn1 : decide (n ≤ 4611686018427387904) = false := by simp; omega
  have do0 : decide (0 ≤ o) = true := by simp; omega
  have do1 : decide (o ≤ 4611686018427387904) = true := by simp; omega
  have HB0 := Lib.hid (Below.refl w.heap.size w)
  go_enter Try.func9, Try.ntmps9
  go_wp2_with fail
  refine (shown_ok _).mono ?_
  rintro e w1 ⟨rfl, hb1⟩
  have HB1 := Lib.hid (HB0.out.trans (hb1.mono (HB0.out.size)))
  clear hb1 HB0
  go_wp2_with (first | fail)
  refine (HM.out _).mono ?_
  rintro e w2 ⟨rfl, hb2⟩
  have HB2 := Lib.hid (HB1.out.trans (hb2.mono (HB1.out.size)))
  clear hb2 HB1
  go_wp2_with (first | (refine store_blk' (ty := 25) rfl rfl rfl rfl (info25' (0) (noBits)) (winA_one _ _) (old := winA 0 noBits) (by simp only [winA_size]) (Blk.new w2 25 (winA 0 noBits)) ?_; intro w3 bx_3 hG3 hz3; have HB3 := Lib.hid ((HB2.out.alloc HB2.out.size _).grown hG3 (by have := HB2.out.size; simp; omega) (by have := HB2.out.size; simp; omega)); clear hG3 hz3) | (refine load_blk (ty := 25) rfl rfl rfl Try.underlying25 rfl (info25' (0) (noBits)) bx_3 ?_) | (refine load_blk_g (ty := 25) rfl rfl rfl Try.underlying25 rfl (info25' (0) (noBits)) bx_3 ?_) | fail)
  refine (HM1.out _).mono ?_
  rintro e w4 ⟨rfl, hb4⟩
  have bx_4 := bx_3.belowSelf hb4
  have HB4 := Lib.hid (HB3.out.trans (hb4.mono (HB3.out.size)))
  clear hb4 HB3 bx_3
  go_wp2_with fail
  go_ret
  exact ⟨rfl, HB4.out⟩

set_option maxRecDepth 100000 in
set_option maxHeartbeats 8000000 in
theorem walk_in_neg (n o : Int) (wn : -9223372036854775808 ≤ n ∧ n ≤ 9223372036854775807) (w : World) (hn : 0 ≤ n ∧ n ≤ 4611686018427387904) (ho : o < 0) :
    Calls Try.prog 9 #[.int .i64 n, .int .i64 o] w fun e w' => e = .returned (.bool true) ∧ Below w.heap.size w w' := by
  have hf0 : freshB 0 noBits o = false := freshB_out (by omega)
  have hm1 : ∀ W : World, Calls Try.prog 13 #[.agg (winA 0 noBits), .int .i64 o] W fun e w' => e = .returned (.bool false) ∧ Below W.heap.size W w' := fun W => by
    have := wFresh_any 0 noBits o W (by omega) (by omega)
    rwa [hf0] at this
  have hfl : freshB 0 noBits n = true := freshB_high (by omega) (by omega) (by omega)
  have hm := fun W => mark_ok 0 noBits n W (by omega) (by omega) hfl
  have hfm := fresh_mark 0 noBits n o (by omega) hfl
  rw [show max 0 (n + 1) = n + 1 by omega] at hm hfm
  generalize markG 0 noBits n = G at *
  rw [hf0] at hfm
  simp only [Bool.and_false] at hfm
  have hm2 : ∀ W : World, Calls Try.prog 13 #[.agg (winA (n + 1) G), .int .i64 o] W fun e w' => e = .returned (.bool false) ∧ Below W.heap.size W w' := fun W => by
    have := wFresh_any (n + 1) G o W (by omega) (by omega)
    rwa [hfm] at this
  have HM2 := Lib.hid hm2; clear hm2 hfm hfl
  have HM := Lib.hid hm; have HM1 := Lib.hid hm1; clear hm hm1 hf0
  have dn0 : decide (0 ≤ n) = true := by simp; omega
  have dn1 : decide (n ≤ 4611686018427387904) = true := by simp; omega
  have do0 : decide (0 ≤ o) = false := by simp; omega
  have HB0 := Lib.hid (Below.refl w.heap.size w)
  go_enter Try.func9, Try.ntmps9
  go_wp2_with fail
  refine (shown_ok _).mono ?_
  rintro e w1 ⟨rfl, hb1⟩
  have HB1 := Lib.hid (HB0.out.trans (hb1.mono (HB0.out.size)))
  clear hb1 HB0
  go_wp2_with (first | fail)
  refine (HM.out _).mono ?_
  rintro e w2 ⟨rfl, hb2⟩
  have HB2 := Lib.hid (HB1.out.trans (hb2.mono (HB1.out.size)))
  clear hb2 HB1
  go_wp2_with (first | (refine store_blk' (ty := 25) rfl rfl rfl rfl (info25' (n + 1) (G)) (winA_one _ _) (old := winA 0 noBits) (by simp only [winA_size]) (Blk.new w2 25 (winA 0 noBits)) ?_; intro w3 bx_3 hG3 hz3; have HB3 := Lib.hid ((HB2.out.alloc HB2.out.size _).grown hG3 (by have := HB2.out.size; simp; omega) (by have := HB2.out.size; simp; omega)); clear hG3 hz3) | (refine load_blk (ty := 25) rfl rfl rfl Try.underlying25 rfl (info25' (n + 1) (G)) bx_3 ?_) | (refine load_blk_g (ty := 25) rfl rfl rfl Try.underlying25 rfl (info25' (n + 1) (G)) bx_3 ?_) | fail)
  refine (HM1.out _).mono ?_
  rintro e w4 ⟨rfl, hb4⟩
  have bx_4 := bx_3.belowSelf hb4
  have HB4 := Lib.hid (HB3.out.trans (hb4.mono (HB3.out.size)))
  clear hb4 HB3 bx_3
  go_wp2_with (first | (refine load_blk (ty := 25) rfl rfl rfl Try.underlying25 rfl (info25' (n + 1) (G)) bx_4 ?_) | (refine load_blk_g (ty := 25) rfl rfl rfl Try.underlying25 rfl (info25' (n + 1) (G)) bx_4 ?_) | fail)
  refine (HM2.out _).mono ?_
  rintro e w5 ⟨rfl, hb5⟩
  have bx_5 := bx_4.belowSelf hb5
  have HB5 := Lib.hid (HB4.out.trans (hb5.mono (HB4.out.size)))
  clear hb5 HB4 bx_4
  go_wp2_with fail
  go_ret
  exact ⟨rfl, HB5.out⟩

set_option maxRecDepth 100000 in
set_option maxHeartbeats 8000000 in
theorem walk_in_big (n o : Int) (wn : -9223372036854775808 ≤ n ∧ n ≤ 9223372036854775807) (w : World) (hn : 0 ≤ n ∧ n ≤ 4611686018427387904) (ho : 4611686018427387904 < o) :
    Calls Try.prog 9 #[.int .i64 n, .int .i64 o] w fun e w' => e = .returned (.bool true) ∧ Below w.heap.size w w' := by
  have hf0 : freshB 0 noBits o = false := freshB_out (by omega)
  have hm1 : ∀ W : World, Calls Try.prog 13 #[.agg (winA 0 noBits), .int .i64 o] W fun e w' => e = .returned (.bool false) ∧ Below W.heap.size W w' := fun W => by
    have := wFresh_any 0 noBits o W (by omega) (by omega)
    rwa [hf0] at this
  have hfl : freshB 0 noBits n = true := freshB_high (by omega) (by omega) (by omega)
  have hm := fun W => mark_ok 0 noBits n W (by omega) (by omega) hfl
  have hfm := fresh_mark 0 noBits n o (by omega) hfl
  rw [show max 0 (n + 1) = n + 1 by omega] at hm hfm
  generalize markG 0 noBits n = G at *
  rw [hf0] at hfm
  simp only [Bool.and_false] at hfm
  have hm2 : ∀ W : World, Calls Try.prog 13 #[.agg (winA (n + 1) G), .int .i64 o] W fun e w' => e = .returned (.bool false) ∧ Below W.heap.size W w' := fun W => by
    have := wFresh_any (n + 1) G o W (by omega) (by omega)
    rwa [hfm] at this
  have HM2 := Lib.hid hm2; clear hm2 hfm hfl
  have HM := Lib.hid hm; have HM1 := Lib.hid hm1; clear hm hm1 hf0
  have dn0 : decide (0 ≤ n) = true := by simp; omega
  have dn1 : decide (n ≤ 4611686018427387904) = true := by simp; omega
  have do0 : decide (0 ≤ o) = true := by simp; omega
  have do1 : decide (o ≤ 4611686018427387904) = false := by simp; omega
  have HB0 := Lib.hid (Below.refl w.heap.size w)
  go_enter Try.func9, Try.ntmps9
  go_wp2_with fail
  refine (shown_ok _).mono ?_
  rintro e w1 ⟨rfl, hb1⟩
  have HB1 := Lib.hid (HB0.out.trans (hb1.mono (HB0.out.size)))
  clear hb1 HB0
  go_wp2_with (first | fail)
  refine (HM.out _).mono ?_
  rintro e w2 ⟨rfl, hb2⟩
  have HB2 := Lib.hid (HB1.out.trans (hb2.mono (HB1.out.size)))
  clear hb2 HB1
  go_wp2_with (first | (refine store_blk' (ty := 25) rfl rfl rfl rfl (info25' (n + 1) (G)) (winA_one _ _) (old := winA 0 noBits) (by simp only [winA_size]) (Blk.new w2 25 (winA 0 noBits)) ?_; intro w3 bx_3 hG3 hz3; have HB3 := Lib.hid ((HB2.out.alloc HB2.out.size _).grown hG3 (by have := HB2.out.size; simp; omega) (by have := HB2.out.size; simp; omega)); clear hG3 hz3) | (refine load_blk (ty := 25) rfl rfl rfl Try.underlying25 rfl (info25' (n + 1) (G)) bx_3 ?_) | (refine load_blk_g (ty := 25) rfl rfl rfl Try.underlying25 rfl (info25' (n + 1) (G)) bx_3 ?_) | fail)
  refine (HM1.out _).mono ?_
  rintro e w4 ⟨rfl, hb4⟩
  have bx_4 := bx_3.belowSelf hb4
  have HB4 := Lib.hid (HB3.out.trans (hb4.mono (HB3.out.size)))
  clear hb4 HB3 bx_3
  go_wp2_with (first | (refine load_blk (ty := 25) rfl rfl rfl Try.underlying25 rfl (info25' (n + 1) (G)) bx_4 ?_) | (refine load_blk_g (ty := 25) rfl rfl rfl Try.underlying25 rfl (info25' (n + 1) (G)) bx_4 ?_) | fail)
  refine (HM2.out _).mono ?_
  rintro e w5 ⟨rfl, hb5⟩
  have bx_5 := bx_4.belowSelf hb5
  have HB5 := Lib.hid (HB4.out.trans (hb5.mono (HB4.out.size)))
  clear hb5 HB4 bx_4
  go_wp2_with fail
  go_ret
  exact ⟨rfl, HB5.out⟩

set_option maxRecDepth 100000 in
set_option maxHeartbeats 8000000 in
theorem walk_in_in_same (n o : Int) (wn : -9223372036854775808 ≤ n ∧ n ≤ 9223372036854775807) (w : World) (hn : 0 ≤ n ∧ n ≤ 4611686018427387904) (ho : 0 ≤ o ∧ o ≤ 4611686018427387904) (hon : o = n) :
    Calls Try.prog 9 #[.int .i64 n, .int .i64 o] w fun e w' => e = .returned (.bool true) ∧ Below w.heap.size w w' := by
  obtain rfl : n = o := hon.symm
  have hf0 : freshB 0 noBits n = true := freshB_high (by omega) (by omega) (by omega)
  have hm1 : ∀ W : World, Calls Try.prog 13 #[.agg (winA 0 noBits), .int .i64 n] W fun e w' => e = .returned (.bool true) ∧ Below W.heap.size W w' := fun W => by
    have := wFresh_any 0 noBits n W (by omega) (by omega)
    rwa [hf0] at this
  have hfl : freshB 0 noBits n = true := freshB_high (by omega) (by omega) (by omega)
  have hm := fun W => mark_ok 0 noBits n W (by omega) (by omega) hfl
  have hfm := fresh_mark 0 noBits n n (by omega) hfl
  rw [show max 0 (n + 1) = n + 1 by omega] at hm hfm
  generalize markG 0 noBits n = G at *
  rw [hf0] at hfm
  simp only [ne_eq, not_true_eq_false, decide_false, Bool.false_and] at hfm
  have hm2 : ∀ W : World, Calls Try.prog 13 #[.agg (winA (n + 1) G), .int .i64 n] W fun e w' => e = .returned (.bool false) ∧ Below W.heap.size W w' := fun W => by
    have := wFresh_any (n + 1) G n W (by omega) (by omega)
    rwa [hfm] at this
  have HM2 := Lib.hid hm2; clear hm2 hfm hfl
  have HM := Lib.hid hm; have HM1 := Lib.hid hm1; clear hm hm1 hf0
  have dn0 : decide (0 ≤ n) = true := by simp; omega
  have dn1 : decide (n ≤ 4611686018427387904) = true := by simp; omega
  have HB0 := Lib.hid (Below.refl w.heap.size w)
  go_enter Try.func9, Try.ntmps9
  go_wp2_with fail
  refine (shown_ok _).mono ?_
  rintro e w1 ⟨rfl, hb1⟩
  have HB1 := Lib.hid (HB0.out.trans (hb1.mono (HB0.out.size)))
  clear hb1 HB0
  go_wp2_with (first | fail)
  refine (HM.out _).mono ?_
  rintro e w2 ⟨rfl, hb2⟩
  have HB2 := Lib.hid (HB1.out.trans (hb2.mono (HB1.out.size)))
  clear hb2 HB1
  go_wp2_with (first | (refine store_blk' (ty := 25) rfl rfl rfl rfl (info25' (n + 1) (G)) (winA_one _ _) (old := winA 0 noBits) (by simp only [winA_size]) (Blk.new w2 25 (winA 0 noBits)) ?_; intro w3 bx_3 hG3 hz3; have HB3 := Lib.hid ((HB2.out.alloc HB2.out.size _).grown hG3 (by have := HB2.out.size; simp; omega) (by have := HB2.out.size; simp; omega)); clear hG3 hz3) | (refine load_blk (ty := 25) rfl rfl rfl Try.underlying25 rfl (info25' (n + 1) (G)) bx_3 ?_) | (refine load_blk_g (ty := 25) rfl rfl rfl Try.underlying25 rfl (info25' (n + 1) (G)) bx_3 ?_) | fail)
  refine (HM1.out _).mono ?_
  rintro e w4 ⟨rfl, hb4⟩
  have bx_4 := bx_3.belowSelf hb4
  have HB4 := Lib.hid (HB3.out.trans (hb4.mono (HB3.out.size)))
  clear hb4 HB3 bx_3
  go_wp2_with (first | (refine load_blk (ty := 25) rfl rfl rfl Try.underlying25 rfl (info25' (n + 1) (G)) bx_4 ?_) | (refine load_blk_g (ty := 25) rfl rfl rfl Try.underlying25 rfl (info25' (n + 1) (G)) bx_4 ?_) | fail)
  refine (HM2.out _).mono ?_
  rintro e w5 ⟨rfl, hb5⟩
  have bx_5 := bx_4.belowSelf hb5
  have HB5 := Lib.hid (HB4.out.trans (hb5.mono (HB4.out.size)))
  clear hb5 HB4 bx_4
  go_wp2_with fail
  go_ret
  exact ⟨rfl, HB5.out⟩

set_option maxRecDepth 100000 in
set_option maxHeartbeats 8000000 in
theorem walk_in_in_other (n o : Int) (wn : -9223372036854775808 ≤ n ∧ n ≤ 9223372036854775807) (w : World) (hn : 0 ≤ n ∧ n ≤ 4611686018427387904) (ho : 0 ≤ o ∧ o ≤ 4611686018427387904) (hon : o ≠ n) :
    Calls Try.prog 9 #[.int .i64 n, .int .i64 o] w fun e w' => e = .returned (.bool true) ∧ Below w.heap.size w w' := by
  have hf0 : freshB 0 noBits o = true := freshB_high (by omega) (by omega) (by omega)
  have hm1 : ∀ W : World, Calls Try.prog 13 #[.agg (winA 0 noBits), .int .i64 o] W fun e w' => e = .returned (.bool true) ∧ Below W.heap.size W w' := fun W => by
    have := wFresh_any 0 noBits o W (by omega) (by omega)
    rwa [hf0] at this
  have hfl : freshB 0 noBits n = true := freshB_high (by omega) (by omega) (by omega)
  have hm := fun W => mark_ok 0 noBits n W (by omega) (by omega) hfl
  have hfm := fresh_mark 0 noBits n o (by omega) hfl
  rw [show max 0 (n + 1) = n + 1 by omega] at hm hfm
  generalize markG 0 noBits n = G at *
  rw [hf0] at hfm
  rw [show decide (o ≠ n) = true by simp; omega, Bool.true_and, Bool.and_true] at hfm
  have e1 : (o != n) = true := by rw [bne_iff_ne]; omega
  have hm2 : ∀ W : World, Calls Try.prog 13 #[.agg (winA (n + 1) G), .int .i64 o] W fun e w' => e = .returned (.bool (decide (n - 1024 < o))) ∧ Below W.heap.size W w' := fun W => by
    have := wFresh_any (n + 1) G o W (by omega) (by omega)
    rwa [hfm] at this
  have HM2 := Lib.hid hm2; clear hm2 hfm hfl
  have HM := Lib.hid hm; have HM1 := Lib.hid hm1; clear hm hm1 hf0
  have dn0 : decide (0 ≤ n) = true := by simp; omega
  have dn1 : decide (n ≤ 4611686018427387904) = true := by simp; omega
  have do0 : decide (0 ≤ o) = true := by simp; omega
  have do1 : decide (o ≤ 4611686018427387904) = true := by simp; omega
  have HB0 := Lib.hid (Below.refl w.heap.size w)
  go_enter Try.func9, Try.ntmps9
  go_wp2_with fail
  refine (shown_ok _).mono ?_
  rintro e w1 ⟨rfl, hb1⟩
  have HB1 := Lib.hid (HB0.out.trans (hb1.mono (HB0.out.size)))
  clear hb1 HB0
  go_wp2_with (first | fail)
  refine (HM.out _).mono ?_
  rintro e w2 ⟨rfl, hb2⟩
  have HB2 := Lib.hid (HB1.out.trans (hb2.mono (HB1.out.size)))
  clear hb2 HB1
  go_wp2_with (first | (refine store_blk' (ty := 25) rfl rfl rfl rfl (info25' (n + 1) (G)) (winA_one _ _) (old := winA 0 noBits) (by simp only [winA_size]) (Blk.new w2 25 (winA 0 noBits)) ?_; intro w3 bx_3 hG3 hz3; have HB3 := Lib.hid ((HB2.out.alloc HB2.out.size _).grown hG3 (by have := HB2.out.size; simp; omega) (by have := HB2.out.size; simp; omega)); clear hG3 hz3) | (refine load_blk (ty := 25) rfl rfl rfl Try.underlying25 rfl (info25' (n + 1) (G)) bx_3 ?_) | (refine load_blk_g (ty := 25) rfl rfl rfl Try.underlying25 rfl (info25' (n + 1) (G)) bx_3 ?_) | fail)
  refine (HM1.out _).mono ?_
  rintro e w4 ⟨rfl, hb4⟩
  have bx_4 := bx_3.belowSelf hb4
  have HB4 := Lib.hid (HB3.out.trans (hb4.mono (HB3.out.size)))
  clear hb4 HB3 bx_3
  go_wp2_with (first | (refine load_blk (ty := 25) rfl rfl rfl Try.underlying25 rfl (info25' (n + 1) (G)) bx_4 ?_) | (refine load_blk_g (ty := 25) rfl rfl rfl Try.underlying25 rfl (info25' (n + 1) (G)) bx_4 ?_) | fail)
  refine (HM2.out _).mono ?_
  rintro e w5 ⟨rfl, hb5⟩
  have bx_5 := bx_4.belowSelf hb5
  have HB5 := Lib.hid (HB4.out.trans (hb5.mono (HB4.out.size)))
  clear hb5 HB4 bx_4
  go_wp2_with fail
  go_ret
  exact ⟨rfl, HB5.out⟩

theorem walk (n : Int) (wn : (Lit.int .i64 n).wf = true) (o : Int) (_ : (Lit.int .i64 o).wf = true) (w : World) :
    Calls Try.prog 9 #[.int .i64 n, .int .i64 o] w fun e w' => e = .returned (.bool true) ∧ Below w.heap.size w w' := by
  have hb := bounds64 wn
  by_cases n1 : n < 0
  · by_cases o1 : o < 0
    · exact walk_neg_neg n o hb w n1 o1
    by_cases o2 : 4611686018427387904 < o
    · exact walk_neg_big n o hb w n1 o2
    have o3 : 0 ≤ o ∧ o ≤ 4611686018427387904 := by omega
    exact walk_neg_in n o hb w n1 o3
  by_cases n2 : 4611686018427387904 < n
  · by_cases o1 : o < 0
    · exact walk_big_neg n o hb w n2 o1
    by_cases o2 : 4611686018427387904 < o
    · exact walk_big_big n o hb w n2 o2
    have o3 : 0 ≤ o ∧ o ≤ 4611686018427387904 := by omega
    exact walk_big_in n o hb w n2 o3
  have n3 : 0 ≤ n ∧ n ≤ 4611686018427387904 := by omega
  by_cases o1 : o < 0
  · exact walk_in_neg n o hb w n3 o1
  by_cases o2 : 4611686018427387904 < o
  · exact walk_in_big n o hb w n3 o2
  have o3 : 0 ≤ o ∧ o ≤ 4611686018427387904 := by omega
  by_cases hon : o = n
  · exact walk_in_in_same n o hb w n3 o3 hon
  · exact walk_in_in_other n o hb w n3 o3 hon

set_option maxRecDepth 100000 in
theorem lifted (os : Os) (started : os.Started) (H : Type) (enc : TypeId × Value → H) :
    ReturnsInHanded {} Try.checked os 9 .any (Rows.winFirstSpec.pre6 enc Try.prog Try.f9 Rows.winFirstRow.domain false) (Rows.winFirstSpec.post enc Try.prog Try.f9 false true false false) := by
  refine returnsInHanded_of_change (C := Try.checked) own started (by kernel_rfl) Try.func9
    (ChangeSpec.witness6 (enc := enc) (C := Try.checked) false ⟨#[], #[.int .i64 0, .int .i64 0], []⟩ 8 (by kernel_rfl) (by kernel_rfl) (by kernel_rfl) (by kernel_rfl)) ?_
  intro W base args ds gs before hval0 hW _ _
  have hval : ∀ (j : Nat) t v, Try.f9.params[j]? = some t → args[j]? = some v → Value.okWide Try.prog W .any base t v := hval0
  have hW' := hW
  obtain ⟨p, q, hA0, hV, rfl, _, _⟩ := hW
  have hA : DataW.TrodAll enc Try.prog W 0 (fun _ => true) true Try.f9.params.toList args.toList ds p := hA0
  rw [Try.params9] at hA hval
  obtain ⟨v0, vs0, d0, ds0, p0, q0, hargs, rfl, rfl, h0, r0x⟩ := trodAll_cons hA
  obtain ⟨v1, vs1, d1, ds1, p1, q1, rfl, rfl, rfl, h1, r1x⟩ := trodAll_cons r0x
  obtain ⟨rfl, rfl, rfl⟩ := trodAll_nil r1x
  obtain rfl : args = #[v0, v1] := by cases args; simp_all
  obtain ⟨a0, rfl, rfl, rfl, w0⟩ := open_int Try.underlying3 (hval 0 3 v0 rfl rfl) h0
  obtain ⟨a1, rfl, rfl, rfl, w1⟩ := open_int Try.underlying3 (hval 1 3 v1 rfl rfl) h1
  clear hA0 hval0
  refine (walk a0 w0 a1 w1 W).mono fun e W' ⟨he, hg⟩ => ?_
  subst he
  exact ⟨_, rfl, law_post hW' rfl rfl (fun h => by subst h; exact ⟨rfl, rfl, rfl⟩) (by rw [Try.params9]; intro t ht; simp at ht; rcases ht with rfl | rfl <;> exact ⟨by kernel_rfl, of_decide_eq_true (by kernel_rfl)⟩) hg⟩

theorem over : Rows.winFirstRow.holds Try.pinned (OpenSpec.ofChange Rows.winFirstSpec) :=
  OpenClaim.holds_of_wide 9 Try.f9 rfl rfl rfl rfl rfl rfl rfl ⟨rfl, rfl, rfl, rfl, rfl⟩ rfl rfl rfl rfl rfl (by kernel_rfl) Try.func9 (by kernel_rfl)
    (of_decide_eq_true (by kernel_rfl)) (by unfold Func.isWrapper; first | (rw [if_pos (by decide +kernel)]; kernel_rfl) | (rw [if_neg (by decide +kernel)]; exact ⟨rfl, rfl⟩))
    (fun os started H enc _ => lifted os started H enc)

theorem proved : Rows.WinFirstSaid :=
  over
#print axioms proved
end winFirst
end Go.Proofs.Ytkmmfobnpapceaa
