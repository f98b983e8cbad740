/- BitmapPlaces: each bit has a place of its own, one byte's bits from the highest one on; a number below 1, or above 128, has none. -/
import Derived.Test.YtalmgpcffbccoaaQ
namespace Go.Proofs.Ytalmgpcffbccoaa
open Go.ChangeShapes Go.WideShapes Go.ChangeAt Go.RowKit
namespace bitmapPlaces

set_option maxRecDepth 100000 in
set_option maxHeartbeats 8000000 in
theorem walk_below (m n : Int) (w : World) (pa pb qa qb : Int) (HP : Hid (∀ W, Calls Try.prog 12 #[.int .i64 m] W fun e w' => e = .returned (.tuple #[.int .i64 pa, .int .u8 pb]) ∧ Below W.heap.size W w')) (HQ : Hid (∀ W, Calls Try.prog 12 #[.int .i64 n] W fun e w' => e = .returned (.tuple #[.int .i64 qa, .int .u8 qb]) ∧ Below W.heap.size W w'))
    (H : m < 1 ∧ pa = 0 ∧ pb = 0) :
    Calls Try.prog 7 #[.int .i64 m, .int .i64 n] w fun e w' => e = .returned (.bool true) ∧ Below w.heap.size w w' := by
  obtain ⟨H, rfl, rfl⟩ := H
  have a1 : decide (1 ≤ m) = false := decide_eq_false (by omega)
  clear H
  go_enter Try.func7, Try.ntmps7
  go_wp2_with fail
  refine (shown_ok _).mono ?_
  rintro e w1 ⟨rfl, hb⟩
  have HB1 := Lib.hid hb
  clear hb
  go_wp2_with fail
  refine (HP.out _).mono ?_
  rintro e w2 ⟨rfl, hb⟩
  have HB2 := Lib.hid (HB1.out.trans (hb.mono HB1.out.size))
  clear hb
  go_wp2_with fail
  refine (HQ.out _).mono ?_
  rintro e w3 ⟨rfl, hb⟩
  have HB3 := Lib.hid (HB2.out.trans (hb.mono HB2.out.size))
  clear hb
  go_wp2_with fail
  go_ret
  exact ⟨rfl, HB3.out⟩

set_option maxRecDepth 100000 in
set_option maxHeartbeats 8000000 in
theorem walk_above (m n : Int) (w : World) (pa pb qa qb : Int) (HP : Hid (∀ W, Calls Try.prog 12 #[.int .i64 m] W fun e w' => e = .returned (.tuple #[.int .i64 pa, .int .u8 pb]) ∧ Below W.heap.size W w')) (HQ : Hid (∀ W, Calls Try.prog 12 #[.int .i64 n] W fun e w' => e = .returned (.tuple #[.int .i64 qa, .int .u8 qb]) ∧ Below W.heap.size W w'))
    (H : 128 < m ∧ pa = 0 ∧ pb = 0) :
    Calls Try.prog 7 #[.int .i64 m, .int .i64 n] w fun e w' => e = .returned (.bool true) ∧ Below w.heap.size w w' := by
  obtain ⟨H, rfl, rfl⟩ := H
  have a1 : decide (1 ≤ m) = true := decide_eq_true (by omega)
  have a2 : decide (m ≤ 128) = false := decide_eq_false (by omega)
  clear H
  go_enter Try.func7, Try.ntmps7
  go_wp2_with fail
  refine (shown_ok _).mono ?_
  rintro e w1 ⟨rfl, hb⟩
  have HB1 := Lib.hid hb
  clear hb
  go_wp2_with fail
  refine (HP.out _).mono ?_
  rintro e w2 ⟨rfl, hb⟩
  have HB2 := Lib.hid (HB1.out.trans (hb.mono HB1.out.size))
  clear hb
  go_wp2_with fail
  refine (HQ.out _).mono ?_
  rintro e w3 ⟨rfl, hb⟩
  have HB3 := Lib.hid (HB2.out.trans (hb.mono HB2.out.size))
  clear hb
  go_wp2_with fail
  go_ret
  exact ⟨rfl, HB3.out⟩

set_option maxRecDepth 100000 in
set_option maxHeartbeats 8000000 in
theorem walk_nbelow (m n : Int) (w : World) (pa pb qa qb : Int) (HP : Hid (∀ W, Calls Try.prog 12 #[.int .i64 m] W fun e w' => e = .returned (.tuple #[.int .i64 pa, .int .u8 pb]) ∧ Below W.heap.size W w')) (HQ : Hid (∀ W, Calls Try.prog 12 #[.int .i64 n] W fun e w' => e = .returned (.tuple #[.int .i64 qa, .int .u8 qb]) ∧ Below W.heap.size W w'))
    (H : (1 ≤ m ∧ m ≤ 128 ∧ 0 ≤ pa ∧ pa ≤ 15 ∧ 1 ≤ pb) ∧ n < 1) :
    Calls Try.prog 7 #[.int .i64 m, .int .i64 n] w fun e w' => e = .returned (.bool true) ∧ Below w.heap.size w w' := by
  have a1 : decide (1 ≤ m) = true := decide_eq_true (by omega)
  have a2 : decide (m ≤ 128) = true := decide_eq_true (by omega)
  have a3 : (pb != 0) = true := bne_iff_ne.2 (by omega)
  have a4 : (pb == 0) = false := beq_eq_false_iff_ne.2 (by omega)
  have a5 : decide (pa < 0) = false := decide_eq_false (by omega)
  have a6 : decide (15 < pa) = false := decide_eq_false (by omega)
  have b1 : decide (n < 1) = true := decide_eq_true (by omega)
  clear H
  go_enter Try.func7, Try.ntmps7
  go_wp2_with fail
  refine (shown_ok _).mono ?_
  rintro e w1 ⟨rfl, hb⟩
  have HB1 := Lib.hid hb
  clear hb
  go_wp2_with fail
  refine (HP.out _).mono ?_
  rintro e w2 ⟨rfl, hb⟩
  have HB2 := Lib.hid (HB1.out.trans (hb.mono HB1.out.size))
  clear hb
  go_wp2_with fail
  refine (HQ.out _).mono ?_
  rintro e w3 ⟨rfl, hb⟩
  have HB3 := Lib.hid (HB2.out.trans (hb.mono HB2.out.size))
  clear hb
  go_wp2_with fail
  go_ret
  exact ⟨rfl, HB3.out⟩

set_option maxRecDepth 100000 in
set_option maxHeartbeats 8000000 in
theorem walk_nabove (m n : Int) (w : World) (pa pb qa qb : Int) (HP : Hid (∀ W, Calls Try.prog 12 #[.int .i64 m] W fun e w' => e = .returned (.tuple #[.int .i64 pa, .int .u8 pb]) ∧ Below W.heap.size W w')) (HQ : Hid (∀ W, Calls Try.prog 12 #[.int .i64 n] W fun e w' => e = .returned (.tuple #[.int .i64 qa, .int .u8 qb]) ∧ Below W.heap.size W w'))
    (H : (1 ≤ m ∧ m ≤ 128 ∧ 0 ≤ pa ∧ pa ≤ 15 ∧ 1 ≤ pb) ∧ 128 < n) :
    Calls Try.prog 7 #[.int .i64 m, .int .i64 n] w fun e w' => e = .returned (.bool true) ∧ Below w.heap.size w w' := by
  have a1 : decide (1 ≤ m) = true := decide_eq_true (by omega)
  have a2 : decide (m ≤ 128) = true := decide_eq_true (by omega)
  have a3 : (pb != 0) = true := bne_iff_ne.2 (by omega)
  have a4 : (pb == 0) = false := beq_eq_false_iff_ne.2 (by omega)
  have a5 : decide (pa < 0) = false := decide_eq_false (by omega)
  have a6 : decide (15 < pa) = false := decide_eq_false (by omega)
  have b1 : decide (n < 1) = false := decide_eq_false (by omega)
  have b2 : decide (128 < n) = true := decide_eq_true (by omega)
  clear H
  go_enter Try.func7, Try.ntmps7
  go_wp2_with fail
  refine (shown_ok _).mono ?_
  rintro e w1 ⟨rfl, hb⟩
  have HB1 := Lib.hid hb
  clear hb
  go_wp2_with fail
  refine (HP.out _).mono ?_
  rintro e w2 ⟨rfl, hb⟩
  have HB2 := Lib.hid (HB1.out.trans (hb.mono HB1.out.size))
  clear hb
  go_wp2_with fail
  refine (HQ.out _).mono ?_
  rintro e w3 ⟨rfl, hb⟩
  have HB3 := Lib.hid (HB2.out.trans (hb.mono HB2.out.size))
  clear hb
  go_wp2_with fail
  go_ret
  exact ⟨rfl, HB3.out⟩

set_option maxRecDepth 100000 in
set_option maxHeartbeats 8000000 in
theorem walk_same (m n : Int) (w : World) (pa pb qa qb : Int) (HP : Hid (∀ W, Calls Try.prog 12 #[.int .i64 m] W fun e w' => e = .returned (.tuple #[.int .i64 pa, .int .u8 pb]) ∧ Below W.heap.size W w')) (HQ : Hid (∀ W, Calls Try.prog 12 #[.int .i64 n] W fun e w' => e = .returned (.tuple #[.int .i64 qa, .int .u8 qb]) ∧ Below W.heap.size W w'))
    (H : (1 ≤ m ∧ m ≤ 128 ∧ 0 ≤ pa ∧ pa ≤ 15 ∧ 1 ≤ pb) ∧ 1 ≤ n ∧ n ≤ 128 ∧ m = n ∧ pa = qa ∧ pb = qb) :
    Calls Try.prog 7 #[.int .i64 m, .int .i64 n] w fun e w' => e = .returned (.bool true) ∧ Below w.heap.size w w' := by
  have a1 : decide (1 ≤ m) = true := decide_eq_true (by omega)
  have a2 : decide (m ≤ 128) = true := decide_eq_true (by omega)
  have a3 : (pb != 0) = true := bne_iff_ne.2 (by omega)
  have a4 : (pb == 0) = false := beq_eq_false_iff_ne.2 (by omega)
  have a5 : decide (pa < 0) = false := decide_eq_false (by omega)
  have a6 : decide (15 < pa) = false := decide_eq_false (by omega)
  have b1 : decide (n < 1) = false := decide_eq_false (by omega)
  have b2 : decide (128 < n) = false := decide_eq_false (by omega)
  have c1 : (pa == qa) = true := beq_iff_eq.2 (by omega)
  have c2 : (pb == qb) = true := beq_iff_eq.2 (by omega)
  have c3 : (m == n) = true := beq_iff_eq.2 (by omega)
  have c4 : decide (n < m) = false := decide_eq_false (by omega)
  have c5 : decide (pa < qa) = false := decide_eq_false (by omega)
  have c6 : decide (qb ≤ pb) = true := decide_eq_true (by omega)
  clear H
  go_enter Try.func7, Try.ntmps7
  go_wp2_with fail
  refine (shown_ok _).mono ?_
  rintro e w1 ⟨rfl, hb⟩
  have HB1 := Lib.hid hb
  clear hb
  go_wp2_with fail
  refine (HP.out _).mono ?_
  rintro e w2 ⟨rfl, hb⟩
  have HB2 := Lib.hid (HB1.out.trans (hb.mono HB1.out.size))
  clear hb
  go_wp2_with fail
  refine (HQ.out _).mono ?_
  rintro e w3 ⟨rfl, hb⟩
  have HB3 := Lib.hid (HB2.out.trans (hb.mono HB2.out.size))
  clear hb
  go_wp2_with fail
  go_ret
  exact ⟨rfl, HB3.out⟩

set_option maxRecDepth 100000 in
set_option maxHeartbeats 8000000 in
theorem walk_lt1 (m n : Int) (w : World) (pa pb qa qb : Int) (HP : Hid (∀ W, Calls Try.prog 12 #[.int .i64 m] W fun e w' => e = .returned (.tuple #[.int .i64 pa, .int .u8 pb]) ∧ Below W.heap.size W w')) (HQ : Hid (∀ W, Calls Try.prog 12 #[.int .i64 n] W fun e w' => e = .returned (.tuple #[.int .i64 qa, .int .u8 qb]) ∧ Below W.heap.size W w'))
    (H : (1 ≤ m ∧ m ≤ 128 ∧ 0 ≤ pa ∧ pa ≤ 15 ∧ 1 ≤ pb) ∧ 1 ≤ n ∧ n ≤ 128 ∧ m < n ∧ pa < qa) :
    Calls Try.prog 7 #[.int .i64 m, .int .i64 n] w fun e w' => e = .returned (.bool true) ∧ Below w.heap.size w w' := by
  have a1 : decide (1 ≤ m) = true := decide_eq_true (by omega)
  have a2 : decide (m ≤ 128) = true := decide_eq_true (by omega)
  have a3 : (pb != 0) = true := bne_iff_ne.2 (by omega)
  have a4 : (pb == 0) = false := beq_eq_false_iff_ne.2 (by omega)
  have a5 : decide (pa < 0) = false := decide_eq_false (by omega)
  have a6 : decide (15 < pa) = false := decide_eq_false (by omega)
  have b1 : decide (n < 1) = false := decide_eq_false (by omega)
  have b2 : decide (128 < n) = false := decide_eq_false (by omega)
  have c1 : (pa == qa) = false := beq_eq_false_iff_ne.2 (by omega)
  have c3 : (m == n) = false := beq_eq_false_iff_ne.2 (by omega)
  have c4 : decide (n < m) = false := decide_eq_false (by omega)
  have c5 : decide (pa < qa) = true := decide_eq_true (by omega)
  clear H
  go_enter Try.func7, Try.ntmps7
  go_wp2_with fail
  refine (shown_ok _).mono ?_
  rintro e w1 ⟨rfl, hb⟩
  have HB1 := Lib.hid hb
  clear hb
  go_wp2_with fail
  refine (HP.out _).mono ?_
  rintro e w2 ⟨rfl, hb⟩
  have HB2 := Lib.hid (HB1.out.trans (hb.mono HB1.out.size))
  clear hb
  go_wp2_with fail
  refine (HQ.out _).mono ?_
  rintro e w3 ⟨rfl, hb⟩
  have HB3 := Lib.hid (HB2.out.trans (hb.mono HB2.out.size))
  clear hb
  go_wp2_with fail
  go_ret
  exact ⟨rfl, HB3.out⟩

set_option maxRecDepth 100000 in
set_option maxHeartbeats 8000000 in
theorem walk_lt2 (m n : Int) (w : World) (pa pb qa qb : Int) (HP : Hid (∀ W, Calls Try.prog 12 #[.int .i64 m] W fun e w' => e = .returned (.tuple #[.int .i64 pa, .int .u8 pb]) ∧ Below W.heap.size W w')) (HQ : Hid (∀ W, Calls Try.prog 12 #[.int .i64 n] W fun e w' => e = .returned (.tuple #[.int .i64 qa, .int .u8 qb]) ∧ Below W.heap.size W w'))
    (H : (1 ≤ m ∧ m ≤ 128 ∧ 0 ≤ pa ∧ pa ≤ 15 ∧ 1 ≤ pb) ∧ 1 ≤ n ∧ n ≤ 128 ∧ m < n ∧ pa = qa ∧ qb < pb) :
    Calls Try.prog 7 #[.int .i64 m, .int .i64 n] w fun e w' => e = .returned (.bool true) ∧ Below w.heap.size w w' := by
  have a1 : decide (1 ≤ m) = true := decide_eq_true (by omega)
  have a2 : decide (m ≤ 128) = true := decide_eq_true (by omega)
  have a3 : (pb != 0) = true := bne_iff_ne.2 (by omega)
  have a4 : (pb == 0) = false := beq_eq_false_iff_ne.2 (by omega)
  have a5 : decide (pa < 0) = false := decide_eq_false (by omega)
  have a6 : decide (15 < pa) = false := decide_eq_false (by omega)
  have b1 : decide (n < 1) = false := decide_eq_false (by omega)
  have b2 : decide (128 < n) = false := decide_eq_false (by omega)
  have c1 : (pa == qa) = true := beq_iff_eq.2 (by omega)
  have c2 : (pb == qb) = false := beq_eq_false_iff_ne.2 (by omega)
  have c3 : (m == n) = false := beq_eq_false_iff_ne.2 (by omega)
  have c4 : decide (n < m) = false := decide_eq_false (by omega)
  have c5 : decide (pa < qa) = false := decide_eq_false (by omega)
  have c6 : decide (qb ≤ pb) = true := decide_eq_true (by omega)
  clear H
  go_enter Try.func7, Try.ntmps7
  go_wp2_with fail
  refine (shown_ok _).mono ?_
  rintro e w1 ⟨rfl, hb⟩
  have HB1 := Lib.hid hb
  clear hb
  go_wp2_with fail
  refine (HP.out _).mono ?_
  rintro e w2 ⟨rfl, hb⟩
  have HB2 := Lib.hid (HB1.out.trans (hb.mono HB1.out.size))
  clear hb
  go_wp2_with fail
  refine (HQ.out _).mono ?_
  rintro e w3 ⟨rfl, hb⟩
  have HB3 := Lib.hid (HB2.out.trans (hb.mono HB2.out.size))
  clear hb
  go_wp2_with fail
  go_ret
  exact ⟨rfl, HB3.out⟩

set_option maxRecDepth 100000 in
set_option maxHeartbeats 8000000 in
theorem walk_gt1 (m n : Int) (w : World) (pa pb qa qb : Int) (HP : Hid (∀ W, Calls Try.prog 12 #[.int .i64 m] W fun e w' => e = .returned (.tuple #[.int .i64 pa, .int .u8 pb]) ∧ Below W.heap.size W w')) (HQ : Hid (∀ W, Calls Try.prog 12 #[.int .i64 n] W fun e w' => e = .returned (.tuple #[.int .i64 qa, .int .u8 qb]) ∧ Below W.heap.size W w'))
    (H : (1 ≤ m ∧ m ≤ 128 ∧ 0 ≤ pa ∧ pa ≤ 15 ∧ 1 ≤ pb) ∧ 1 ≤ n ∧ n ≤ 128 ∧ n < m ∧ qa < pa) :
    Calls Try.prog 7 #[.int .i64 m, .int .i64 n] w fun e w' => e = .returned (.bool true) ∧ Below w.heap.size w w' := by
  have a1 : decide (1 ≤ m) = true := decide_eq_true (by omega)
  have a2 : decide (m ≤ 128) = true := decide_eq_true (by omega)
  have a3 : (pb != 0) = true := bne_iff_ne.2 (by omega)
  have a4 : (pb == 0) = false := beq_eq_false_iff_ne.2 (by omega)
  have a5 : decide (pa < 0) = false := decide_eq_false (by omega)
  have a6 : decide (15 < pa) = false := decide_eq_false (by omega)
  have b1 : decide (n < 1) = false := decide_eq_false (by omega)
  have b2 : decide (128 < n) = false := decide_eq_false (by omega)
  have c1 : (pa == qa) = false := beq_eq_false_iff_ne.2 (by omega)
  have c3 : (m == n) = false := beq_eq_false_iff_ne.2 (by omega)
  have c4 : decide (n < m) = true := decide_eq_true (by omega)
  clear H
  go_enter Try.func7, Try.ntmps7
  go_wp2_with fail
  refine (shown_ok _).mono ?_
  rintro e w1 ⟨rfl, hb⟩
  have HB1 := Lib.hid hb
  clear hb
  go_wp2_with fail
  refine (HP.out _).mono ?_
  rintro e w2 ⟨rfl, hb⟩
  have HB2 := Lib.hid (HB1.out.trans (hb.mono HB1.out.size))
  clear hb
  go_wp2_with fail
  refine (HQ.out _).mono ?_
  rintro e w3 ⟨rfl, hb⟩
  have HB3 := Lib.hid (HB2.out.trans (hb.mono HB2.out.size))
  clear hb
  go_wp2_with fail
  go_ret
  exact ⟨rfl, HB3.out⟩

set_option maxRecDepth 100000 in
set_option maxHeartbeats 8000000 in
theorem walk_gt2 (m n : Int) (w : World) (pa pb qa qb : Int) (HP : Hid (∀ W, Calls Try.prog 12 #[.int .i64 m] W fun e w' => e = .returned (.tuple #[.int .i64 pa, .int .u8 pb]) ∧ Below W.heap.size W w')) (HQ : Hid (∀ W, Calls Try.prog 12 #[.int .i64 n] W fun e w' => e = .returned (.tuple #[.int .i64 qa, .int .u8 qb]) ∧ Below W.heap.size W w'))
    (H : (1 ≤ m ∧ m ≤ 128 ∧ 0 ≤ pa ∧ pa ≤ 15 ∧ 1 ≤ pb) ∧ 1 ≤ n ∧ n ≤ 128 ∧ n < m ∧ pa = qa ∧ pb < qb) :
    Calls Try.prog 7 #[.int .i64 m, .int .i64 n] w fun e w' => e = .returned (.bool true) ∧ Below w.heap.size w w' := by
  have a1 : decide (1 ≤ m) = true := decide_eq_true (by omega)
  have a2 : decide (m ≤ 128) = true := decide_eq_true (by omega)
  have a3 : (pb != 0) = true := bne_iff_ne.2 (by omega)
  have a4 : (pb == 0) = false := beq_eq_false_iff_ne.2 (by omega)
  have a5 : decide (pa < 0) = false := decide_eq_false (by omega)
  have a6 : decide (15 < pa) = false := decide_eq_false (by omega)
  have b1 : decide (n < 1) = false := decide_eq_false (by omega)
  have b2 : decide (128 < n) = false := decide_eq_false (by omega)
  have c1 : (pa == qa) = true := beq_iff_eq.2 (by omega)
  have c2 : (pb == qb) = false := beq_eq_false_iff_ne.2 (by omega)
  have c3 : (m == n) = false := beq_eq_false_iff_ne.2 (by omega)
  have c4 : decide (n < m) = true := decide_eq_true (by omega)
  clear H
  go_enter Try.func7, Try.ntmps7
  go_wp2_with fail
  refine (shown_ok _).mono ?_
  rintro e w1 ⟨rfl, hb⟩
  have HB1 := Lib.hid hb
  clear hb
  go_wp2_with fail
  refine (HP.out _).mono ?_
  rintro e w2 ⟨rfl, hb⟩
  have HB2 := Lib.hid (HB1.out.trans (hb.mono HB1.out.size))
  clear hb
  go_wp2_with fail
  refine (HQ.out _).mono ?_
  rintro e w3 ⟨rfl, hb⟩
  have HB3 := Lib.hid (HB2.out.trans (hb.mono HB2.out.size))
  clear hb
  go_wp2_with fail
  go_ret
  exact ⟨rfl, HB3.out⟩

theorem walk (m : Int) (_ : (Lit.int .i64 m).wf = true) (n : Int) (_ : (Lit.int .i64 n).wf = true) (w : World) :
    Calls Try.prog 7 #[.int .i64 m, .int .i64 n] w fun e w' => e = .returned (.bool true) ∧ Below w.heap.size w w' := by
  have HP := Lib.hid (place_any m)
  have HQ := Lib.hid (place_any n)
  by_cases h1 : m < 1
  · exact walk_below m n w _ _ _ _ HP HQ ⟨h1, (place_out (.inl h1)).1, (place_out (.inl h1)).2⟩
  by_cases h2 : 128 < m
  · exact walk_above m n w _ _ _ _ HP HQ ⟨h2, (place_out (.inr h2)).1, (place_out (.inr h2)).2⟩
  obtain ⟨p1, p2, p3, _⟩ := place_bd (n := m) (by omega) (by omega)
  have hin : 1 ≤ m ∧ m ≤ 128 ∧ 0 ≤ placeA m ∧ placeA m ≤ 15 ∧ 1 ≤ placeB m := ⟨by omega, by omega, p1, p2, p3⟩
  by_cases h3 : n < 1
  · exact walk_nbelow m n w _ _ _ _ HP HQ ⟨hin, h3⟩
  by_cases h4 : 128 < n
  · exact walk_nabove m n w _ _ _ _ HP HQ ⟨hin, h4⟩
  by_cases h5 : m = n
  · exact walk_same m n w _ _ _ _ HP HQ ⟨hin, by omega, by omega, h5, by rw [h5], by rw [h5]⟩
  by_cases h6 : m < n
  · rcases place_lt (m := m) (n := n) (by omega) h6 (by omega) with h | ⟨h, h'⟩
    · exact walk_lt1 m n w _ _ _ _ HP HQ ⟨hin, by omega, by omega, h6, h⟩
    · exact walk_lt2 m n w _ _ _ _ HP HQ ⟨hin, by omega, by omega, h6, h, h'⟩
  · rcases place_lt (m := n) (n := m) (by omega) (by omega) (by omega) with h | ⟨h, h'⟩
    · exact walk_gt1 m n w _ _ _ _ HP HQ ⟨hin, by omega, by omega, by omega, h⟩
    · exact walk_gt2 m n w _ _ _ _ HP HQ ⟨hin, by omega, by omega, by omega, h.symm, h'⟩

set_option maxRecDepth 100000 in
theorem lifted (os : Os) (started : os.Started) (H : Type) (enc : TypeId × Value → H) :
    ReturnsInHanded {} Try.checked os 7 .any (Rows.bitmapPlacesSpec.pre6 enc Try.prog Try.f7 Rows.bitmapPlacesRow.domain false) (Rows.bitmapPlacesSpec.post enc Try.prog Try.f7 false true false false) := by
  refine returnsInHanded_of_change (C := Try.checked) own started (by kernel_rfl) Try.func7
    (ChangeSpec.witness6 (enc := enc) (C := Try.checked) false ⟨#[], #[.int .i64 0, .int .i64 0], []⟩ 8 (by kernel_rfl) (by kernel_rfl) (by kernel_rfl) (by kernel_rfl)) ?_
  intro W base args ds gs before hval0 hW _ _
  have hval : ∀ (j : Nat) t v, Try.f7.params[j]? = some t → args[j]? = some v → Value.okWide Try.prog W .any base t v := hval0
  have hW' := hW
  obtain ⟨p, q, hA0, hV, rfl, _, _⟩ := hW
  have hA : DataW.TrodAll enc Try.prog W 0 (fun _ => true) true Try.f7.params.toList args.toList ds p := hA0
  rw [Try.params7] at hA hval
  obtain ⟨v0, vs0, d0, ds0, p0, q0, hargs, rfl, rfl, h0, r0x⟩ := trodAll_cons hA
  obtain ⟨v1, vs1, d1, ds1, p1, q1, rfl, rfl, rfl, h1, r1x⟩ := trodAll_cons r0x
  obtain ⟨rfl, rfl, rfl⟩ := trodAll_nil r1x
  obtain rfl : args = #[v0, v1] := by cases args; simp_all
  obtain ⟨a0, rfl, rfl, rfl, w0⟩ := open_int Try.underlying3 (hval 0 3 v0 rfl rfl) h0
  obtain ⟨a1, rfl, rfl, rfl, w1⟩ := open_int Try.underlying3 (hval 1 3 v1 rfl rfl) h1
  clear hA0 hval0
  refine (walk a0 w0 a1 w1 W).mono fun e W' ⟨he, hg⟩ => ?_
  subst he
  exact ⟨_, rfl, law_post hW' rfl rfl (fun h => by subst h; exact ⟨rfl, rfl, rfl⟩) (by rw [Try.params7]; intro t ht; simp at ht; rcases ht with rfl | rfl <;> exact ⟨by kernel_rfl, of_decide_eq_true (by kernel_rfl)⟩) hg⟩

theorem over : Rows.bitmapPlacesRow.holds Try.pinned (OpenSpec.ofChange Rows.bitmapPlacesSpec) :=
  OpenClaim.holds_of_wide 7 Try.f7 rfl rfl rfl rfl rfl rfl rfl ⟨rfl, rfl, rfl, rfl, rfl⟩ rfl rfl rfl rfl rfl (by kernel_rfl) Try.func7 (by kernel_rfl)
    (of_decide_eq_true (by kernel_rfl)) (by unfold Func.isWrapper; first | (rw [if_pos (by decide +kernel)]; kernel_rfl) | (rw [if_neg (by decide +kernel)]; exact ⟨rfl, rfl⟩))
    (fun os started H enc _ => lifted os started H enc)

theorem proved : Rows.BitmapPlacesSaid :=
  over
#print axioms proved
end bitmapPlaces
end Go.Proofs.Ytalmgpcffbccoaa
