/- QueueEnds: with room for as many as wait one more is refused, with room for one more it is not; a room below 1, or above 64, is refused, whatever waits; taken behind it was put, a lone message leaves nothing. -/
import Derived.Test.YtlkpnecionpnhaaK
namespace Go.Proofs.Ytlkpnecionpnhaa
open Go.ChangeShapes Go.WideShapes Go.ChangeAt Go.RowKit
namespace queueEnds

set_option maxRecDepth 100000 in
set_option maxHeartbeats 8000000 in
theorem walk_low (A : Option Addr) (q : List Msg) (c : Nat) (B : Option Addr) (xs : List Int) (cb : Nat) (room : Int) (w : World) (hq : Rq w A q) (hb : Rb w B xs) (H : q.length < 1) :
    Calls Try.prog 6 #[.slice A q.length c, .slice B xs.length cb, .int .i64 room] w fun e w' => e = .returned (.bool true) ∧ Below w.heap.size w w' := by
  have hm := hq.len
  have hm2 := hb.len
  unfold maxLen at hm hm2
  have HQ := Lib.hid hq
  have HX := Lib.hid hb
  have a1 : decide (q.length < 1) = true := decide_eq_true (by omega)
  have a1i : decide ((q.length : Int) < 1) = true := decide_eq_true (by omega)
  clear hq hb H
  go_enter Try.func6, Try.ntmps6
  go_wp2_with fail
  refine (shown_ok _).mono ?_
  rintro e w1 ⟨rfl, hb⟩
  have HB1 := Lib.hid hb
  have HQ1 := Lib.hid (HQ.out.below hb)
  have HX1 := Lib.hid (HX.out.below hb)
  clear hb
  go_wp2_with fail
  go_ret
  exact ⟨rfl, HB1.out⟩

set_option maxRecDepth 100000 in
set_option maxHeartbeats 8000000 in
theorem walk_high (A : Option Addr) (q : List Msg) (c : Nat) (B : Option Addr) (xs : List Int) (cb : Nat) (room : Int) (w : World) (hq : Rq w A q) (hb : Rb w B xs) (H : 63 < q.length) :
    Calls Try.prog 6 #[.slice A q.length c, .slice B xs.length cb, .int .i64 room] w fun e w' => e = .returned (.bool true) ∧ Below w.heap.size w w' := by
  have hm := hq.len
  have hm2 := hb.len
  unfold maxLen at hm hm2
  have HQ := Lib.hid hq
  have HX := Lib.hid hb
  have a1 : decide (q.length < 1) = false := decide_eq_false (by omega)
  have a1i : decide ((q.length : Int) < 1) = false := decide_eq_false (by omega)
  have a2 : decide (63 < q.length) = true := decide_eq_true (by omega)
  have a2i : decide ((63 : Int) < q.length) = true := decide_eq_true (by omega)
  clear hq hb H
  go_enter Try.func6, Try.ntmps6
  go_wp2_with fail
  refine (shown_ok _).mono ?_
  rintro e w1 ⟨rfl, hb⟩
  have HB1 := Lib.hid hb
  have HQ1 := Lib.hid (HQ.out.below hb)
  have HX1 := Lib.hid (HX.out.below hb)
  clear hb
  go_wp2_with fail
  go_ret
  exact ⟨rfl, HB1.out⟩

set_option maxRecDepth 100000 in
set_option maxHeartbeats 8000000 in
theorem walk_long (A : Option Addr) (q : List Msg) (c : Nat) (B : Option Addr) (xs : List Int) (cb : Nat) (room : Int) (w : World) (hq : Rq w A q) (hb : Rb w B xs) (H : 1 ≤ q.length ∧ q.length ≤ 63 ∧ 100 < xs.length) :
    Calls Try.prog 6 #[.slice A q.length c, .slice B xs.length cb, .int .i64 room] w fun e w' => e = .returned (.bool true) ∧ Below w.heap.size w w' := by
  have hm := hq.len
  have hm2 := hb.len
  unfold maxLen at hm hm2
  have HQ := Lib.hid hq
  have HX := Lib.hid hb
  have a1 : decide (q.length < 1) = false := decide_eq_false (by omega)
  have a1i : decide ((q.length : Int) < 1) = false := decide_eq_false (by omega)
  have a2 : decide (63 < q.length) = false := decide_eq_false (by omega)
  have a2i : decide ((63 : Int) < q.length) = false := decide_eq_false (by omega)
  have dn : decide (100 < xs.length) = true := decide_eq_true (by omega)
  have di : decide ((100 : Int) < xs.length) = true := decide_eq_true (by omega)
  clear hq hb H
  go_enter Try.func6, Try.ntmps6
  go_wp2_with fail
  refine (shown_ok _).mono ?_
  rintro e w1 ⟨rfl, hb⟩
  have HB1 := Lib.hid hb
  have HQ1 := Lib.hid (HQ.out.below hb)
  have HX1 := Lib.hid (HX.out.below hb)
  clear hb
  go_wp2_with fail
  refine (long_any A q c 1000 w1 HQ1.out (by omega) (by omega)).mono ?_
  rintro e w2 ⟨n1, rfl, rfl, _⟩
  by_cases hn1 : 1000 < n1
  · have t1 : decide (1000 < n1) = true := decide_eq_true hn1
    go_wp2_with fail
    go_ret
    exact ⟨rfl, HB1.out⟩
  have t1 : decide (1000 < n1) = false := decide_eq_false hn1
  go_wp2_with fail
  go_ret
  exact ⟨rfl, HB1.out⟩

set_option maxRecDepth 100000 in
set_option maxHeartbeats 8000000 in
theorem walk_zlow (A : Option Addr) (q : List Msg) (c : Nat) (B : Option Addr) (xs : List Int) (cb : Nat) (room : Int) (w : World) (hq : Rq w A q) (hcq : q.length ≤ c) (hb : Rb w B xs) (H1 : 1 ≤ q.length) (H2 : q.length ≤ 63) (H3 : xs.length ≤ 100) (H : room < 1) :
    Calls Try.prog 6 #[.slice A q.length c, .slice B xs.length cb, .int .i64 room] w fun e w' => e = .returned (.bool true) ∧ Below w.heap.size w w' := by
  have hm := hq.len
  have hm2 := hb.len
  unfold maxLen at hm hm2
  have HQ := Lib.hid hq
  have HX := Lib.hid hb
  have HP1 : Hid (∀ W, Rq W A q → Rb W B xs → Calls Try.prog 9 #[.slice A q.length c, .slice B xs.length cb, .int .i64 (q.length : Int)] W (GivesQ q 8 W)) := Lib.hid (fun W h hx => by
    have := put_any A q c B xs cb (q.length : Int) W h hcq (by omega) hx
    unfold putQ at this
    rwa [if_neg (by omega), if_pos (by omega)] at this)
  have HP2 : Hid (∀ W, Rq W A q → Rb W B xs → Calls Try.prog 9 #[.slice A q.length c, .slice B xs.length cb, .int .i64 ((q.length : Int) + 1)] W (GivesQ (q ++ [⟨B, xs, cb⟩]) 0 W)) := Lib.hid (fun W h hx => by
    have := put_any A q c B xs cb ((q.length : Int) + 1) W h hcq (by omega) hx
    unfold putQ at this
    rwa [if_neg (by omega), if_neg (by omega)] at this)
  have HP3 : Hid (∀ W, Rq W A q → Rb W B xs → Calls Try.prog 9 #[.slice A q.length c, .slice B xs.length cb, .int .i64 room] W (GivesQ q 1 W)) := Lib.hid (fun W h hx => by
    have := put_any A q c B xs cb room W h hcq (by omega) hx
    unfold putQ at this
    rwa [if_pos (by omega)] at this)
  have HP4 : Hid (∀ W, Rb W B xs → Calls Try.prog 9 #[.slice none 0 0, .slice B xs.length cb, .int .i64 1] W (GivesQ [⟨B, xs, cb⟩] 0 W)) := Lib.hid (fun W hx => put_any none [] 0 B xs cb 1 W (Rq.nil _ _) (Nat.le_refl _) (by simp) hx)
  have a1 : decide (q.length < 1) = false := decide_eq_false (by omega)
  have a1i : decide ((q.length : Int) < 1) = false := decide_eq_false (by omega)
  have a2 : decide (63 < q.length) = false := decide_eq_false (by omega)
  have a2i : decide ((63 : Int) < q.length) = false := decide_eq_false (by omega)
  have dn : decide (100 < xs.length) = false := decide_eq_false (by omega)
  have di : decide ((100 : Int) < xs.length) = false := decide_eq_false (by omega)
  have r1 : decide (room < 1) = true := decide_eq_true (by omega)
  clear hq hb hcq H
  go_enter Try.func6, Try.ntmps6
  go_wp2_with fail
  refine (shown_ok _).mono ?_
  rintro e w1 ⟨rfl, hb⟩
  have HB1 := Lib.hid hb
  have HQ1 := Lib.hid (HQ.out.below hb)
  have HX1 := Lib.hid (HX.out.below hb)
  clear hb
  go_wp2_with fail
  refine (long_any A q c 1000 w1 HQ1.out (by omega) (by omega)).mono ?_
  rintro e w2 ⟨n1, rfl, rfl, _⟩
  by_cases hn1 : 1000 < n1
  · have t1 : decide (1000 < n1) = true := decide_eq_true hn1
    go_wp2_with fail
    go_ret
    exact ⟨rfl, HB1.out⟩
  have t1 : decide (1000 < n1) = false := decide_eq_false hn1
  go_wp2_with fail
  refine (HP1.out _ HQ1.out HX1.out).mono ?_
  rintro e w3 ⟨B3, c3, rfl, _, h3, hb⟩
  have HR3 : Hid (Rq w3 B3 q) := Lib.hid h3
  have HQ3 := Lib.hid (HQ1.out.below hb)
  have HX3 := Lib.hid (HX1.out.below hb)
  have HB3 := Lib.hid (HB1.out.trans (hb.mono HB1.out.size))
  clear hb h3
  go_wp2_with fail
  refine (HP2.out _ HQ3.out HX3.out).mono ?_
  rintro e w4 ⟨B4, c4, rfl, _, _, hb⟩
  have HQ4 := Lib.hid (HQ3.out.below hb)
  have HX4 := Lib.hid (HX3.out.below hb)
  have HR4 := Lib.hid (HR3.out.below hb)
  have HB4 := Lib.hid (HB3.out.trans (hb.mono HB3.out.size))
  clear hb
  go_wp2_with fail
  refine (HP3.out _ HQ4.out HX4.out).mono ?_
  rintro e w5 ⟨B5, c5, rfl, _, h5, hb⟩
  have HZ5 := Lib.hid h5
  have HQ5 := Lib.hid (HQ4.out.below hb)
  have HX5 := Lib.hid (HX4.out.below hb)
  have HR5 := Lib.hid (HR4.out.below hb)
  have HB5 := Lib.hid (HB4.out.trans (hb.mono HB4.out.size))
  clear hb h5
  go_wp2_with fail
  refine (HP4.out _ HX5.out).mono ?_
  rintro e w6 ⟨B6, c6, rfl, hc6, h6, hb⟩
  have HO6 := Lib.hid h6
  have HC6 := Lib.hid hc6
  have HQ6 := Lib.hid (HQ5.out.below hb)
  have HX6 := Lib.hid (HX5.out.below hb)
  have HR6 := Lib.hid (HR5.out.below hb)
  have HZ6 := Lib.hid (HZ5.out.below hb)
  have HB6 := Lib.hid (HB5.out.trans (hb.mono HB5.out.size))
  clear hb h6 hc6
  go_wp2_with fail
  refine (take_cons B6 B xs cb [] c6 w6 HO6.out HC6.out (by simp)).mono ?_
  rintro e w7 ⟨B7, c7, rfl, _, _, hb⟩
  have HQ7 := Lib.hid (HQ6.out.below hb)
  have HX7 := Lib.hid (HX6.out.below hb)
  have HR7 := Lib.hid (HR6.out.below hb)
  have HZ7 := Lib.hid (HZ6.out.below hb)
  have HB7 := Lib.hid (HB6.out.trans (hb.mono HB6.out.size))
  clear hb
  unfold Msg.v
  go_wp2_with fail
  refine (rows_any B3 q c3 A q c w7 HR7.out HQ7.out).mono ?_
  rw [rows_self]
  rintro e w8 ⟨rfl, hb⟩
  have HQ8 := Lib.hid (HQ7.out.below hb)
  have HX8 := Lib.hid (HX7.out.below hb)
  have HZ8 := Lib.hid (HZ7.out.below hb)
  have HB8 := Lib.hid (HB7.out.trans (hb.mono HB7.out.size))
  clear hb
  go_wp2_with fail
  refine (rsame_any B B xs xs cb cb w8 HX8.out HX8.out).mono ?_
  rw [show sameL xs xs = true by unfold sameL; simp]
  rintro e w9 ⟨rfl, rfl⟩
  go_wp2_with fail
  refine (rows_any B5 q c5 A q c w9 HZ8.out HQ8.out).mono ?_
  rw [rows_self]
  rintro e wa ⟨rfl, hb⟩
  have HBa := Lib.hid (HB8.out.trans (hb.mono HB8.out.size))
  clear hb
  go_wp2_with fail
  go_ret
  exact ⟨rfl, HBa.out⟩

set_option maxRecDepth 100000 in
set_option maxHeartbeats 8000000 in
theorem walk_zhigh (A : Option Addr) (q : List Msg) (c : Nat) (B : Option Addr) (xs : List Int) (cb : Nat) (room : Int) (w : World) (hq : Rq w A q) (hcq : q.length ≤ c) (hb : Rb w B xs) (H1 : 1 ≤ q.length) (H2 : q.length ≤ 63) (H3 : xs.length ≤ 100) (H : 64 < room) :
    Calls Try.prog 6 #[.slice A q.length c, .slice B xs.length cb, .int .i64 room] w fun e w' => e = .returned (.bool true) ∧ Below w.heap.size w w' := by
  have hm := hq.len
  have hm2 := hb.len
  unfold maxLen at hm hm2
  have HQ := Lib.hid hq
  have HX := Lib.hid hb
  have HP1 : Hid (∀ W, Rq W A q → Rb W B xs → Calls Try.prog 9 #[.slice A q.length c, .slice B xs.length cb, .int .i64 (q.length : Int)] W (GivesQ q 8 W)) := Lib.hid (fun W h hx => by
    have := put_any A q c B xs cb (q.length : Int) W h hcq (by omega) hx
    unfold putQ at this
    rwa [if_neg (by omega), if_pos (by omega)] at this)
  have HP2 : Hid (∀ W, Rq W A q → Rb W B xs → Calls Try.prog 9 #[.slice A q.length c, .slice B xs.length cb, .int .i64 ((q.length : Int) + 1)] W (GivesQ (q ++ [⟨B, xs, cb⟩]) 0 W)) := Lib.hid (fun W h hx => by
    have := put_any A q c B xs cb ((q.length : Int) + 1) W h hcq (by omega) hx
    unfold putQ at this
    rwa [if_neg (by omega), if_neg (by omega)] at this)
  have HP3 : Hid (∀ W, Rq W A q → Rb W B xs → Calls Try.prog 9 #[.slice A q.length c, .slice B xs.length cb, .int .i64 room] W (GivesQ q 1 W)) := Lib.hid (fun W h hx => by
    have := put_any A q c B xs cb room W h hcq (by omega) hx
    unfold putQ at this
    rwa [if_pos (by omega)] at this)
  have HP4 : Hid (∀ W, Rb W B xs → Calls Try.prog 9 #[.slice none 0 0, .slice B xs.length cb, .int .i64 1] W (GivesQ [⟨B, xs, cb⟩] 0 W)) := Lib.hid (fun W hx => put_any none [] 0 B xs cb 1 W (Rq.nil _ _) (Nat.le_refl _) (by simp) hx)
  have a1 : decide (q.length < 1) = false := decide_eq_false (by omega)
  have a1i : decide ((q.length : Int) < 1) = false := decide_eq_false (by omega)
  have a2 : decide (63 < q.length) = false := decide_eq_false (by omega)
  have a2i : decide ((63 : Int) < q.length) = false := decide_eq_false (by omega)
  have dn : decide (100 < xs.length) = false := decide_eq_false (by omega)
  have di : decide ((100 : Int) < xs.length) = false := decide_eq_false (by omega)
  have r1 : decide (room < 1) = false := decide_eq_false (by omega)
  have r2 : decide (64 < room) = true := decide_eq_true (by omega)
  clear hq hb hcq H
  go_enter Try.func6, Try.ntmps6
  go_wp2_with fail
  refine (shown_ok _).mono ?_
  rintro e w1 ⟨rfl, hb⟩
  have HB1 := Lib.hid hb
  have HQ1 := Lib.hid (HQ.out.below hb)
  have HX1 := Lib.hid (HX.out.below hb)
  clear hb
  go_wp2_with fail
  refine (long_any A q c 1000 w1 HQ1.out (by omega) (by omega)).mono ?_
  rintro e w2 ⟨n1, rfl, rfl, _⟩
  by_cases hn1 : 1000 < n1
  · have t1 : decide (1000 < n1) = true := decide_eq_true hn1
    go_wp2_with fail
    go_ret
    exact ⟨rfl, HB1.out⟩
  have t1 : decide (1000 < n1) = false := decide_eq_false hn1
  go_wp2_with fail
  refine (HP1.out _ HQ1.out HX1.out).mono ?_
  rintro e w3 ⟨B3, c3, rfl, _, h3, hb⟩
  have HR3 : Hid (Rq w3 B3 q) := Lib.hid h3
  have HQ3 := Lib.hid (HQ1.out.below hb)
  have HX3 := Lib.hid (HX1.out.below hb)
  have HB3 := Lib.hid (HB1.out.trans (hb.mono HB1.out.size))
  clear hb h3
  go_wp2_with fail
  refine (HP2.out _ HQ3.out HX3.out).mono ?_
  rintro e w4 ⟨B4, c4, rfl, _, _, hb⟩
  have HQ4 := Lib.hid (HQ3.out.below hb)
  have HX4 := Lib.hid (HX3.out.below hb)
  have HR4 := Lib.hid (HR3.out.below hb)
  have HB4 := Lib.hid (HB3.out.trans (hb.mono HB3.out.size))
  clear hb
  go_wp2_with fail
  refine (HP3.out _ HQ4.out HX4.out).mono ?_
  rintro e w5 ⟨B5, c5, rfl, _, h5, hb⟩
  have HZ5 := Lib.hid h5
  have HQ5 := Lib.hid (HQ4.out.below hb)
  have HX5 := Lib.hid (HX4.out.below hb)
  have HR5 := Lib.hid (HR4.out.below hb)
  have HB5 := Lib.hid (HB4.out.trans (hb.mono HB4.out.size))
  clear hb h5
  go_wp2_with fail
  refine (HP4.out _ HX5.out).mono ?_
  rintro e w6 ⟨B6, c6, rfl, hc6, h6, hb⟩
  have HO6 := Lib.hid h6
  have HC6 := Lib.hid hc6
  have HQ6 := Lib.hid (HQ5.out.below hb)
  have HX6 := Lib.hid (HX5.out.below hb)
  have HR6 := Lib.hid (HR5.out.below hb)
  have HZ6 := Lib.hid (HZ5.out.below hb)
  have HB6 := Lib.hid (HB5.out.trans (hb.mono HB5.out.size))
  clear hb h6 hc6
  go_wp2_with fail
  refine (take_cons B6 B xs cb [] c6 w6 HO6.out HC6.out (by simp)).mono ?_
  rintro e w7 ⟨B7, c7, rfl, _, _, hb⟩
  have HQ7 := Lib.hid (HQ6.out.below hb)
  have HX7 := Lib.hid (HX6.out.below hb)
  have HR7 := Lib.hid (HR6.out.below hb)
  have HZ7 := Lib.hid (HZ6.out.below hb)
  have HB7 := Lib.hid (HB6.out.trans (hb.mono HB6.out.size))
  clear hb
  unfold Msg.v
  go_wp2_with fail
  refine (rows_any B3 q c3 A q c w7 HR7.out HQ7.out).mono ?_
  rw [rows_self]
  rintro e w8 ⟨rfl, hb⟩
  have HQ8 := Lib.hid (HQ7.out.below hb)
  have HX8 := Lib.hid (HX7.out.below hb)
  have HZ8 := Lib.hid (HZ7.out.below hb)
  have HB8 := Lib.hid (HB7.out.trans (hb.mono HB7.out.size))
  clear hb
  go_wp2_with fail
  refine (rsame_any B B xs xs cb cb w8 HX8.out HX8.out).mono ?_
  rw [show sameL xs xs = true by unfold sameL; simp]
  rintro e w9 ⟨rfl, rfl⟩
  go_wp2_with fail
  refine (rows_any B5 q c5 A q c w9 HZ8.out HQ8.out).mono ?_
  rw [rows_self]
  rintro e wa ⟨rfl, hb⟩
  have HBa := Lib.hid (HB8.out.trans (hb.mono HB8.out.size))
  clear hb
  go_wp2_with fail
  go_ret
  exact ⟨rfl, HBa.out⟩

set_option maxRecDepth 100000 in
set_option maxHeartbeats 8000000 in
theorem walk_zfull (A : Option Addr) (q : List Msg) (c : Nat) (B : Option Addr) (xs : List Int) (cb : Nat) (room : Int) (w : World) (hq : Rq w A q) (hcq : q.length ≤ c) (hb : Rb w B xs) (H1 : 1 ≤ q.length) (H2 : q.length ≤ 63) (H3 : xs.length ≤ 100) (H : 1 ≤ room ∧ room ≤ q.length) :
    Calls Try.prog 6 #[.slice A q.length c, .slice B xs.length cb, .int .i64 room] w fun e w' => e = .returned (.bool true) ∧ Below w.heap.size w w' := by
  have hm := hq.len
  have hm2 := hb.len
  unfold maxLen at hm hm2
  have HQ := Lib.hid hq
  have HX := Lib.hid hb
  have HP1 : Hid (∀ W, Rq W A q → Rb W B xs → Calls Try.prog 9 #[.slice A q.length c, .slice B xs.length cb, .int .i64 (q.length : Int)] W (GivesQ q 8 W)) := Lib.hid (fun W h hx => by
    have := put_any A q c B xs cb (q.length : Int) W h hcq (by omega) hx
    unfold putQ at this
    rwa [if_neg (by omega), if_pos (by omega)] at this)
  have HP2 : Hid (∀ W, Rq W A q → Rb W B xs → Calls Try.prog 9 #[.slice A q.length c, .slice B xs.length cb, .int .i64 ((q.length : Int) + 1)] W (GivesQ (q ++ [⟨B, xs, cb⟩]) 0 W)) := Lib.hid (fun W h hx => by
    have := put_any A q c B xs cb ((q.length : Int) + 1) W h hcq (by omega) hx
    unfold putQ at this
    rwa [if_neg (by omega), if_neg (by omega)] at this)
  have HP3 : Hid (∀ W, Rq W A q → Rb W B xs → Calls Try.prog 9 #[.slice A q.length c, .slice B xs.length cb, .int .i64 room] W (GivesQ q 8 W)) := Lib.hid (fun W h hx => by
    have := put_any A q c B xs cb room W h hcq (by omega) hx
    unfold putQ at this
    rwa [if_neg (by omega), if_pos (by omega)] at this)
  have HP4 : Hid (∀ W, Rb W B xs → Calls Try.prog 9 #[.slice none 0 0, .slice B xs.length cb, .int .i64 1] W (GivesQ [⟨B, xs, cb⟩] 0 W)) := Lib.hid (fun W hx => put_any none [] 0 B xs cb 1 W (Rq.nil _ _) (Nat.le_refl _) (by simp) hx)
  have a1 : decide (q.length < 1) = false := decide_eq_false (by omega)
  have a1i : decide ((q.length : Int) < 1) = false := decide_eq_false (by omega)
  have a2 : decide (63 < q.length) = false := decide_eq_false (by omega)
  have a2i : decide ((63 : Int) < q.length) = false := decide_eq_false (by omega)
  have dn : decide (100 < xs.length) = false := decide_eq_false (by omega)
  have di : decide ((100 : Int) < xs.length) = false := decide_eq_false (by omega)
  have r1 : decide (room < 1) = false := decide_eq_false (by omega)
  have r2 : decide (64 < room) = false := decide_eq_false (by omega)
  clear hq hb hcq H
  go_enter Try.func6, Try.ntmps6
  go_wp2_with fail
  refine (shown_ok _).mono ?_
  rintro e w1 ⟨rfl, hb⟩
  have HB1 := Lib.hid hb
  have HQ1 := Lib.hid (HQ.out.below hb)
  have HX1 := Lib.hid (HX.out.below hb)
  clear hb
  go_wp2_with fail
  refine (long_any A q c 1000 w1 HQ1.out (by omega) (by omega)).mono ?_
  rintro e w2 ⟨n1, rfl, rfl, _⟩
  by_cases hn1 : 1000 < n1
  · have t1 : decide (1000 < n1) = true := decide_eq_true hn1
    go_wp2_with fail
    go_ret
    exact ⟨rfl, HB1.out⟩
  have t1 : decide (1000 < n1) = false := decide_eq_false hn1
  go_wp2_with fail
  refine (HP1.out _ HQ1.out HX1.out).mono ?_
  rintro e w3 ⟨B3, c3, rfl, _, h3, hb⟩
  have HR3 : Hid (Rq w3 B3 q) := Lib.hid h3
  have HQ3 := Lib.hid (HQ1.out.below hb)
  have HX3 := Lib.hid (HX1.out.below hb)
  have HB3 := Lib.hid (HB1.out.trans (hb.mono HB1.out.size))
  clear hb h3
  go_wp2_with fail
  refine (HP2.out _ HQ3.out HX3.out).mono ?_
  rintro e w4 ⟨B4, c4, rfl, _, _, hb⟩
  have HQ4 := Lib.hid (HQ3.out.below hb)
  have HX4 := Lib.hid (HX3.out.below hb)
  have HR4 := Lib.hid (HR3.out.below hb)
  have HB4 := Lib.hid (HB3.out.trans (hb.mono HB3.out.size))
  clear hb
  go_wp2_with fail
  refine (HP3.out _ HQ4.out HX4.out).mono ?_
  rintro e w5 ⟨B5, c5, rfl, _, h5, hb⟩
  have HZ5 := Lib.hid h5
  have HQ5 := Lib.hid (HQ4.out.below hb)
  have HX5 := Lib.hid (HX4.out.below hb)
  have HR5 := Lib.hid (HR4.out.below hb)
  have HB5 := Lib.hid (HB4.out.trans (hb.mono HB4.out.size))
  clear hb h5
  go_wp2_with fail
  refine (HP4.out _ HX5.out).mono ?_
  rintro e w6 ⟨B6, c6, rfl, hc6, h6, hb⟩
  have HO6 := Lib.hid h6
  have HC6 := Lib.hid hc6
  have HQ6 := Lib.hid (HQ5.out.below hb)
  have HX6 := Lib.hid (HX5.out.below hb)
  have HR6 := Lib.hid (HR5.out.below hb)
  have HZ6 := Lib.hid (HZ5.out.below hb)
  have HB6 := Lib.hid (HB5.out.trans (hb.mono HB5.out.size))
  clear hb h6 hc6
  go_wp2_with fail
  refine (take_cons B6 B xs cb [] c6 w6 HO6.out HC6.out (by simp)).mono ?_
  rintro e w7 ⟨B7, c7, rfl, _, _, hb⟩
  have HQ7 := Lib.hid (HQ6.out.below hb)
  have HX7 := Lib.hid (HX6.out.below hb)
  have HR7 := Lib.hid (HR6.out.below hb)
  have HZ7 := Lib.hid (HZ6.out.below hb)
  have HB7 := Lib.hid (HB6.out.trans (hb.mono HB6.out.size))
  clear hb
  unfold Msg.v
  go_wp2_with fail
  refine (rows_any B3 q c3 A q c w7 HR7.out HQ7.out).mono ?_
  rw [rows_self]
  rintro e w8 ⟨rfl, hb⟩
  have HQ8 := Lib.hid (HQ7.out.below hb)
  have HX8 := Lib.hid (HX7.out.below hb)
  have HZ8 := Lib.hid (HZ7.out.below hb)
  have HB8 := Lib.hid (HB7.out.trans (hb.mono HB7.out.size))
  clear hb
  go_wp2_with fail
  refine (rsame_any B B xs xs cb cb w8 HX8.out HX8.out).mono ?_
  rw [show sameL xs xs = true by unfold sameL; simp]
  rintro e w9 ⟨rfl, rfl⟩
  go_wp2_with fail
  refine (rows_any B5 q c5 A q c w9 HZ8.out HQ8.out).mono ?_
  rw [rows_self]
  rintro e wa ⟨rfl, hb⟩
  have HBa := Lib.hid (HB8.out.trans (hb.mono HB8.out.size))
  clear hb
  go_wp2_with fail
  go_ret
  exact ⟨rfl, HBa.out⟩

set_option maxRecDepth 100000 in
set_option maxHeartbeats 8000000 in
theorem walk_zput (A : Option Addr) (q : List Msg) (c : Nat) (B : Option Addr) (xs : List Int) (cb : Nat) (room : Int) (w : World) (hq : Rq w A q) (hcq : q.length ≤ c) (hb : Rb w B xs) (H1 : 1 ≤ q.length) (H2 : q.length ≤ 63) (H3 : xs.length ≤ 100) (H : (q.length : Int) < room ∧ room ≤ 64) :
    Calls Try.prog 6 #[.slice A q.length c, .slice B xs.length cb, .int .i64 room] w fun e w' => e = .returned (.bool true) ∧ Below w.heap.size w w' := by
  have hm := hq.len
  have hm2 := hb.len
  unfold maxLen at hm hm2
  have HQ := Lib.hid hq
  have HX := Lib.hid hb
  have HP1 : Hid (∀ W, Rq W A q → Rb W B xs → Calls Try.prog 9 #[.slice A q.length c, .slice B xs.length cb, .int .i64 (q.length : Int)] W (GivesQ q 8 W)) := Lib.hid (fun W h hx => by
    have := put_any A q c B xs cb (q.length : Int) W h hcq (by omega) hx
    unfold putQ at this
    rwa [if_neg (by omega), if_pos (by omega)] at this)
  have HP2 : Hid (∀ W, Rq W A q → Rb W B xs → Calls Try.prog 9 #[.slice A q.length c, .slice B xs.length cb, .int .i64 ((q.length : Int) + 1)] W (GivesQ (q ++ [⟨B, xs, cb⟩]) 0 W)) := Lib.hid (fun W h hx => by
    have := put_any A q c B xs cb ((q.length : Int) + 1) W h hcq (by omega) hx
    unfold putQ at this
    rwa [if_neg (by omega), if_neg (by omega)] at this)
  have HP3 : Hid (∀ W, Rq W A q → Rb W B xs → Calls Try.prog 9 #[.slice A q.length c, .slice B xs.length cb, .int .i64 room] W (GivesQ (q ++ [⟨B, xs, cb⟩]) 0 W)) := Lib.hid (fun W h hx => by
    have := put_any A q c B xs cb room W h hcq (by omega) hx
    unfold putQ at this
    rwa [if_neg (by omega), if_neg (by omega)] at this)
  have HP4 : Hid (∀ W, Rb W B xs → Calls Try.prog 9 #[.slice none 0 0, .slice B xs.length cb, .int .i64 1] W (GivesQ [⟨B, xs, cb⟩] 0 W)) := Lib.hid (fun W hx => put_any none [] 0 B xs cb 1 W (Rq.nil _ _) (Nat.le_refl _) (by simp) hx)
  have a1 : decide (q.length < 1) = false := decide_eq_false (by omega)
  have a1i : decide ((q.length : Int) < 1) = false := decide_eq_false (by omega)
  have a2 : decide (63 < q.length) = false := decide_eq_false (by omega)
  have a2i : decide ((63 : Int) < q.length) = false := decide_eq_false (by omega)
  have dn : decide (100 < xs.length) = false := decide_eq_false (by omega)
  have di : decide ((100 : Int) < xs.length) = false := decide_eq_false (by omega)
  have r1 : decide (room < 1) = false := decide_eq_false (by omega)
  have r2 : decide (64 < room) = false := decide_eq_false (by omega)
  clear hq hb hcq H
  go_enter Try.func6, Try.ntmps6
  go_wp2_with fail
  refine (shown_ok _).mono ?_
  rintro e w1 ⟨rfl, hb⟩
  have HB1 := Lib.hid hb
  have HQ1 := Lib.hid (HQ.out.below hb)
  have HX1 := Lib.hid (HX.out.below hb)
  clear hb
  go_wp2_with fail
  refine (long_any A q c 1000 w1 HQ1.out (by omega) (by omega)).mono ?_
  rintro e w2 ⟨n1, rfl, rfl, _⟩
  by_cases hn1 : 1000 < n1
  · have t1 : decide (1000 < n1) = true := decide_eq_true hn1
    go_wp2_with fail
    go_ret
    exact ⟨rfl, HB1.out⟩
  have t1 : decide (1000 < n1) = false := decide_eq_false hn1
  go_wp2_with fail
  refine (HP1.out _ HQ1.out HX1.out).mono ?_
  rintro e w3 ⟨B3, c3, rfl, _, h3, hb⟩
  have HR3 : Hid (Rq w3 B3 q) := Lib.hid h3
  have HQ3 := Lib.hid (HQ1.out.below hb)
  have HX3 := Lib.hid (HX1.out.below hb)
  have HB3 := Lib.hid (HB1.out.trans (hb.mono HB1.out.size))
  clear hb h3
  go_wp2_with fail
  refine (HP2.out _ HQ3.out HX3.out).mono ?_
  rintro e w4 ⟨B4, c4, rfl, _, _, hb⟩
  have HQ4 := Lib.hid (HQ3.out.below hb)
  have HX4 := Lib.hid (HX3.out.below hb)
  have HR4 := Lib.hid (HR3.out.below hb)
  have HB4 := Lib.hid (HB3.out.trans (hb.mono HB3.out.size))
  clear hb
  go_wp2_with fail
  refine (HP3.out _ HQ4.out HX4.out).mono ?_
  rintro e w5 ⟨B5, c5, rfl, _, h5, hb⟩
  have HZ5 := Lib.hid h5
  have HQ5 := Lib.hid (HQ4.out.below hb)
  have HX5 := Lib.hid (HX4.out.below hb)
  have HR5 := Lib.hid (HR4.out.below hb)
  have HB5 := Lib.hid (HB4.out.trans (hb.mono HB4.out.size))
  clear hb h5
  go_wp2_with fail
  refine (HP4.out _ HX5.out).mono ?_
  rintro e w6 ⟨B6, c6, rfl, hc6, h6, hb⟩
  have HO6 := Lib.hid h6
  have HC6 := Lib.hid hc6
  have HQ6 := Lib.hid (HQ5.out.below hb)
  have HX6 := Lib.hid (HX5.out.below hb)
  have HR6 := Lib.hid (HR5.out.below hb)
  have HZ6 := Lib.hid (HZ5.out.below hb)
  have HB6 := Lib.hid (HB5.out.trans (hb.mono HB5.out.size))
  clear hb h6 hc6
  go_wp2_with fail
  refine (take_cons B6 B xs cb [] c6 w6 HO6.out HC6.out (by simp)).mono ?_
  rintro e w7 ⟨B7, c7, rfl, _, _, hb⟩
  have HQ7 := Lib.hid (HQ6.out.below hb)
  have HX7 := Lib.hid (HX6.out.below hb)
  have HR7 := Lib.hid (HR6.out.below hb)
  have HZ7 := Lib.hid (HZ6.out.below hb)
  have HB7 := Lib.hid (HB6.out.trans (hb.mono HB6.out.size))
  clear hb
  unfold Msg.v
  go_wp2_with fail
  refine (rows_any B3 q c3 A q c w7 HR7.out HQ7.out).mono ?_
  rw [rows_self]
  rintro e w8 ⟨rfl, hb⟩
  have HQ8 := Lib.hid (HQ7.out.below hb)
  have HX8 := Lib.hid (HX7.out.below hb)
  have HZ8 := Lib.hid (HZ7.out.below hb)
  have HB8 := Lib.hid (HB7.out.trans (hb.mono HB7.out.size))
  clear hb
  go_wp2_with fail
  refine (rsame_any B B xs xs cb cb w8 HX8.out HX8.out).mono ?_
  rw [show sameL xs xs = true by unfold sameL; simp]
  rintro e w9 ⟨rfl, rfl⟩
  go_wp2_with fail
  go_ret
  exact ⟨rfl, HB8.out⟩

theorem walk (A : Option Addr) (q : List Msg) (c : Nat) (B : Option Addr) (xs : List Int) (cb : Nat) (room : Int) (w : World) (hq : Rq w A q) (hcq : q.length ≤ c) (hb : Rb w B xs) :
    Calls Try.prog 6 #[.slice A q.length c, .slice B xs.length cb, .int .i64 room] w fun e w' => e = .returned (.bool true) ∧ Below w.heap.size w w' := by
  by_cases h1 : q.length < 1
  · exact walk_low A q c B xs cb room w hq hb h1
  by_cases h2 : 63 < q.length
  · exact walk_high A q c B xs cb room w hq hb h2
  by_cases h3 : 100 < xs.length
  · exact walk_long A q c B xs cb room w hq hb ⟨by omega, by omega, h3⟩
  by_cases h4 : room < 1
  · exact walk_zlow A q c B xs cb room w hq hcq hb (by omega) (by omega) (by omega) h4
  by_cases h5 : 64 < room
  · exact walk_zhigh A q c B xs cb room w hq hcq hb (by omega) (by omega) (by omega) h5
  by_cases h6 : room ≤ q.length
  · exact walk_zfull A q c B xs cb room w hq hcq hb (by omega) (by omega) (by omega) ⟨by omega, h6⟩
  exact walk_zput A q c B xs cb room w hq hcq hb (by omega) (by omega) (by omega) ⟨by omega, by omega⟩

theorem walk' (A : Option Addr) (q : List Msg) (c : Nat) (B : Option Addr) (xs : List Int) (cb : Nat) (room : Int) (_ : (Lit.int .i64 room).wf = true) (w : World) (hq : Rq w A q) (hcq : q.length ≤ c) (hb : Rb w B xs) :
    Calls Try.prog 6 #[.slice A q.length c, .slice B xs.length cb, .int .i64 room] w fun e w' => e = .returned (.bool true) ∧ Below w.heap.size w w' := by
  exact walk A q c B xs cb room w hq hcq hb

set_option maxRecDepth 100000 in
theorem lifted (os : Os) (started : os.Started) (H : Type) (enc : TypeId × Value → H) :
    ReturnsInHanded {} Try.checked os 6 .any (Rows.queueEndsSpec.pre6 enc Try.prog Try.f6 Rows.queueEndsRow.domain false) (Rows.queueEndsSpec.post enc Try.prog Try.f6 false true false false) := by
  refine returnsInHanded_of_change (C := Try.checked) own started (by kernel_rfl) Try.func6
    (ChangeSpec.witness6 (enc := enc) (C := Try.checked) false ⟨#[], #[.slice none 0 0, .slice none 0 0, .int .i64 0], []⟩ 8 (by kernel_rfl) (by kernel_rfl) (by kernel_rfl) (by kernel_rfl)) ?_
  intro W base args ds gs before hval0 hW _ _
  have hval : ∀ (j : Nat) t v, Try.f6.params[j]? = some t → args[j]? = some v → Value.okWide Try.prog W .any base t v := hval0
  have hW' := hW
  obtain ⟨p, q, hA0, hV, rfl, _, _⟩ := hW
  have hA : DataW.TrodAll enc Try.prog W 0 (fun _ => true) true Try.f6.params.toList args.toList ds p := hA0
  rw [Try.params6] at hA hval
  obtain ⟨v0, vs0, d0, ds0, p0, q0, hargs, rfl, rfl, h0, r0x⟩ := trodAll_cons hA
  obtain ⟨v1, vs1, d1, ds1, p1, q1, rfl, rfl, rfl, h1, r1x⟩ := trodAll_cons r0x
  obtain ⟨v2, vs2, d2, ds2, p2, q2, rfl, rfl, rfl, h2, r2x⟩ := trodAll_cons r1x
  obtain ⟨rfl, rfl, rfl⟩ := trodAll_nil r2x
  obtain rfl : args = #[v0, v1, v2] := by cases args; simp_all
  obtain ⟨A0, q0, cp0, rfl, hx0, hcp0⟩ := open_queue (hval 0 22 v0 rfl rfl) h0
  obtain ⟨A1, xs1, cp1, rfl, hx1⟩ := open_qbytes (hval 1 23 v1 rfl rfl) h1
  obtain ⟨a2, rfl, rfl, rfl, w2⟩ := open_int Try.underlying3 (hval 2 3 v2 rfl rfl) h2
  clear hA0 hval0
  refine (walk' A0 q0 cp0 A1 xs1 cp1 a2 w2 W hx0 hcp0 hx1).mono fun e W' ⟨he, hg⟩ => ?_
  subst he
  exact ⟨_, rfl, law_post hW' rfl rfl (fun h => by subst h; exact ⟨rfl, rfl, rfl⟩) (by rw [Try.params6]; intro t ht; simp at ht; rcases ht with rfl | rfl | rfl <;> exact ⟨by kernel_rfl, of_decide_eq_true (by kernel_rfl)⟩) hg⟩

theorem over : Rows.queueEndsRow.holds Try.pinned (OpenSpec.ofChange Rows.queueEndsSpec) :=
  OpenClaim.holds_of_wide 6 Try.f6 rfl rfl rfl rfl rfl rfl rfl ⟨rfl, rfl, rfl, rfl, rfl⟩ rfl rfl rfl rfl rfl (by kernel_rfl) Try.func6 (by kernel_rfl)
    (of_decide_eq_true (by kernel_rfl)) (by unfold Func.isWrapper; first | (rw [if_pos (by decide +kernel)]; kernel_rfl) | (rw [if_neg (by decide +kernel)]; exact ⟨rfl, rfl⟩))
    (fun os started H enc _ => lifted os started H enc)

theorem proved : Rows.QueueEndsSaid :=
  over
#print axioms proved
end queueEnds
end Go.Proofs.Ytlkpnecionpnhaa
