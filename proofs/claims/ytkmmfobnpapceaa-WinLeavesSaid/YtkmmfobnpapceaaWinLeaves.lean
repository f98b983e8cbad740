/- WinLeaves: a number that is taken changes no other one's lot, but of those that are 1024 or more below it then: for every window and every two numbers. No condition. -/
import Derived.Test.YtkmmfobnpapceaaL
import Derived.Test.YtkmmfobnpapceaaP
namespace Go.Proofs.Ytkmmfobnpapceaa
open Go.ChangeShapes Go.WideShapes Go.ChangeAt Go.RowKit
namespace winLeaves
attribute [local go_sem] winA_lit

set_option maxRecDepth 100000 in
set_option maxHeartbeats 8000000 in
theorem walk_same_b (t : Int) (f : Nat → Bool) (n o : Int) (_wo : -9223372036854775808 ≤ o ∧ o ≤ 9223372036854775807) (w : World) (hR : RightP t f) (hf : freshB t f n = true) (hT : n < t) (ho : o = n) :
    Calls Try.prog 6 #[.agg (winA t f), .int .i64 n, .int .i64 o] w fun e w' => e = .returned (.bool true) ∧ Below w.heap.size w w' := by
  obtain ⟨hn0, hn1, _⟩ := fresh_range hf
  have hR0 := hR.1
  have hR1 := hR.2.1
  have hfm := fresh_mark t f n o hR0 hf
  have hfn := fresh_mark t f n n hR0 hf
  have hr' := right_mark t f n hR hf
  have hm := fun W => mark_ok t f n W hR0 hR1 hf
  rw [show max t (n + 1) = t by omega] at hfm hfn hr' hm
  simp only [ne_eq, not_true_eq_false, decide_false, Bool.false_and] at hfn
  generalize markG t f n = G at *
  obtain rfl : n = o := ho.symm
  have e2 : decide (n - 1024 < n) = true := by simp; omega
  have HM := Lib.hid hm; clear hm
  have HFM := Lib.hid hfm; clear hfm
  have HFN := Lib.hid hfn; clear hfn
  have HR := Lib.hid hR; clear hR
  have HR' := Lib.hid hr'; clear hr'
  clear hf
  have hbt := winA_top t f
  have hbx := winA_top (t) G
  have HT := Lib.hid hbt; clear hbt
  have HX := Lib.hid hbx; clear hbx
  have hB := Blk.new w 25 (winA t f)
  have HB := Lib.hid ((Below.refl w.heap.size w).alloc (Nat.le_refl _) (Obj.cells (winA t f) 25))
  go_enter Try.func6, Try.ntmps6
  go_wp2_with fail
  refine (shown_ok _).mono ?_
  rintro e w1 ⟨rfl, hb1⟩
  have hB1 := hB.belowSelf hb1
  have HB1 := Lib.hid (HB.out.trans (hb1.mono (by simp))); clear hb1
  go_wp2_with (first | (refine load_blk (ty := 25) rfl rfl rfl Try.underlying25 rfl (info25' t f) hB1 ?_) | fail)
  refine (rRight_t t f _ HR.out).mono ?_
  rintro e w2 ⟨rfl, hb2⟩
  have hB2 := hB1.belowSelf hb2
  have HB2 := Lib.hid (HB1.out.trans (hb2.mono HB1.out.size)); clear hb2
  go_wp2_with (first | (refine load_blk (ty := 25) rfl rfl rfl Try.underlying25 rfl (info25' t f) hB2 ?_) | fail)
  refine (HM.out _).mono ?_
  rintro e w3 ⟨rfl, hb3⟩
  have hB3 := hB2.belowSelf hb3
  have HB3 := Lib.hid (HB2.out.trans (hb3.mono HB2.out.size)); clear hb3
  have hz3 := hB3.lt
  go_wp2_with (first | (refine store_blk' (ty := 25) rfl rfl rfl rfl (info25' (t) G) (winA_one _ _) (old := winA 0 noBits) (by rw [winA_size, winA_size]) (Blk.new w3 25 (winA 0 noBits)) ?_; intro w4 hX4 hG4 hz4; have HB4 := Lib.hid ((HB3.out.alloc HB3.out.size _).grown hG4 (by simp; omega) (by simp; omega)); have hB4 := (hB3.alloc (.cells (winA 0 noBits) 25)).grown hG4 (by simp; omega); clear hG4 hz4) | (refine load_blk (ty := 25) rfl rfl rfl Try.underlying25 rfl (info25' (t) G) hX4 ?_) | fail)
  refine (wFresh_any (t) G n _ HR'.out.1 HR'.out.2.1).mono ?_
  rintro e w5 ⟨rfl, hb5⟩
  rw [HFN.out]
  have hX5 := hX4.belowSelf hb5
  have hB5 := hB4.belowSelf hb5
  have HB5 := Lib.hid (HB4.out.trans (hb5.mono HB4.out.size)); clear hb5
  have hc5 := (hB5.cell 0).trans HT.out
  have hd5 := (hX5.cell 0).trans HX.out
  clear hB hB1 hB2 hB3 hB4 hX4 HB HB1 HB2 HB3 HB4
  generalize w3.heap.size = g at *
  go_wp2_with fail
  have hC : Cls2 w w.heap.size (winA t f) g (winA (t) G) w5.drew := ⟨hB5.drew, hX5.drew, HB5.out.drew⟩
  have hN : Nonempty (InCl (Cls2 w w.heap.size (winA t f) g (winA (t) G))) := ⟨⟨_, hC⟩⟩
  clear hc5 hd5
  refine wp_region_cls (Cl := Cls2 w w.heap.size (winA t f) g (winA (t) G)) (by kernel_rfl) (by kernel_rfl) hC ?_
  repeat (first | go_big_quiet_skip | (refine q_load rfl (ty := 25) rfl rfl Try.underlying25 rfl (info25' t f) (t := 25) (fun _ hw => hw.1) ?_; simp only [Act.put, List.setIfInBounds_toArray, List.set_cons_succ, List.set_cons_zero]) | (refine q_load rfl (ty := 25) rfl rfl Try.underlying25 rfl (info25' (t) G) (t := 25) (fun _ hw => hw.2.1) ?_; simp only [Act.put, List.setIfInBounds_toArray, List.set_cons_succ, List.set_cons_zero]) | (go_big_quiet_want; go_big_quiet_op; first | go_big_quiet_on | go_big_quiet_call ((fail))))
  refine wpQuiet_nil ?_
  intro w6 hw6
  have HB6 := Lib.hid hw6.2.2
  go_wp2
  go_ret
  exact ⟨rfl, HB6.out⟩

set_option maxRecDepth 100000 in
set_option maxHeartbeats 8000000 in
theorem walk_low_b (t : Int) (f : Nat → Bool) (n o : Int) (_wo : -9223372036854775808 ≤ o ∧ o ≤ 9223372036854775807) (w : World) (hR : RightP t f) (hf : freshB t f n = true) (hT : n < t) (ho : o ≤ n - 1024) :
    Calls Try.prog 6 #[.agg (winA t f), .int .i64 n, .int .i64 o] w fun e w' => e = .returned (.bool true) ∧ Below w.heap.size w w' := by
  obtain ⟨hn0, hn1, _⟩ := fresh_range hf
  have hR0 := hR.1
  have hR1 := hR.2.1
  have hfm := fresh_mark t f n o hR0 hf
  have hfn := fresh_mark t f n n hR0 hf
  have hr' := right_mark t f n hR hf
  have hm := fun W => mark_ok t f n W hR0 hR1 hf
  rw [show max t (n + 1) = t by omega] at hfm hfn hr' hm
  simp only [ne_eq, not_true_eq_false, decide_false, Bool.false_and] at hfn
  generalize markG t f n = G at *
  have e1 : (o == n) = false := by rw [beq_eq_false_iff_ne]; omega
  have e2 : decide (n - 1024 < o) = false := by simp; omega
  have e3 : decide (o ≤ n - 1024) = true := by simp; omega
  rw [e2] at hfm
  simp only [Bool.and_false, Bool.false_and] at hfm
  have HM := Lib.hid hm; clear hm
  have HFM := Lib.hid hfm; clear hfm
  have HFN := Lib.hid hfn; clear hfn
  have HR := Lib.hid hR; clear hR
  have HR' := Lib.hid hr'; clear hr'
  clear hf
  have hbt := winA_top t f
  have hbx := winA_top (t) G
  have HT := Lib.hid hbt; clear hbt
  have HX := Lib.hid hbx; clear hbx
  have hB := Blk.new w 25 (winA t f)
  have HB := Lib.hid ((Below.refl w.heap.size w).alloc (Nat.le_refl _) (Obj.cells (winA t f) 25))
  go_enter Try.func6, Try.ntmps6
  go_wp2_with fail
  refine (shown_ok _).mono ?_
  rintro e w1 ⟨rfl, hb1⟩
  have hB1 := hB.belowSelf hb1
  have HB1 := Lib.hid (HB.out.trans (hb1.mono (by simp))); clear hb1
  go_wp2_with (first | (refine load_blk (ty := 25) rfl rfl rfl Try.underlying25 rfl (info25' t f) hB1 ?_) | fail)
  refine (rRight_t t f _ HR.out).mono ?_
  rintro e w2 ⟨rfl, hb2⟩
  have hB2 := hB1.belowSelf hb2
  have HB2 := Lib.hid (HB1.out.trans (hb2.mono HB1.out.size)); clear hb2
  go_wp2_with (first | (refine load_blk (ty := 25) rfl rfl rfl Try.underlying25 rfl (info25' t f) hB2 ?_) | fail)
  refine (HM.out _).mono ?_
  rintro e w3 ⟨rfl, hb3⟩
  have hB3 := hB2.belowSelf hb3
  have HB3 := Lib.hid (HB2.out.trans (hb3.mono HB2.out.size)); clear hb3
  have hz3 := hB3.lt
  go_wp2_with (first | (refine store_blk' (ty := 25) rfl rfl rfl rfl (info25' (t) G) (winA_one _ _) (old := winA 0 noBits) (by rw [winA_size, winA_size]) (Blk.new w3 25 (winA 0 noBits)) ?_; intro w4 hX4 hG4 hz4; have HB4 := Lib.hid ((HB3.out.alloc HB3.out.size _).grown hG4 (by simp; omega) (by simp; omega)); have hB4 := (hB3.alloc (.cells (winA 0 noBits) 25)).grown hG4 (by simp; omega); clear hG4 hz4) | (refine load_blk (ty := 25) rfl rfl rfl Try.underlying25 rfl (info25' (t) G) hX4 ?_) | fail)
  refine (wFresh_any (t) G n _ HR'.out.1 HR'.out.2.1).mono ?_
  rintro e w5 ⟨rfl, hb5⟩
  rw [HFN.out]
  have hX5 := hX4.belowSelf hb5
  have hB5 := hB4.belowSelf hb5
  have HB5 := Lib.hid (HB4.out.trans (hb5.mono HB4.out.size)); clear hb5
  have hc5 := (hB5.cell 0).trans HT.out
  have hd5 := (hX5.cell 0).trans HX.out
  clear hB hB1 hB2 hB3 hB4 hX4 HB HB1 HB2 HB3 HB4
  generalize w3.heap.size = g at *
  go_wp2_with fail
  have hC : Cls2 w w.heap.size (winA t f) g (winA (t) G) w5.drew := ⟨hB5.drew, hX5.drew, HB5.out.drew⟩
  have hN : Nonempty (InCl (Cls2 w w.heap.size (winA t f) g (winA (t) G))) := ⟨⟨_, hC⟩⟩
  clear hc5 hd5
  refine wp_region_cls (Cl := Cls2 w w.heap.size (winA t f) g (winA (t) G)) (by kernel_rfl) (by kernel_rfl) hC ?_
  repeat (first | go_big_quiet_skip | (refine q_load rfl (ty := 25) rfl rfl Try.underlying25 rfl (info25' t f) (t := 25) (fun _ hw => hw.1) ?_; simp only [Act.put, List.setIfInBounds_toArray, List.set_cons_succ, List.set_cons_zero]) | (refine q_load rfl (ty := 25) rfl rfl Try.underlying25 rfl (info25' (t) G) (t := 25) (fun _ hw => hw.2.1) ?_; simp only [Act.put, List.setIfInBounds_toArray, List.set_cons_succ, List.set_cons_zero]) | (go_big_quiet_want; go_big_quiet_op; first | go_big_quiet_on | go_big_quiet_call ((go_at_call 13; exact cls2_call (HFM.out ▸ wFresh_any (t) G o _ HR'.out.1 HR'.out.2.1)))))
  refine wpQuiet_nil ?_
  intro w6 hw6
  have HB6 := Lib.hid hw6.2.2
  go_wp2
  go_ret
  exact ⟨rfl, HB6.out⟩

set_option maxRecDepth 100000 in
set_option maxHeartbeats 8000000 in
theorem walk_far_b (t : Int) (f : Nat → Bool) (n o : Int) (_wo : -9223372036854775808 ≤ o ∧ o ≤ 9223372036854775807) (w : World) (hR : RightP t f) (hf : freshB t f n = true) (hT : n < t) (ho : n - 1024 < o) (hon : o ≠ n) :
    Calls Try.prog 6 #[.agg (winA t f), .int .i64 n, .int .i64 o] w fun e w' => e = .returned (.bool true) ∧ Below w.heap.size w w' := by
  obtain ⟨hn0, hn1, _⟩ := fresh_range hf
  have hR0 := hR.1
  have hR1 := hR.2.1
  have hfm := fresh_mark t f n o hR0 hf
  have hfn := fresh_mark t f n n hR0 hf
  have hr' := right_mark t f n hR hf
  have hm := fun W => mark_ok t f n W hR0 hR1 hf
  rw [show max t (n + 1) = t by omega] at hfm hfn hr' hm
  simp only [ne_eq, not_true_eq_false, decide_false, Bool.false_and] at hfn
  generalize markG t f n = G at *
  have e1 : (o == n) = false := by rw [beq_eq_false_iff_ne]; omega
  have e2 : decide (n - 1024 < o) = true := by simp; omega
  have e3 : decide (o ≤ n - 1024) = false := by simp; omega
  rw [e2, show decide (o ≠ n) = true by simp; omega] at hfm
  simp only [Bool.true_and] at hfm
  have hxf : ∀ W : World, Calls Try.prog 13 #[.agg (winA (t) G), .int .i64 o] W fun e w' => e = .returned (.bool (freshB t f o)) ∧ Below W.heap.size W w' := fun W => by
    have := wFresh_any (t) G o W hr'.1 hr'.2.1
    rwa [hfm] at this
  have HXF := Lib.hid hxf; clear hxf
  have HM := Lib.hid hm; clear hm
  clear hfm
  have HFN := Lib.hid hfn; clear hfn
  have HR := Lib.hid hR; clear hR
  have HR' := Lib.hid hr'; clear hr'
  clear hf
  have hbt := winA_top t f
  have hbx := winA_top (t) G
  have HT := Lib.hid hbt; clear hbt
  have HX := Lib.hid hbx; clear hbx
  have hB := Blk.new w 25 (winA t f)
  have HB := Lib.hid ((Below.refl w.heap.size w).alloc (Nat.le_refl _) (Obj.cells (winA t f) 25))
  go_enter Try.func6, Try.ntmps6
  go_wp2_with fail
  refine (shown_ok _).mono ?_
  rintro e w1 ⟨rfl, hb1⟩
  have hB1 := hB.belowSelf hb1
  have HB1 := Lib.hid (HB.out.trans (hb1.mono (by simp))); clear hb1
  go_wp2_with (first | (refine load_blk (ty := 25) rfl rfl rfl Try.underlying25 rfl (info25' t f) hB1 ?_) | fail)
  refine (rRight_t t f _ HR.out).mono ?_
  rintro e w2 ⟨rfl, hb2⟩
  have hB2 := hB1.belowSelf hb2
  have HB2 := Lib.hid (HB1.out.trans (hb2.mono HB1.out.size)); clear hb2
  go_wp2_with (first | (refine load_blk (ty := 25) rfl rfl rfl Try.underlying25 rfl (info25' t f) hB2 ?_) | fail)
  refine (HM.out _).mono ?_
  rintro e w3 ⟨rfl, hb3⟩
  have hB3 := hB2.belowSelf hb3
  have HB3 := Lib.hid (HB2.out.trans (hb3.mono HB2.out.size)); clear hb3
  have hz3 := hB3.lt
  go_wp2_with (first | (refine store_blk' (ty := 25) rfl rfl rfl rfl (info25' (t) G) (winA_one _ _) (old := winA 0 noBits) (by rw [winA_size, winA_size]) (Blk.new w3 25 (winA 0 noBits)) ?_; intro w4 hX4 hG4 hz4; have HB4 := Lib.hid ((HB3.out.alloc HB3.out.size _).grown hG4 (by simp; omega) (by simp; omega)); have hB4 := (hB3.alloc (.cells (winA 0 noBits) 25)).grown hG4 (by simp; omega); clear hG4 hz4) | (refine load_blk (ty := 25) rfl rfl rfl Try.underlying25 rfl (info25' (t) G) hX4 ?_) | fail)
  refine (wFresh_any (t) G n _ HR'.out.1 HR'.out.2.1).mono ?_
  rintro e w5 ⟨rfl, hb5⟩
  rw [HFN.out]
  have hX5 := hX4.belowSelf hb5
  have hB5 := hB4.belowSelf hb5
  have HB5 := Lib.hid (HB4.out.trans (hb5.mono HB4.out.size)); clear hb5
  have hc5 := (hB5.cell 0).trans HT.out
  have hd5 := (hX5.cell 0).trans HX.out
  clear hB hB1 hB2 hB3 hB4 hX4 HB HB1 HB2 HB3 HB4
  generalize w3.heap.size = g at *
  go_wp2_with fail
  have hC : Cls2 w w.heap.size (winA t f) g (winA (t) G) w5.drew := ⟨hB5.drew, hX5.drew, HB5.out.drew⟩
  have hN : Nonempty (InCl (Cls2 w w.heap.size (winA t f) g (winA (t) G))) := ⟨⟨_, hC⟩⟩
  clear hc5 hd5
  refine wp_region_cls (Cl := Cls2 w w.heap.size (winA t f) g (winA (t) G)) (by kernel_rfl) (by kernel_rfl) hC ?_
  repeat (first | go_big_quiet_skip | (refine q_load rfl (ty := 25) rfl rfl Try.underlying25 rfl (info25' t f) (t := 25) (fun _ hw => hw.1) ?_; simp only [Act.put, List.setIfInBounds_toArray, List.set_cons_succ, List.set_cons_zero]) | (refine q_load rfl (ty := 25) rfl rfl Try.underlying25 rfl (info25' (t) G) (t := 25) (fun _ hw => hw.2.1) ?_; simp only [Act.put, List.setIfInBounds_toArray, List.set_cons_succ, List.set_cons_zero]) | (go_big_quiet_want; go_big_quiet_op; first | go_big_quiet_on | go_big_quiet_call ((go_at_call 13; first | (with_reducible exact cls2_call (wFresh_any t f o _ hR0 hR1)) | (exact cls2_call (HXF.out _))))))
  refine wpQuiet_nil ?_
  intro w6 hw6
  have HB6 := Lib.hid hw6.2.2
  go_wp2
  go_ret
  exact ⟨rfl, HB6.out⟩

set_option maxRecDepth 100000 in
set_option maxHeartbeats 8000000 in
theorem walk_same_a (t : Int) (f : Nat → Bool) (n o : Int) (_wo : -9223372036854775808 ≤ o ∧ o ≤ 9223372036854775807) (w : World) (hR : RightP t f) (hf : freshB t f n = true) (hT : t ≤ n) (ho : o = n) :
    Calls Try.prog 6 #[.agg (winA t f), .int .i64 n, .int .i64 o] w fun e w' => e = .returned (.bool true) ∧ Below w.heap.size w w' := by
  obtain ⟨hn0, hn1, _⟩ := fresh_range hf
  have hR0 := hR.1
  have hR1 := hR.2.1
  have hfm := fresh_mark t f n o hR0 hf
  have hfn := fresh_mark t f n n hR0 hf
  have hr' := right_mark t f n hR hf
  have hm := fun W => mark_ok t f n W hR0 hR1 hf
  rw [show max t (n + 1) = n + 1 by omega] at hfm hfn hr' hm
  simp only [ne_eq, not_true_eq_false, decide_false, Bool.false_and] at hfn
  generalize markG t f n = G at *
  obtain rfl : n = o := ho.symm
  have e2 : decide (n - 1024 < n) = true := by simp; omega
  have HM := Lib.hid hm; clear hm
  have HFM := Lib.hid hfm; clear hfm
  have HFN := Lib.hid hfn; clear hfn
  have HR := Lib.hid hR; clear hR
  have HR' := Lib.hid hr'; clear hr'
  clear hf
  have hbt := winA_top t f
  have hbx := winA_top (n + 1) G
  have HT := Lib.hid hbt; clear hbt
  have HX := Lib.hid hbx; clear hbx
  have hB := Blk.new w 25 (winA t f)
  have HB := Lib.hid ((Below.refl w.heap.size w).alloc (Nat.le_refl _) (Obj.cells (winA t f) 25))
  go_enter Try.func6, Try.ntmps6
  go_wp2_with fail
  refine (shown_ok _).mono ?_
  rintro e w1 ⟨rfl, hb1⟩
  have hB1 := hB.belowSelf hb1
  have HB1 := Lib.hid (HB.out.trans (hb1.mono (by simp))); clear hb1
  go_wp2_with (first | (refine load_blk (ty := 25) rfl rfl rfl Try.underlying25 rfl (info25' t f) hB1 ?_) | fail)
  refine (rRight_t t f _ HR.out).mono ?_
  rintro e w2 ⟨rfl, hb2⟩
  have hB2 := hB1.belowSelf hb2
  have HB2 := Lib.hid (HB1.out.trans (hb2.mono HB1.out.size)); clear hb2
  go_wp2_with (first | (refine load_blk (ty := 25) rfl rfl rfl Try.underlying25 rfl (info25' t f) hB2 ?_) | fail)
  refine (HM.out _).mono ?_
  rintro e w3 ⟨rfl, hb3⟩
  have hB3 := hB2.belowSelf hb3
  have HB3 := Lib.hid (HB2.out.trans (hb3.mono HB2.out.size)); clear hb3
  have hz3 := hB3.lt
  go_wp2_with (first | (refine store_blk' (ty := 25) rfl rfl rfl rfl (info25' (n + 1) G) (winA_one _ _) (old := winA 0 noBits) (by rw [winA_size, winA_size]) (Blk.new w3 25 (winA 0 noBits)) ?_; intro w4 hX4 hG4 hz4; have HB4 := Lib.hid ((HB3.out.alloc HB3.out.size _).grown hG4 (by simp; omega) (by simp; omega)); have hB4 := (hB3.alloc (.cells (winA 0 noBits) 25)).grown hG4 (by simp; omega); clear hG4 hz4) | (refine load_blk (ty := 25) rfl rfl rfl Try.underlying25 rfl (info25' (n + 1) G) hX4 ?_) | fail)
  refine (wFresh_any (n + 1) G n _ HR'.out.1 HR'.out.2.1).mono ?_
  rintro e w5 ⟨rfl, hb5⟩
  rw [HFN.out]
  have hX5 := hX4.belowSelf hb5
  have hB5 := hB4.belowSelf hb5
  have HB5 := Lib.hid (HB4.out.trans (hb5.mono HB4.out.size)); clear hb5
  have hc5 := (hB5.cell 0).trans HT.out
  have hd5 := (hX5.cell 0).trans HX.out
  clear hB hB1 hB2 hB3 hB4 hX4 HB HB1 HB2 HB3 HB4
  generalize w3.heap.size = g at *
  go_wp2_with fail
  have hC : Cls2 w w.heap.size (winA t f) g (winA (n + 1) G) w5.drew := ⟨hB5.drew, hX5.drew, HB5.out.drew⟩
  have hN : Nonempty (InCl (Cls2 w w.heap.size (winA t f) g (winA (n + 1) G))) := ⟨⟨_, hC⟩⟩
  clear hc5 hd5
  refine wp_region_cls (Cl := Cls2 w w.heap.size (winA t f) g (winA (n + 1) G)) (by kernel_rfl) (by kernel_rfl) hC ?_
  repeat (first | go_big_quiet_skip | (refine q_load rfl (ty := 25) rfl rfl Try.underlying25 rfl (info25' t f) (t := 25) (fun _ hw => hw.1) ?_; simp only [Act.put, List.setIfInBounds_toArray, List.set_cons_succ, List.set_cons_zero]) | (refine q_load rfl (ty := 25) rfl rfl Try.underlying25 rfl (info25' (n + 1) G) (t := 25) (fun _ hw => hw.2.1) ?_; simp only [Act.put, List.setIfInBounds_toArray, List.set_cons_succ, List.set_cons_zero]) | (go_big_quiet_want; go_big_quiet_op; first | go_big_quiet_on | go_big_quiet_call ((fail))))
  refine wpQuiet_nil ?_
  intro w6 hw6
  have HB6 := Lib.hid hw6.2.2
  go_wp2
  go_ret
  exact ⟨rfl, HB6.out⟩

set_option maxRecDepth 100000 in
set_option maxHeartbeats 8000000 in
theorem walk_low_a (t : Int) (f : Nat → Bool) (n o : Int) (_wo : -9223372036854775808 ≤ o ∧ o ≤ 9223372036854775807) (w : World) (hR : RightP t f) (hf : freshB t f n = true) (hT : t ≤ n) (ho : o ≤ n - 1024) :
    Calls Try.prog 6 #[.agg (winA t f), .int .i64 n, .int .i64 o] w fun e w' => e = .returned (.bool true) ∧ Below w.heap.size w w' := by
  obtain ⟨hn0, hn1, _⟩ := fresh_range hf
  have hR0 := hR.1
  have hR1 := hR.2.1
  have hfm := fresh_mark t f n o hR0 hf
  have hfn := fresh_mark t f n n hR0 hf
  have hr' := right_mark t f n hR hf
  have hm := fun W => mark_ok t f n W hR0 hR1 hf
  rw [show max t (n + 1) = n + 1 by omega] at hfm hfn hr' hm
  simp only [ne_eq, not_true_eq_false, decide_false, Bool.false_and] at hfn
  generalize markG t f n = G at *
  have e1 : (o == n) = false := by rw [beq_eq_false_iff_ne]; omega
  have e2 : decide (n - 1024 < o) = false := by simp; omega
  have e3 : decide (o ≤ n - 1024) = true := by simp; omega
  rw [e2] at hfm
  simp only [Bool.and_false, Bool.false_and] at hfm
  have HM := Lib.hid hm; clear hm
  have HFM := Lib.hid hfm; clear hfm
  have HFN := Lib.hid hfn; clear hfn
  have HR := Lib.hid hR; clear hR
  have HR' := Lib.hid hr'; clear hr'
  clear hf
  have hbt := winA_top t f
  have hbx := winA_top (n + 1) G
  have HT := Lib.hid hbt; clear hbt
  have HX := Lib.hid hbx; clear hbx
  have hB := Blk.new w 25 (winA t f)
  have HB := Lib.hid ((Below.refl w.heap.size w).alloc (Nat.le_refl _) (Obj.cells (winA t f) 25))
  go_enter Try.func6, Try.ntmps6
  go_wp2_with fail
  refine (shown_ok _).mono ?_
  rintro e w1 ⟨rfl, hb1⟩
  have hB1 := hB.belowSelf hb1
  have HB1 := Lib.hid (HB.out.trans (hb1.mono (by simp))); clear hb1
  go_wp2_with (first | (refine load_blk (ty := 25) rfl rfl rfl Try.underlying25 rfl (info25' t f) hB1 ?_) | fail)
  refine (rRight_t t f _ HR.out).mono ?_
  rintro e w2 ⟨rfl, hb2⟩
  have hB2 := hB1.belowSelf hb2
  have HB2 := Lib.hid (HB1.out.trans (hb2.mono HB1.out.size)); clear hb2
  go_wp2_with (first | (refine load_blk (ty := 25) rfl rfl rfl Try.underlying25 rfl (info25' t f) hB2 ?_) | fail)
  refine (HM.out _).mono ?_
  rintro e w3 ⟨rfl, hb3⟩
  have hB3 := hB2.belowSelf hb3
  have HB3 := Lib.hid (HB2.out.trans (hb3.mono HB2.out.size)); clear hb3
  have hz3 := hB3.lt
  go_wp2_with (first | (refine store_blk' (ty := 25) rfl rfl rfl rfl (info25' (n + 1) G) (winA_one _ _) (old := winA 0 noBits) (by rw [winA_size, winA_size]) (Blk.new w3 25 (winA 0 noBits)) ?_; intro w4 hX4 hG4 hz4; have HB4 := Lib.hid ((HB3.out.alloc HB3.out.size _).grown hG4 (by simp; omega) (by simp; omega)); have hB4 := (hB3.alloc (.cells (winA 0 noBits) 25)).grown hG4 (by simp; omega); clear hG4 hz4) | (refine load_blk (ty := 25) rfl rfl rfl Try.underlying25 rfl (info25' (n + 1) G) hX4 ?_) | fail)
  refine (wFresh_any (n + 1) G n _ HR'.out.1 HR'.out.2.1).mono ?_
  rintro e w5 ⟨rfl, hb5⟩
  rw [HFN.out]
  have hX5 := hX4.belowSelf hb5
  have hB5 := hB4.belowSelf hb5
  have HB5 := Lib.hid (HB4.out.trans (hb5.mono HB4.out.size)); clear hb5
  have hc5 := (hB5.cell 0).trans HT.out
  have hd5 := (hX5.cell 0).trans HX.out
  clear hB hB1 hB2 hB3 hB4 hX4 HB HB1 HB2 HB3 HB4
  generalize w3.heap.size = g at *
  go_wp2_with fail
  have hC : Cls2 w w.heap.size (winA t f) g (winA (n + 1) G) w5.drew := ⟨hB5.drew, hX5.drew, HB5.out.drew⟩
  have hN : Nonempty (InCl (Cls2 w w.heap.size (winA t f) g (winA (n + 1) G))) := ⟨⟨_, hC⟩⟩
  clear hc5 hd5
  refine wp_region_cls (Cl := Cls2 w w.heap.size (winA t f) g (winA (n + 1) G)) (by kernel_rfl) (by kernel_rfl) hC ?_
  repeat (first | go_big_quiet_skip | (refine q_load rfl (ty := 25) rfl rfl Try.underlying25 rfl (info25' t f) (t := 25) (fun _ hw => hw.1) ?_; simp only [Act.put, List.setIfInBounds_toArray, List.set_cons_succ, List.set_cons_zero]) | (refine q_load rfl (ty := 25) rfl rfl Try.underlying25 rfl (info25' (n + 1) G) (t := 25) (fun _ hw => hw.2.1) ?_; simp only [Act.put, List.setIfInBounds_toArray, List.set_cons_succ, List.set_cons_zero]) | (go_big_quiet_want; go_big_quiet_op; first | go_big_quiet_on | go_big_quiet_call ((go_at_call 13; exact cls2_call (HFM.out ▸ wFresh_any (n + 1) G o _ HR'.out.1 HR'.out.2.1)))))
  refine wpQuiet_nil ?_
  intro w6 hw6
  have HB6 := Lib.hid hw6.2.2
  go_wp2
  go_ret
  exact ⟨rfl, HB6.out⟩

set_option maxRecDepth 100000 in
set_option maxHeartbeats 8000000 in
theorem walk_far_a (t : Int) (f : Nat → Bool) (n o : Int) (_wo : -9223372036854775808 ≤ o ∧ o ≤ 9223372036854775807) (w : World) (hR : RightP t f) (hf : freshB t f n = true) (hT : t ≤ n) (ho : n - 1024 < o) (hon : o ≠ n) :
    Calls Try.prog 6 #[.agg (winA t f), .int .i64 n, .int .i64 o] w fun e w' => e = .returned (.bool true) ∧ Below w.heap.size w w' := by
  obtain ⟨hn0, hn1, _⟩ := fresh_range hf
  have hR0 := hR.1
  have hR1 := hR.2.1
  have hfm := fresh_mark t f n o hR0 hf
  have hfn := fresh_mark t f n n hR0 hf
  have hr' := right_mark t f n hR hf
  have hm := fun W => mark_ok t f n W hR0 hR1 hf
  rw [show max t (n + 1) = n + 1 by omega] at hfm hfn hr' hm
  simp only [ne_eq, not_true_eq_false, decide_false, Bool.false_and] at hfn
  generalize markG t f n = G at *
  have e1 : (o == n) = false := by rw [beq_eq_false_iff_ne]; omega
  have e2 : decide (n - 1024 < o) = true := by simp; omega
  have e3 : decide (o ≤ n - 1024) = false := by simp; omega
  rw [e2, show decide (o ≠ n) = true by simp; omega] at hfm
  simp only [Bool.true_and] at hfm
  have hxf : ∀ W : World, Calls Try.prog 13 #[.agg (winA (n + 1) G), .int .i64 o] W fun e w' => e = .returned (.bool (freshB t f o)) ∧ Below W.heap.size W w' := fun W => by
    have := wFresh_any (n + 1) G o W hr'.1 hr'.2.1
    rwa [hfm] at this
  have HXF := Lib.hid hxf; clear hxf
  have HM := Lib.hid hm; clear hm
  clear hfm
  have HFN := Lib.hid hfn; clear hfn
  have HR := Lib.hid hR; clear hR
  have HR' := Lib.hid hr'; clear hr'
  clear hf
  have hbt := winA_top t f
  have hbx := winA_top (n + 1) G
  have HT := Lib.hid hbt; clear hbt
  have HX := Lib.hid hbx; clear hbx
  have hB := Blk.new w 25 (winA t f)
  have HB := Lib.hid ((Below.refl w.heap.size w).alloc (Nat.le_refl _) (Obj.cells (winA t f) 25))
  go_enter Try.func6, Try.ntmps6
  go_wp2_with fail
  refine (shown_ok _).mono ?_
  rintro e w1 ⟨rfl, hb1⟩
  have hB1 := hB.belowSelf hb1
  have HB1 := Lib.hid (HB.out.trans (hb1.mono (by simp))); clear hb1
  go_wp2_with (first | (refine load_blk (ty := 25) rfl rfl rfl Try.underlying25 rfl (info25' t f) hB1 ?_) | fail)
  refine (rRight_t t f _ HR.out).mono ?_
  rintro e w2 ⟨rfl, hb2⟩
  have hB2 := hB1.belowSelf hb2
  have HB2 := Lib.hid (HB1.out.trans (hb2.mono HB1.out.size)); clear hb2
  go_wp2_with (first | (refine load_blk (ty := 25) rfl rfl rfl Try.underlying25 rfl (info25' t f) hB2 ?_) | fail)
  refine (HM.out _).mono ?_
  rintro e w3 ⟨rfl, hb3⟩
  have hB3 := hB2.belowSelf hb3
  have HB3 := Lib.hid (HB2.out.trans (hb3.mono HB2.out.size)); clear hb3
  have hz3 := hB3.lt
  go_wp2_with (first | (refine store_blk' (ty := 25) rfl rfl rfl rfl (info25' (n + 1) G) (winA_one _ _) (old := winA 0 noBits) (by rw [winA_size, winA_size]) (Blk.new w3 25 (winA 0 noBits)) ?_; intro w4 hX4 hG4 hz4; have HB4 := Lib.hid ((HB3.out.alloc HB3.out.size _).grown hG4 (by simp; omega) (by simp; omega)); have hB4 := (hB3.alloc (.cells (winA 0 noBits) 25)).grown hG4 (by simp; omega); clear hG4 hz4) | (refine load_blk (ty := 25) rfl rfl rfl Try.underlying25 rfl (info25' (n + 1) G) hX4 ?_) | fail)
  refine (wFresh_any (n + 1) G n _ HR'.out.1 HR'.out.2.1).mono ?_
  rintro e w5 ⟨rfl, hb5⟩
  rw [HFN.out]
  have hX5 := hX4.belowSelf hb5
  have hB5 := hB4.belowSelf hb5
  have HB5 := Lib.hid (HB4.out.trans (hb5.mono HB4.out.size)); clear hb5
  have hc5 := (hB5.cell 0).trans HT.out
  have hd5 := (hX5.cell 0).trans HX.out
  clear hB hB1 hB2 hB3 hB4 hX4 HB HB1 HB2 HB3 HB4
  generalize w3.heap.size = g at *
  go_wp2_with fail
  have hC : Cls2 w w.heap.size (winA t f) g (winA (n + 1) G) w5.drew := ⟨hB5.drew, hX5.drew, HB5.out.drew⟩
  have hN : Nonempty (InCl (Cls2 w w.heap.size (winA t f) g (winA (n + 1) G))) := ⟨⟨_, hC⟩⟩
  clear hc5 hd5
  refine wp_region_cls (Cl := Cls2 w w.heap.size (winA t f) g (winA (n + 1) G)) (by kernel_rfl) (by kernel_rfl) hC ?_
  repeat (first | go_big_quiet_skip | (refine q_load rfl (ty := 25) rfl rfl Try.underlying25 rfl (info25' t f) (t := 25) (fun _ hw => hw.1) ?_; simp only [Act.put, List.setIfInBounds_toArray, List.set_cons_succ, List.set_cons_zero]) | (refine q_load rfl (ty := 25) rfl rfl Try.underlying25 rfl (info25' (n + 1) G) (t := 25) (fun _ hw => hw.2.1) ?_; simp only [Act.put, List.setIfInBounds_toArray, List.set_cons_succ, List.set_cons_zero]) | (go_big_quiet_want; go_big_quiet_op; first | go_big_quiet_on | go_big_quiet_call ((go_at_call 13; first | (with_reducible exact cls2_call (wFresh_any t f o _ hR0 hR1)) | (exact cls2_call (HXF.out _))))))
  refine wpQuiet_nil ?_
  intro w6 hw6
  have HB6 := Lib.hid hw6.2.2
  go_wp2
  go_ret
  exact ⟨rfl, HB6.out⟩

set_option maxRecDepth 100000 in
set_option maxHeartbeats 8000000 in
theorem walk_old (t : Int) (f : Nat → Bool) (n o : Int) (w : World) (hR : RightP t f) (hf : freshB t f n = false) :
    Calls Try.prog 6 #[.agg (winA t f), .int .i64 n, .int .i64 o] w fun e w' => e = .returned (.bool true) ∧ Below w.heap.size w w' := by
  have hR0 := hR.1
  have hR1 := hR.2.1
  obtain ⟨k, hk, hk0⟩ : ∃ k : Int, (if n < 0 ∨ 4611686018427387904 < n then (1 : Int) else 6) = k ∧ (k = 1 ∨ k = 6) := by
    split
    · exact ⟨1, rfl, .inl rfl⟩
    · exact ⟨6, rfl, .inr rfl⟩
  have hm := fun W => mark_no t f n W hR0 hR1 hf
  rw [hk] at hm
  have hwq : weq t f t f = true := (weq_iff _ _ _ _).2 ⟨rfl, fun _ _ => rfl⟩
  have hne : (k != 0) = true := by rw [bne_iff_ne]; omega
  have HM := Lib.hid hm; clear hm hk
  have HF := Lib.hid hf; clear hf
  have HR := Lib.hid hR; clear hR
  have hB := Blk.new w 25 (winA t f)
  have HB := Lib.hid ((Below.refl w.heap.size w).alloc (Nat.le_refl _) (Obj.cells (winA t f) 25))
  go_enter Try.func6, Try.ntmps6
  go_wp2_with fail
  refine (shown_ok _).mono ?_
  rintro e w1 ⟨rfl, hb1⟩
  have hB1 := hB.belowSelf hb1
  have HB1 := Lib.hid (HB.out.trans (hb1.mono (by simp))); clear hb1
  go_wp2_with (first | (refine load_blk (ty := 25) rfl rfl rfl Try.underlying25 rfl (info25' t f) hB1 ?_) | fail)
  refine (rRight_t t f _ HR.out).mono ?_
  rintro e w2 ⟨rfl, hb2⟩
  have hB2 := hB1.belowSelf hb2
  have HB2 := Lib.hid (HB1.out.trans (hb2.mono HB1.out.size)); clear hb2
  go_wp2_with (first | (refine load_blk (ty := 25) rfl rfl rfl Try.underlying25 rfl (info25' t f) hB2 ?_) | fail)
  refine (HM.out _).mono ?_
  rintro e w3 ⟨rfl, hb3⟩
  have hB3 := hB2.belowSelf hb3
  have HB3 := Lib.hid (HB2.out.trans (hb3.mono HB2.out.size)); clear hb3
  have hz3 := hB3.lt
  go_wp2_with (first | (refine store_blk' (ty := 25) rfl rfl rfl rfl (info25' t f) (winA_one _ _) (old := winA 0 noBits) (by rw [winA_size, winA_size]) (Blk.new w3 25 (winA 0 noBits)) ?_; intro w4 hX4 hG4 hz4; have HB4 := Lib.hid ((HB3.out.alloc HB3.out.size _).grown hG4 (by simp; omega) (by simp; omega)); have hB4 := (hB3.alloc (.cells (winA 0 noBits) 25)).grown hG4 (by simp; omega); clear hG4 hz4) | (refine load_blk_g (ty := 25) (g := w3.heap.size) rfl rfl rfl Try.underlying25 rfl (info25' t f) hX4 ?_) | (refine load_blk_g (ty := 25) rfl rfl rfl Try.underlying25 rfl (info25' t f) hB4 ?_) | (refine eql_win_g rfl rfl rfl rfl ?_) | fail)
  refine (wFresh_any t f n _ hR0 hR1).mono ?_
  rintro e w5 ⟨rfl, hb5⟩
  rw [HF.out]
  have HB5 := Lib.hid (HB4.out.trans (hb5.mono HB4.out.size)); clear hb5
  go_wp2_with fail
  go_ret
  exact ⟨rfl, HB5.out⟩

set_option maxRecDepth 100000 in
set_option maxHeartbeats 8000000 in
theorem walk_wrong (t : Int) (f : Nat → Bool) (n o : Int) (w : World) (hR : ¬ RightP t f) :
    Calls Try.prog 6 #[.agg (winA t f), .int .i64 n, .int .i64 o] w fun e w' => e = .returned (.bool true) ∧ Below w.heap.size w w' := by
  have HR := Lib.hid hR; clear hR
  have hB := Blk.new w 25 (winA t f)
  have HB := Lib.hid ((Below.refl w.heap.size w).alloc (Nat.le_refl _) (Obj.cells (winA t f) 25))
  go_enter Try.func6, Try.ntmps6
  go_wp2_with fail
  refine (shown_ok _).mono ?_
  rintro e w1 ⟨rfl, hb1⟩
  have hB1 := hB.belowSelf hb1
  have HB1 := Lib.hid (HB.out.trans (hb1.mono (by simp))); clear hb1
  go_wp2_with (first | (refine load_blk (ty := 25) rfl rfl rfl Try.underlying25 rfl (info25' t f) hB1 ?_) | fail)
  refine (rRight_f t f _ HR.out).mono ?_
  rintro e w2 ⟨rfl, hb2⟩
  have HB2 := Lib.hid (HB1.out.trans (hb2.mono HB1.out.size)); clear hb2
  go_wp2_with fail
  go_ret
  exact ⟨rfl, HB2.out⟩

theorem walk (t : Int) (f : Nat → Bool) (_ : (Lit.int .i64 t).wf = true) (n : Int) (_ : (Lit.int .i64 n).wf = true) (o : Int) (wo : (Lit.int .i64 o).wf = true) (w : World) :
    Calls Try.prog 6 #[.agg (winA t f), .int .i64 n, .int .i64 o] w fun e w' => e = .returned (.bool true) ∧ Below w.heap.size w w' := by
  by_cases hR : RightP t f
  · cases hf : freshB t f n
    · exact walk_old t f n o w hR hf
    · have hb := bounds64 wo
      by_cases hT : n < t
      · by_cases ho : o = n
        · exact walk_same_b t f n o hb w hR hf hT ho
        · by_cases hl : o ≤ n - 1024
          · exact walk_low_b t f n o hb w hR hf hT hl
          · exact walk_far_b t f n o hb w hR hf hT (by omega) ho
      · by_cases ho : o = n
        · exact walk_same_a t f n o hb w hR hf (by omega) ho
        · by_cases hl : o ≤ n - 1024
          · exact walk_low_a t f n o hb w hR hf (by omega) hl
          · exact walk_far_a t f n o hb w hR hf (by omega) (by omega) ho
  · exact walk_wrong t f n o w hR

set_option maxRecDepth 100000 in
theorem lifted (os : Os) (started : os.Started) (H : Type) (enc : TypeId × Value → H) :
    ReturnsInHanded {} Try.checked os 6 .any (Rows.winLeavesSpec.pre6 enc Try.prog Try.f6 Rows.winLeavesRow.domain false) (Rows.winLeavesSpec.post enc Try.prog Try.f6 false true false false) := by
  refine returnsInHanded_of_change (C := Try.checked) own started (by kernel_rfl) Try.func6
    (ChangeSpec.witness6 (enc := enc) (C := Try.checked) false ⟨#[], #[.agg #[.int .i64 0, .int .u64 0, .int .u64 0, .int .u64 0, .int .u64 0, .int .u64 0, .int .u64 0, .int .u64 0, .int .u64 0, .int .u64 0, .int .u64 0, .int .u64 0, .int .u64 0, .int .u64 0, .int .u64 0, .int .u64 0, .int .u64 0], .int .i64 0, .int .i64 0], []⟩ 8 (by kernel_rfl) (by kernel_rfl) (by kernel_rfl) (by kernel_rfl)) ?_
  intro W base args ds gs before hval0 hW _ _
  have hval : ∀ (j : Nat) t v, Try.f6.params[j]? = some t → args[j]? = some v → Value.okWide Try.prog W .any base t v := hval0
  have hW' := hW
  obtain ⟨p, q, hA0, hV, rfl, _, _⟩ := hW
  have hA : DataW.TrodAll enc Try.prog W 0 (fun _ => true) true Try.f6.params.toList args.toList ds p := hA0
  rw [Try.params6] at hA hval
  obtain ⟨v0, vs0, d0, ds0, p0, q0, hargs, rfl, rfl, h0, r0x⟩ := trodAll_cons hA
  obtain ⟨v1, vs1, d1, ds1, p1, q1, rfl, rfl, rfl, h1, r1x⟩ := trodAll_cons r0x
  obtain ⟨v2, vs2, d2, ds2, p2, q2, rfl, rfl, rfl, h2, r2x⟩ := trodAll_cons r1x
  obtain ⟨rfl, rfl, rfl⟩ := trodAll_nil r2x
  obtain rfl : args = #[v0, v1, v2] := by cases args; simp_all
  obtain ⟨t0, f0, rfl, w0⟩ := open_win (hval 0 25 v0 rfl rfl) h0
  obtain ⟨a1, rfl, rfl, rfl, w1⟩ := open_int Try.underlying3 (hval 1 3 v1 rfl rfl) h1
  obtain ⟨a2, rfl, rfl, rfl, w2⟩ := open_int Try.underlying3 (hval 2 3 v2 rfl rfl) h2
  clear hA0 hval0
  refine (walk t0 f0 w0 a1 w1 a2 w2 W).mono fun e W' ⟨he, hg⟩ => ?_
  subst he
  exact ⟨_, rfl, law_post hW' rfl rfl (fun h => by subst h; exact ⟨rfl, rfl, rfl⟩) (by rw [Try.params6]; intro t ht; simp at ht; rcases ht with rfl | rfl | rfl <;> exact ⟨by kernel_rfl, of_decide_eq_true (by kernel_rfl)⟩) hg⟩

theorem over : Rows.winLeavesRow.holds Try.pinned (OpenSpec.ofChange Rows.winLeavesSpec) :=
  OpenClaim.holds_of_wide 6 Try.f6 rfl rfl rfl rfl rfl rfl rfl ⟨rfl, rfl, rfl, rfl, rfl⟩ rfl rfl rfl rfl rfl (by kernel_rfl) Try.func6 (by kernel_rfl)
    (of_decide_eq_true (by kernel_rfl)) (by unfold Func.isWrapper; first | (rw [if_pos (by decide +kernel)]; kernel_rfl) | (rw [if_neg (by decide +kernel)]; exact ⟨rfl, rfl⟩))
    (fun os started H enc _ => lifted os started H enc)

theorem proved : Rows.WinLeavesSaid :=
  over
#print axioms proved
end winLeaves
end Go.Proofs.Ytkmmfobnpapceaa
