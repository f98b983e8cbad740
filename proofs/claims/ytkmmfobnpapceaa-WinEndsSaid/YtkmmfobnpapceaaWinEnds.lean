/- WinEnds: the greatest number is taken once, and none above it; behind it just the last 1024 count: for every window and number. No condition. -/
import Derived.Test.YtkmmfobnpapceaaL
import Derived.Test.YtkmmfobnpapceaaP
namespace Go.Proofs.Ytkmmfobnpapceaa
open Go.ChangeShapes Go.WideShapes Go.ChangeAt Go.RowKit
namespace winEnds
attribute [local go_sem] winA_lit

set_option maxRecDepth 100000 in
set_option maxHeartbeats 8000000 in
theorem walk_ok (t : Int) (f : Nat → Bool) (a : Int) (ha : 0 ≤ a ∧ a ≤ 65535) (w : World) (hR : RightP t f) (ht : t ≤ 4611686018427382904) :
    Calls Try.prog 8 #[.agg (winA t f), .int .u16 a] w fun e w' => e = .returned (.bool true) ∧ Below w.heap.size w w' := by
  have hR0 := hR.1
  have hfl : freshB t f 4611686018427387904 = true := freshB_high (by omega) (by omega) (by omega)
  have hm := fun W => mark_ok t f 4611686018427387904 W hR0 (by omega) hfl
  have hr' := right_mark t f 4611686018427387904 hR hfl
  have hfm := fun o => fresh_mark t f 4611686018427387904 o hR0 hfl
  rw [show max t ((4611686018427387904 : Int) + 1) = 4611686018427387905 by omega] at hm hr'
  rw [show max t ((4611686018427387904 : Int) + 1) = 4611686018427387905 by omega] at hfm
  generalize markG t f 4611686018427387904 = G at *
  have hself : freshB 4611686018427387905 G 4611686018427387904 = false := by rw [hfm]; simp
  have hm2 : ∀ W : World, Calls Try.prog 15 #[.agg (winA 4611686018427387905 G), .int .i64 4611686018427387904] W fun e w' => e = .returned (.tuple #[.agg (winA 4611686018427387905 G), .int .i64 6]) ∧ Below W.heap.size W w' := fun W => mark_no 4611686018427387905 G 4611686018427387904 W (by omega) (by omega) hself
  have hm3 : ∀ W : World, Calls Try.prog 15 #[.agg (winA 4611686018427387905 G), .int .i64 4611686018427387905] W fun e w' => e = .returned (.tuple #[.agg (winA 4611686018427387905 G), .int .i64 1]) ∧ Below W.heap.size W w' := fun W => mark_no 4611686018427387905 G 4611686018427387905 W (by omega) (by omega) (freshB_out (by omega))
  have hk : freshB 4611686018427387905 G (4611686018427387904 - a % 3000) = (decide (0 < a % 3000) && decide (a % 3000 < 1024)) := by
    rw [hfm]
    by_cases k0 : a % 3000 = 0
    · rw [k0]; simp
    · by_cases k1 : a % 3000 < 1024
      · rw [freshB_high (by omega) (by omega) (by omega)]
        have h1 : decide (((4611686018427387904 : Int) - a % 3000) ≠ 4611686018427387904) = true := by simp; omega
        have h2 : decide (((4611686018427387904 : Int) - 1024) < 4611686018427387904 - a % 3000) = true := by simp; omega
        rw [h1, h2, show decide (0 < a % 3000) = true by simp; omega, show decide (a % 3000 < 1024) = true by simp; omega]; rfl
      · have h2 : decide (((4611686018427387904 : Int) - 1024) < 4611686018427387904 - a % 3000) = false := by simp; omega
        rw [h2, show decide (a % 3000 < 1024) = false by simp; omega]; simp
  obtain ⟨k, hkk⟩ : ∃ k, a % 3000 = k := ⟨_, rfl⟩
  have hk0 : 0 ≤ k := by omega
  have hk1 : k < 3000 := by omega
  rw [hkk] at hk
  have hm4 : ∀ W : World, Calls Try.prog 13 #[.agg (winA 4611686018427387905 G), .int .i64 (4611686018427387904 - k)] W fun e w' => e = .returned (.bool (decide (0 < k) && decide (k < 1024))) ∧ Below W.heap.size W w' := fun W => by
    have := wFresh_any 4611686018427387905 G (4611686018427387904 - k) W (by omega) (by omega)
    rwa [hk] at this
  have HM := Lib.hid hm; have HM2 := Lib.hid hm2; have HM3 := Lib.hid hm3; have HM4 := Lib.hid hm4; have HR := Lib.hid hR
  clear hm hm2 hm3 hm4 hR hr' hfm hself hfl hk
  have d0 : decide (4611686018427382904 < t) = false := by simp; omega
  have bw_0 := Blk.new w 25 (winA (t) (f))
  have HB0 := Lib.hid ((Below.refl w.heap.size w).alloc (Nat.le_refl _) (Obj.cells (winA (t) (f)) 25))
  have cw_0 := (bw_0.cell 0).trans (winA_top (t) (f))
  go_enter Try.func8, Try.ntmps8
  go_wp2_with fail
  refine (shown_ok _).mono ?_
  rintro e w1 ⟨rfl, hb1⟩
  have bw_1 := bw_0.belowSelf hb1
  have HB1 := Lib.hid (HB0.out.trans (hb1.mono (by simp)))
  clear hb1 HB0 bw_0
  have cw_1 := (bw_1.cell 0).trans (winA_top (t) (f))
  go_wp2_with (first | (refine load_blk (ty := 25) rfl rfl rfl Try.underlying25 rfl (info25' (t) (f)) bw_1 ?_) | (refine load_blk_g (ty := 25) rfl rfl rfl Try.underlying25 rfl (info25' (t) (f)) bw_1 ?_) | fail)
  refine (rRight_t t f _ HR.out).mono ?_
  rintro e w2 ⟨rfl, hb2⟩
  have bw_2 := bw_1.belowSelf hb2
  have HB2 := Lib.hid (HB1.out.trans (hb2.mono (HB1.out.size)))
  clear hb2 HB1 bw_1
  have cw_2 := (bw_2.cell 0).trans (winA_top (t) (f))
  go_wp2_with (first | (refine load_blk (ty := 25) rfl rfl rfl Try.underlying25 rfl (info25' (t) (f)) bw_2 ?_) | (refine load_blk_g (ty := 25) rfl rfl rfl Try.underlying25 rfl (info25' (t) (f)) bw_2 ?_) | fail)
  refine (HM.out _).mono ?_
  rintro e w3 ⟨rfl, hb3⟩
  have bw_3 := bw_2.belowSelf hb3
  have HB3 := Lib.hid (HB2.out.trans (hb3.mono (HB2.out.size)))
  clear hb3 HB2 bw_2
  have lwx := bw_3.lt
  go_wp2_with (first | (refine store_blk' (ty := 25) rfl rfl rfl rfl (info25' (4611686018427387905) (G)) (winA_one _ _) (old := winA 0 noBits) (by simp only [winA_size]) (Blk.new w3 25 (winA 0 noBits)) ?_; intro w4 bx_4 hG4 hz4; have HB4 := Lib.hid ((HB3.out.alloc HB3.out.size _).grown hG4 (by have := HB3.out.size; simp; omega) (by have := HB3.out.size; simp; omega)); have bw_4 := (bw_3.alloc (.cells (winA 0 noBits) 25)).grown hG4 (by simp; omega); clear hG4 hz4) | (refine load_blk (ty := 25) rfl rfl rfl Try.underlying25 rfl (info25' (t) (f)) bw_4 ?_) | (refine load_blk_g (ty := 25) rfl rfl rfl Try.underlying25 rfl (info25' (t) (f)) bw_4 ?_) | (refine load_blk (ty := 25) rfl rfl rfl Try.underlying25 rfl (info25' (4611686018427387905) (G)) bx_4 ?_) | (refine load_blk_g (ty := 25) rfl rfl rfl Try.underlying25 rfl (info25' (4611686018427387905) (G)) bx_4 ?_) | fail)
  refine (HM2.out _).mono ?_
  rintro e w5 ⟨rfl, hb5⟩
  have bw_5 := bw_4.belowSelf hb5
  have bx_5 := bx_4.belowSelf hb5
  have HB5 := Lib.hid (HB4.out.trans (hb5.mono (HB4.out.size)))
  clear hb5 HB4 bw_4 bx_4
  have lwy := bw_5.lt
  have lxy := bx_5.lt
  go_wp2_with (first | (refine store_blk' (ty := 25) rfl rfl rfl rfl (info25' (4611686018427387905) (G)) (winA_one _ _) (old := winA 0 noBits) (by simp only [winA_size]) (Blk.new w5 25 (winA 0 noBits)) ?_; intro w6 by_6 hG6 hz6; have HB6 := Lib.hid ((HB5.out.alloc HB5.out.size _).grown hG6 (by have := HB5.out.size; simp; omega) (by have := HB5.out.size; simp; omega)); have bw_6 := (bw_5.alloc (.cells (winA 0 noBits) 25)).grown hG6 (by simp; omega); have bx_6 := (bx_5.alloc (.cells (winA 0 noBits) 25)).grown hG6 (by simp; omega); clear hG6 hz6) | (refine load_blk (ty := 25) rfl rfl rfl Try.underlying25 rfl (info25' (t) (f)) bw_6 ?_) | (refine load_blk_g (ty := 25) rfl rfl rfl Try.underlying25 rfl (info25' (t) (f)) bw_6 ?_) | (refine load_blk (ty := 25) rfl rfl rfl Try.underlying25 rfl (info25' (4611686018427387905) (G)) bx_6 ?_) | (refine load_blk_g (ty := 25) rfl rfl rfl Try.underlying25 rfl (info25' (4611686018427387905) (G)) bx_6 ?_) | (refine load_blk (ty := 25) rfl rfl rfl Try.underlying25 rfl (info25' (4611686018427387905) (G)) by_6 ?_) | (refine load_blk_g (ty := 25) rfl rfl rfl Try.underlying25 rfl (info25' (4611686018427387905) (G)) by_6 ?_) | fail)
  refine (HM3.out _).mono ?_
  rintro e w7 ⟨rfl, hb7⟩
  have bw_7 := bw_6.belowSelf hb7
  have bx_7 := bx_6.belowSelf hb7
  have by_7 := by_6.belowSelf hb7
  have HB7 := Lib.hid (HB6.out.trans (hb7.mono (HB6.out.size)))
  clear hb7 HB6 bw_6 bx_6 by_6
  have lwz := bw_7.lt
  have lxz := bx_7.lt
  go_wp2_with (first | (refine store_blk' (ty := 25) rfl rfl rfl rfl (info25' (4611686018427387905) (G)) (winA_one _ _) (old := winA 0 noBits) (by simp only [winA_size]) (Blk.new w7 25 (winA 0 noBits)) ?_; intro w8 bz_8 hG8 hz8; have HB8 := Lib.hid ((HB7.out.alloc HB7.out.size _).grown hG8 (by have := HB7.out.size; simp; omega) (by have := HB7.out.size; simp; omega)); have bw_8 := (bw_7.alloc (.cells (winA 0 noBits) 25)).grown hG8 (by simp; omega); have bx_8 := (bx_7.alloc (.cells (winA 0 noBits) 25)).grown hG8 (by simp; omega); have cx_8 := (bx_8.cell 0).trans (winA_top (4611686018427387905) (G)); clear hG8 hz8) | (refine load_blk (ty := 25) rfl rfl rfl Try.underlying25 rfl (info25' (t) (f)) bw_8 ?_) | (refine load_blk_g (ty := 25) rfl rfl rfl Try.underlying25 rfl (info25' (t) (f)) bw_8 ?_) | (refine load_blk (ty := 25) rfl rfl rfl Try.underlying25 rfl (info25' (4611686018427387905) (G)) bx_8 ?_) | (refine load_blk_g (ty := 25) rfl rfl rfl Try.underlying25 rfl (info25' (4611686018427387905) (G)) bx_8 ?_) | (refine load_blk (ty := 25) rfl rfl rfl Try.underlying25 rfl (info25' (4611686018427387905) (G)) bz_8 ?_) | (refine load_blk_g (ty := 25) rfl rfl rfl Try.underlying25 rfl (info25' (4611686018427387905) (G)) bz_8 ?_) | fail)
  clear hkk
  by_cases hkp : 0 < k
  · have d1 : decide (0 < k) = true := by simp; omega
    refine (HM4.out _).mono ?_
    rintro e w9 ⟨rfl, hb9⟩
    have bw_9 := bw_8.belowSelf hb9
    have bx_9 := bx_8.belowSelf hb9
    have bz_9 := bz_8.belowSelf hb9
    have HB9 := Lib.hid (HB8.out.trans (hb9.mono (HB8.out.size)))
    clear hb9 HB8 bw_8 bx_8 bz_8
    go_wp2_with (first | (refine load_blk (ty := 25) rfl rfl rfl Try.underlying25 rfl (info25' (t) (f)) bw_9 ?_) | (refine load_blk_g (ty := 25) rfl rfl rfl Try.underlying25 rfl (info25' (t) (f)) bw_9 ?_) | (refine load_blk (ty := 25) rfl rfl rfl Try.underlying25 rfl (info25' (4611686018427387905) (G)) bx_9 ?_) | (refine load_blk_g (ty := 25) rfl rfl rfl Try.underlying25 rfl (info25' (4611686018427387905) (G)) bx_9 ?_) | (refine load_blk (ty := 25) rfl rfl rfl Try.underlying25 rfl (info25' (4611686018427387905) (G)) bz_9 ?_) | (refine load_blk_g (ty := 25) rfl rfl rfl Try.underlying25 rfl (info25' (4611686018427387905) (G)) bz_9 ?_) | fail)
    go_ret
    exact ⟨rfl, HB9.out⟩
  · have d1 : decide (0 < k) = false := by simp; omega
    refine (HM4.out _).mono ?_
    rintro e w9 ⟨rfl, hb9⟩
    have bw_9 := bw_8.belowSelf hb9
    have bx_9 := bx_8.belowSelf hb9
    have bz_9 := bz_8.belowSelf hb9
    have HB9 := Lib.hid (HB8.out.trans (hb9.mono (HB8.out.size)))
    clear hb9 HB8 bw_8 bx_8 bz_8
    go_wp2_with (first | (refine load_blk (ty := 25) rfl rfl rfl Try.underlying25 rfl (info25' (t) (f)) bw_9 ?_) | (refine load_blk_g (ty := 25) rfl rfl rfl Try.underlying25 rfl (info25' (t) (f)) bw_9 ?_) | (refine load_blk (ty := 25) rfl rfl rfl Try.underlying25 rfl (info25' (4611686018427387905) (G)) bx_9 ?_) | (refine load_blk_g (ty := 25) rfl rfl rfl Try.underlying25 rfl (info25' (4611686018427387905) (G)) bx_9 ?_) | (refine load_blk (ty := 25) rfl rfl rfl Try.underlying25 rfl (info25' (4611686018427387905) (G)) bz_9 ?_) | (refine load_blk_g (ty := 25) rfl rfl rfl Try.underlying25 rfl (info25' (4611686018427387905) (G)) bz_9 ?_) | fail)
    go_ret
    exact ⟨rfl, HB9.out⟩
set_option maxRecDepth 100000 in
set_option maxHeartbeats 8000000 in

theorem walk_no (t : Int) (f : Nat → Bool) (a : Int) (w : World) (hR : ¬ RightP t f) :
    Calls Try.prog 8 #[.agg (winA t f), .int .u16 a] w fun e w' => e = .returned (.bool true) ∧ Below w.heap.size w w' := by
  have HR := Lib.hid hR
  clear hR
  have bw_0 := Blk.new w 25 (winA (t) (f))
  have HB0 := Lib.hid ((Below.refl w.heap.size w).alloc (Nat.le_refl _) (Obj.cells (winA (t) (f)) 25))
  go_enter Try.func8, Try.ntmps8
  go_wp2_with fail
  refine (shown_ok _).mono ?_
  rintro e w1 ⟨rfl, hb1⟩
  have bw_1 := bw_0.belowSelf hb1
  have HB1 := Lib.hid (HB0.out.trans (hb1.mono (by simp)))
  clear hb1 HB0 bw_0
  go_wp2_with (first | (refine load_blk (ty := 25) rfl rfl rfl Try.underlying25 rfl (info25' (t) (f)) bw_1 ?_) | (refine load_blk_g (ty := 25) rfl rfl rfl Try.underlying25 rfl (info25' (t) (f)) bw_1 ?_) | fail)
  refine (rRight_f t f _ HR.out).mono ?_
  rintro e w2 ⟨rfl, hb2⟩
  have bw_2 := bw_1.belowSelf hb2
  have HB2 := Lib.hid (HB1.out.trans (hb2.mono (HB1.out.size)))
  clear hb2 HB1 bw_1
  go_wp2_with fail
  go_ret
  exact ⟨rfl, HB2.out⟩
set_option maxRecDepth 100000 in
set_option maxHeartbeats 8000000 in

theorem walk_big (t : Int) (f : Nat → Bool) (a : Int) (w : World) (hR : RightP t f) (ht : 4611686018427382904 < t) :
    Calls Try.prog 8 #[.agg (winA t f), .int .u16 a] w fun e w' => e = .returned (.bool true) ∧ Below w.heap.size w w' := by
  have HR := Lib.hid hR
  clear hR
  have d0 : decide (4611686018427382904 < t) = true := by simp; omega
  have bw_0 := Blk.new w 25 (winA (t) (f))
  have HB0 := Lib.hid ((Below.refl w.heap.size w).alloc (Nat.le_refl _) (Obj.cells (winA (t) (f)) 25))
  go_enter Try.func8, Try.ntmps8
  go_wp2_with fail
  refine (shown_ok _).mono ?_
  rintro e w1 ⟨rfl, hb1⟩
  have bw_1 := bw_0.belowSelf hb1
  have HB1 := Lib.hid (HB0.out.trans (hb1.mono (by simp)))
  clear hb1 HB0 bw_0
  go_wp2_with (first | (refine load_blk (ty := 25) rfl rfl rfl Try.underlying25 rfl (info25' (t) (f)) bw_1 ?_) | (refine load_blk_g (ty := 25) rfl rfl rfl Try.underlying25 rfl (info25' (t) (f)) bw_1 ?_) | fail)
  refine (rRight_t t f _ HR.out).mono ?_
  rintro e w2 ⟨rfl, hb2⟩
  have bw_2 := bw_1.belowSelf hb2
  have HB2 := Lib.hid (HB1.out.trans (hb2.mono (HB1.out.size)))
  clear hb2 HB1 bw_1
  have cw_2 := (bw_2.cell 0).trans (winA_top (t) (f))
  go_wp2_with fail
  go_ret
  exact ⟨rfl, HB2.out⟩

theorem walk (t : Int) (f : Nat → Bool) (_ : (Lit.int .i64 t).wf = true) (a : Int) (wa : (Lit.int .u16 a).wf = true) (w : World) :
    Calls Try.prog 8 #[.agg (winA t f), .int .u16 a] w fun e w' => e = .returned (.bool true) ∧ Below w.heap.size w w' := by
  by_cases hR : RightP t f
  · by_cases ht : t ≤ 4611686018427382904
    · exact walk_ok t f a (bounds16 wa) w hR ht
    · exact walk_big t f a w hR (by omega)
  · exact walk_no t f a w hR

set_option maxRecDepth 100000 in
theorem lifted (os : Os) (started : os.Started) (H : Type) (enc : TypeId × Value → H) :
    ReturnsInHanded {} Try.checked os 8 .any (Rows.winEndsSpec.pre6 enc Try.prog Try.f8 Rows.winEndsRow.domain false) (Rows.winEndsSpec.post enc Try.prog Try.f8 false true false false) := by
  refine returnsInHanded_of_change (C := Try.checked) own started (by kernel_rfl) Try.func8
    (ChangeSpec.witness6 (enc := enc) (C := Try.checked) false ⟨#[], #[.agg #[.int .i64 0, .int .u64 0, .int .u64 0, .int .u64 0, .int .u64 0, .int .u64 0, .int .u64 0, .int .u64 0, .int .u64 0, .int .u64 0, .int .u64 0, .int .u64 0, .int .u64 0, .int .u64 0, .int .u64 0, .int .u64 0, .int .u64 0], .int .u16 0], []⟩ 8 (by kernel_rfl) (by kernel_rfl) (by kernel_rfl) (by kernel_rfl)) ?_
  intro W base args ds gs before hval0 hW _ _
  have hval : ∀ (j : Nat) t v, Try.f8.params[j]? = some t → args[j]? = some v → Value.okWide Try.prog W .any base t v := hval0
  have hW' := hW
  obtain ⟨p, q, hA0, hV, rfl, _, _⟩ := hW
  have hA : DataW.TrodAll enc Try.prog W 0 (fun _ => true) true Try.f8.params.toList args.toList ds p := hA0
  rw [Try.params8] at hA hval
  obtain ⟨v0, vs0, d0, ds0, p0, q0, hargs, rfl, rfl, h0, r0x⟩ := trodAll_cons hA
  obtain ⟨v1, vs1, d1, ds1, p1, q1, rfl, rfl, rfl, h1, r1x⟩ := trodAll_cons r0x
  obtain ⟨rfl, rfl, rfl⟩ := trodAll_nil r1x
  obtain rfl : args = #[v0, v1] := by cases args; simp_all
  obtain ⟨t0, f0, rfl, w0⟩ := open_win (hval 0 25 v0 rfl rfl) h0
  obtain ⟨a1, rfl, rfl, rfl, w1⟩ := open_int Try.underlying37 (hval 1 37 v1 rfl rfl) h1
  clear hA0 hval0
  refine (walk t0 f0 w0 a1 w1 W).mono fun e W' ⟨he, hg⟩ => ?_
  subst he
  exact ⟨_, rfl, law_post hW' rfl rfl (fun h => by subst h; exact ⟨rfl, rfl, rfl⟩) (by rw [Try.params8]; intro t ht; simp at ht; rcases ht with rfl | rfl <;> exact ⟨by kernel_rfl, of_decide_eq_true (by kernel_rfl)⟩) hg⟩

theorem over : Rows.winEndsRow.holds Try.pinned (OpenSpec.ofChange Rows.winEndsSpec) :=
  OpenClaim.holds_of_wide 8 Try.f8 rfl rfl rfl rfl rfl rfl rfl ⟨rfl, rfl, rfl, rfl, rfl⟩ rfl rfl rfl rfl rfl (by kernel_rfl) Try.func8 (by kernel_rfl)
    (of_decide_eq_true (by kernel_rfl)) (by unfold Func.isWrapper; first | (rw [if_pos (by decide +kernel)]; kernel_rfl) | (rw [if_neg (by decide +kernel)]; exact ⟨rfl, rfl⟩))
    (fun os started H enc _ => lifted os started H enc)

theorem proved : Rows.WinEndsSaid :=
  over
#print axioms proved
end winEnds
end Go.Proofs.Ytkmmfobnpapceaa
