/- WinMarks: a window in which a number was taken is as the document says: for every right window and every number. No condition. -/
import Derived.Test.YtkmmfobnpapceaaL
import Derived.Test.YtkmmfobnpapceaaS
namespace Go.Proofs.Ytkmmfobnpapceaa
open Go.ChangeShapes Go.WideShapes Go.ChangeAt Go.RowKit
namespace winMarks
attribute [local go_sem] winA_lit

set_option maxRecDepth 100000 in
set_option maxHeartbeats 8000000 in
theorem walk_right (t : Int) (f : Nat → Bool) (n : Int) (w : World) (hR : RightP t f) (T : Int) (G : Nat → Bool) (k : Int)
    (hm : ∀ W : World, Calls Try.prog 15 #[.agg (winA t f), .int .i64 n] W fun e w' => e = .returned (.tuple #[.agg (winA T G), .int .i64 k]) ∧ Below W.heap.size W w')
    (hr : ∀ W : World, Calls Try.prog 16 #[.agg (winA t f), .int .i64 n] W fun e w' => e = .returned (.tuple #[.agg (winA T G), .int .i64 k]) ∧ Below W.heap.size W w') :
    Calls Try.prog 4 #[.agg (winA t f), .int .i64 n] w fun e w' => e = .returned (.bool true) ∧ Below w.heap.size w w' := by
  have HM := Lib.hid hm; have HR2 := Lib.hid hr; have HR := Lib.hid hR
  clear hm hr hR
  have HQ := Lib.hid ((weq_iff T G T G).2 ⟨rfl, fun _ _ => rfl⟩)
  have bw_0 := Blk.new w 25 (winA (t) (f))
  have HB0 := Lib.hid ((Below.refl w.heap.size w).alloc (Nat.le_refl _) (Obj.cells (winA (t) (f)) 25))
  go_enter Try.func4, Try.ntmps4
  go_wp2_with fail
  refine (shown_ok _).mono ?_
  rintro e w1 ⟨rfl, hb1⟩
  have bw_1 := bw_0.belowSelf hb1
  have HB1 := Lib.hid (HB0.out.trans (hb1.mono (by simp)))
  clear hb1 HB0 bw_0
  go_wp2_with (first | (refine load_blk (ty := 25) rfl rfl rfl Try.underlying25 rfl (info25' (t) (f)) bw_1 ?_) | (refine load_blk_g (ty := 25) rfl rfl rfl Try.underlying25 rfl (info25' (t) (f)) bw_1 ?_) | fail)
  refine (rRight_t t f _ HR.out).mono ?_
  rintro e w2 ⟨rfl, hb2⟩
  have bw_2 := bw_1.belowSelf hb2
  have HB2 := Lib.hid (HB1.out.trans (hb2.mono (HB1.out.size)))
  clear hb2 HB1 bw_1
  go_wp2_with (first | (refine load_blk (ty := 25) rfl rfl rfl Try.underlying25 rfl (info25' (t) (f)) bw_2 ?_) | (refine load_blk_g (ty := 25) rfl rfl rfl Try.underlying25 rfl (info25' (t) (f)) bw_2 ?_) | fail)
  refine (HM.out _).mono ?_
  rintro e w3 ⟨rfl, hb3⟩
  have bw_3 := bw_2.belowSelf hb3
  have HB3 := Lib.hid (HB2.out.trans (hb3.mono (HB2.out.size)))
  clear hb3 HB2 bw_2
  have lwx := bw_3.lt
  go_wp2_with (first | (refine store_blk' (ty := 25) rfl rfl rfl rfl (info25' (T) (G)) (winA_one _ _) (old := winA 0 noBits) (by simp only [winA_size]) (Blk.new w3 25 (winA 0 noBits)) ?_; intro w4 bx_4 hG4 hz4; have HB4 := Lib.hid ((HB3.out.alloc HB3.out.size _).grown hG4 (by have := HB3.out.size; simp; omega) (by have := HB3.out.size; simp; omega)); have bw_4 := (bw_3.alloc (.cells (winA 0 noBits) 25)).grown hG4 (by simp; omega); clear hG4 hz4) | (refine load_blk (ty := 25) rfl rfl rfl Try.underlying25 rfl (info25' t f) bw_4 ?_) | fail)
  refine (HR2.out _).mono ?_
  rintro e w5 ⟨rfl, hb5⟩
  have bw_5 := bw_4.belowSelf hb5
  have bx_5 := bx_4.belowSelf hb5
  have HB5 := Lib.hid (HB4.out.trans (hb5.mono (HB4.out.size)))
  clear hb5 HB4 bw_4 bx_4
  have lwy := bw_5.lt
  have lxy := bx_5.lt
  go_wp2_with (first | (refine store_blk' (ty := 25) rfl rfl rfl rfl (info25' (T) (G)) (winA_one _ _) (old := winA 0 noBits) (by simp only [winA_size]) (Blk.new w5 25 (winA 0 noBits)) ?_; intro w6 bq_6 hG6 hz6; have HB6 := Lib.hid ((HB5.out.alloc HB5.out.size _).grown hG6 (by have := HB5.out.size; simp; omega) (by have := HB5.out.size; simp; omega)); have bw_6 := (bw_5.alloc (.cells (winA 0 noBits) 25)).grown hG6 (by simp; omega); have bx_6 := (bx_5.alloc (.cells (winA 0 noBits) 25)).grown hG6 (by simp; omega); clear hG6 hz6) | (refine load_blk_g (ty := 25) rfl rfl rfl Try.underlying25 rfl (info25' T G) bx_6 ?_) | (refine load_blk_g (ty := 25) rfl rfl rfl Try.underlying25 rfl (info25' T G) bq_6 ?_) | (refine eql_win_g rfl rfl rfl rfl ?_; rw [HQ.out]) | fail)
  go_ret
  exact ⟨rfl, HB6.out⟩
set_option maxRecDepth 100000 in
set_option maxHeartbeats 8000000 in
theorem walk_wrong (t : Int) (f : Nat → Bool) (n : Int) (w : World) (hR : ¬ RightP t f) :
    Calls Try.prog 4 #[.agg (winA t f), .int .i64 n] w fun e w' => e = .returned (.bool true) ∧ Below w.heap.size w w' := by
  have HR := Lib.hid hR
  clear hR
  have bw_0 := Blk.new w 25 (winA (t) (f))
  have HB0 := Lib.hid ((Below.refl w.heap.size w).alloc (Nat.le_refl _) (Obj.cells (winA (t) (f)) 25))
  go_enter Try.func4, Try.ntmps4
  go_wp2_with fail
  refine (shown_ok _).mono ?_
  rintro e w1 ⟨rfl, hb1⟩
  have bw_1 := bw_0.belowSelf hb1
  have HB1 := Lib.hid (HB0.out.trans (hb1.mono (by simp)))
  clear hb1 HB0 bw_0
  go_wp2_with (first | (refine load_blk (ty := 25) rfl rfl rfl Try.underlying25 rfl (info25' (t) (f)) bw_1 ?_) | (refine load_blk_g (ty := 25) rfl rfl rfl Try.underlying25 rfl (info25' (t) (f)) bw_1 ?_) | fail)
  refine (rRight_f t f _ HR.out).mono ?_
  rintro e w2 ⟨rfl, hb2⟩
  have bw_2 := bw_1.belowSelf hb2
  have HB2 := Lib.hid (HB1.out.trans (hb2.mono (HB1.out.size)))
  clear hb2 HB1 bw_1
  go_wp2_with fail
  go_ret
  exact ⟨rfl, HB2.out⟩

theorem walk (t : Int) (f : Nat → Bool) (_ : (Lit.int .i64 t).wf = true) (n : Int) (_ : (Lit.int .i64 n).wf = true) (w : World) :
    Calls Try.prog 4 #[.agg (winA t f), .int .i64 n] w fun e w' => e = .returned (.bool true) ∧ Below w.heap.size w w' := by
  by_cases hR : RightP t f
  · cases hf : freshB t f n
    · exact walk_right t f n w hR _ _ _ (fun W => mark_no t f n W hR.1 hR.2.1 hf) (fun W => rMark_no t f n W hR hf)
    · exact walk_right t f n w hR _ _ _ (fun W => mark_ok t f n W hR.1 hR.2.1 hf) (fun W => rMark_ok t f n W hR hf)
  · exact walk_wrong t f n w hR

set_option maxRecDepth 100000 in
theorem lifted (os : Os) (started : os.Started) (H : Type) (enc : TypeId × Value → H) :
    ReturnsInHanded {} Try.checked os 4 .any (Rows.winMarksSpec.pre6 enc Try.prog Try.f4 Rows.winMarksRow.domain false) (Rows.winMarksSpec.post enc Try.prog Try.f4 false true false false) := by
  refine returnsInHanded_of_change (C := Try.checked) own started (by kernel_rfl) Try.func4
    (ChangeSpec.witness6 (enc := enc) (C := Try.checked) false ⟨#[], #[.agg #[.int .i64 0, .int .u64 0, .int .u64 0, .int .u64 0, .int .u64 0, .int .u64 0, .int .u64 0, .int .u64 0, .int .u64 0, .int .u64 0, .int .u64 0, .int .u64 0, .int .u64 0, .int .u64 0, .int .u64 0, .int .u64 0, .int .u64 0], .int .i64 0], []⟩ 8 (by kernel_rfl) (by kernel_rfl) (by kernel_rfl) (by kernel_rfl)) ?_
  intro W base args ds gs before hval0 hW _ _
  have hval : ∀ (j : Nat) t v, Try.f4.params[j]? = some t → args[j]? = some v → Value.okWide Try.prog W .any base t v := hval0
  have hW' := hW
  obtain ⟨p, q, hA0, hV, rfl, _, _⟩ := hW
  have hA : DataW.TrodAll enc Try.prog W 0 (fun _ => true) true Try.f4.params.toList args.toList ds p := hA0
  rw [Try.params4] at hA hval
  obtain ⟨v0, vs0, d0, ds0, p0, q0, hargs, rfl, rfl, h0, r0x⟩ := trodAll_cons hA
  obtain ⟨v1, vs1, d1, ds1, p1, q1, rfl, rfl, rfl, h1, r1x⟩ := trodAll_cons r0x
  obtain ⟨rfl, rfl, rfl⟩ := trodAll_nil r1x
  obtain rfl : args = #[v0, v1] := by cases args; simp_all
  obtain ⟨t0, f0, rfl, w0⟩ := open_win (hval 0 25 v0 rfl rfl) h0
  obtain ⟨a1, rfl, rfl, rfl, w1⟩ := open_int Try.underlying3 (hval 1 3 v1 rfl rfl) h1
  clear hA0 hval0
  refine (walk t0 f0 w0 a1 w1 W).mono fun e W' ⟨he, hg⟩ => ?_
  subst he
  exact ⟨_, rfl, law_post hW' rfl rfl (fun h => by subst h; exact ⟨rfl, rfl, rfl⟩) (by rw [Try.params4]; intro t ht; simp at ht; rcases ht with rfl | rfl <;> exact ⟨by kernel_rfl, of_decide_eq_true (by kernel_rfl)⟩) hg⟩

theorem over : Rows.winMarksRow.holds Try.pinned (OpenSpec.ofChange Rows.winMarksSpec) :=
  OpenClaim.holds_of_wide 4 Try.f4 rfl rfl rfl rfl rfl rfl rfl ⟨rfl, rfl, rfl, rfl, rfl⟩ rfl rfl rfl rfl rfl (by kernel_rfl) Try.func4 (by kernel_rfl)
    (of_decide_eq_true (by kernel_rfl)) (by unfold Func.isWrapper; first | (rw [if_pos (by decide +kernel)]; kernel_rfl) | (rw [if_neg (by decide +kernel)]; exact ⟨rfl, rfl⟩))
    (fun os started H enc _ => lifted os started H enc)

theorem proved : Rows.WinMarksSaid :=
  over
#print axioms proved
end winMarks
end Go.Proofs.Ytkmmfobnpapceaa
