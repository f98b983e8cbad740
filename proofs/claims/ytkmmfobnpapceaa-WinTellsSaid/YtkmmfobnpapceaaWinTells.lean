/- WinTells: which windows are right, and which numbers may be taken, are as the document says: for every window and every number. No condition. -/
import Derived.Test.YtkmmfobnpapceaaL
namespace Go.Proofs.Ytkmmfobnpapceaa
open Go.ChangeShapes Go.WideShapes Go.ChangeAt Go.RowKit
namespace winTells
set_option maxRecDepth 100000 in
set_option maxHeartbeats 4000000 in
theorem walk_t (t : Int) (f : Nat → Bool) (a : Int) (w : World) (hR : RightP t f) :
    Calls Try.prog 3 #[.agg (winA t f), .int .i64 a] w fun e w' => e = .returned (.bool true) ∧ Below w.heap.size w w' := by
  have hB := Blk.new w 25 (winA t f)
  have HB := Lib.hid ((Below.refl w.heap.size w).alloc (Nat.le_refl _) (Obj.cells (winA t f) 25))
  go_enter Try.func3, Try.ntmps3
  go_wp2_with fail
  refine (shown_ok _).mono ?_
  rintro e w1 ⟨rfl, hb1⟩
  have hB1 := hB.belowSelf hb1
  have HB1 := Lib.hid (HB.out.trans (hb1.mono (by simp))); clear hb1
  go_wp2_with (first | (refine load_blk (ty := 25) rfl rfl rfl Try.underlying25 rfl (info25' t f) hB1 ?_) | fail)
  refine (rRight_t t f _ hR).mono ?_
  rintro e w2 ⟨rfl, hb2⟩
  have hB2 := hB1.belowSelf hb2
  have HB2 := Lib.hid (HB1.out.trans (hb2.mono HB1.out.size)); clear hb2
  go_wp2_with fail
  have hC : Cls1 w w.heap.size (winA t f) w2.drew := ⟨hB2.drew, HB2.out.drew⟩
  have hN : Nonempty (InCl (Cls1 w w.heap.size (winA t f))) := ⟨⟨_, hC⟩⟩
  refine wp_region_cls (Cl := Cls1 w w.heap.size (winA t f)) (by kernel_rfl) (by kernel_rfl) hC ?_
  repeat (first | go_big_quiet_skip | (refine q_load rfl (ty := 25) rfl rfl Try.underlying25 rfl (info25' t f) (t := 25) (fun _ hw => hw.1) ?_; simp only [Act.put, List.setIfInBounds_toArray, List.set_cons_succ, List.set_cons_zero]) | (go_big_quiet_want; go_big_quiet_op; first | go_big_quiet_on | go_big_quiet_call ((first | (go_at_call 12; exact cls1_call (wRight_t t f _ hR)) | (go_at_call 13; exact cls1_call (wFresh_any t f a _ hR.1 hR.2.1)) | (go_at_call 14; exact cls1_call (rFresh_any t f a _ hR.1 hR.2.1))))))
  refine wpQuiet_nil ?_
  intro w3 hw3
  have HB3 := Lib.hid hw3.2
  go_wp2
  go_ret
  exact ⟨rfl, HB3.out⟩

set_option maxRecDepth 100000 in
set_option maxHeartbeats 4000000 in
theorem walk_f (t : Int) (f : Nat → Bool) (a : Int) (w : World) (hR : ¬ RightP t f) :
    Calls Try.prog 3 #[.agg (winA t f), .int .i64 a] w fun e w' => e = .returned (.bool true) ∧ Below w.heap.size w w' := by
  have hB := Blk.new w 25 (winA t f)
  have HB := Lib.hid ((Below.refl w.heap.size w).alloc (Nat.le_refl _) (Obj.cells (winA t f) 25))
  go_enter Try.func3, Try.ntmps3
  go_wp2_with fail
  refine (shown_ok _).mono ?_
  rintro e w1 ⟨rfl, hb1⟩
  have hB1 := hB.belowSelf hb1
  have HB1 := Lib.hid (HB.out.trans (hb1.mono (by simp))); clear hb1
  go_wp2_with (first | (refine load_blk (ty := 25) rfl rfl rfl Try.underlying25 rfl (info25' t f) hB1 ?_) | fail)
  refine (rRight_f t f _ hR).mono ?_
  rintro e w2 ⟨rfl, hb2⟩
  have hB2 := hB1.belowSelf hb2
  have HB2 := Lib.hid (HB1.out.trans (hb2.mono HB1.out.size)); clear hb2
  go_wp2_with fail
  have hC : Cls1 w w.heap.size (winA t f) w2.drew := ⟨hB2.drew, HB2.out.drew⟩
  have hN : Nonempty (InCl (Cls1 w w.heap.size (winA t f))) := ⟨⟨_, hC⟩⟩
  refine wp_region_cls (Cl := Cls1 w w.heap.size (winA t f)) (by kernel_rfl) (by kernel_rfl) hC ?_
  repeat (first | go_big_quiet_skip | (refine q_load rfl (ty := 25) rfl rfl Try.underlying25 rfl (info25' t f) (t := 25) (fun _ hw => hw.1) ?_; simp only [Act.put, List.setIfInBounds_toArray, List.set_cons_succ, List.set_cons_zero]) | (go_big_quiet_want; go_big_quiet_op; first | go_big_quiet_on | go_big_quiet_call ((first | (go_at_call 12; exact cls1_call (wRight_f t f _ hR))))))
  refine wpQuiet_nil ?_
  intro w3 hw3
  have HB3 := Lib.hid hw3.2
  go_wp2
  go_ret
  exact ⟨rfl, HB3.out⟩

theorem walk (t : Int) (f : Nat → Bool) (_ : (Lit.int .i64 t).wf = true) (a : Int) (_ : (Lit.int .i64 a).wf = true) (w : World) :
    Calls Try.prog 3 #[.agg (winA t f), .int .i64 a] w fun e w' => e = .returned (.bool true) ∧ Below w.heap.size w w' := by
  by_cases hR : RightP t f
  · exact walk_t t f a w hR
  · exact walk_f t f a w hR

set_option maxRecDepth 100000 in
theorem lifted (os : Os) (started : os.Started) (H : Type) (enc : TypeId × Value → H) :
    ReturnsInHanded {} Try.checked os 3 .any (Rows.winTellsSpec.pre6 enc Try.prog Try.f3 Rows.winTellsRow.domain false) (Rows.winTellsSpec.post enc Try.prog Try.f3 false true false false) := by
  refine returnsInHanded_of_change (C := Try.checked) own started (by kernel_rfl) Try.func3
    (ChangeSpec.witness6 (enc := enc) (C := Try.checked) false ⟨#[], #[.agg #[.int .i64 0, .int .u64 0, .int .u64 0, .int .u64 0, .int .u64 0, .int .u64 0, .int .u64 0, .int .u64 0, .int .u64 0, .int .u64 0, .int .u64 0, .int .u64 0, .int .u64 0, .int .u64 0, .int .u64 0, .int .u64 0, .int .u64 0], .int .i64 0], []⟩ 8 (by kernel_rfl) (by kernel_rfl) (by kernel_rfl) (by kernel_rfl)) ?_
  intro W base args ds gs before hval0 hW _ _
  have hval : ∀ (j : Nat) t v, Try.f3.params[j]? = some t → args[j]? = some v → Value.okWide Try.prog W .any base t v := hval0
  have hW' := hW
  obtain ⟨p, q, hA0, hV, rfl, _, _⟩ := hW
  have hA : DataW.TrodAll enc Try.prog W 0 (fun _ => true) true Try.f3.params.toList args.toList ds p := hA0
  rw [Try.params3] at hA hval
  obtain ⟨v0, vs0, d0, ds0, p0, q0, hargs, rfl, rfl, h0, r0x⟩ := trodAll_cons hA
  obtain ⟨v1, vs1, d1, ds1, p1, q1, rfl, rfl, rfl, h1, r1x⟩ := trodAll_cons r0x
  obtain ⟨rfl, rfl, rfl⟩ := trodAll_nil r1x
  obtain rfl : args = #[v0, v1] := by cases args; simp_all
  obtain ⟨t0, f0, rfl, w0⟩ := open_win (hval 0 25 v0 rfl rfl) h0
  obtain ⟨a1, rfl, rfl, rfl, w1⟩ := open_int Try.underlying3 (hval 1 3 v1 rfl rfl) h1
  clear hA0 hval0
  refine (walk t0 f0 w0 a1 w1 W).mono fun e W' ⟨he, hg⟩ => ?_
  subst he
  exact ⟨_, rfl, law_post hW' rfl rfl (fun h => by subst h; exact ⟨rfl, rfl, rfl⟩) (by rw [Try.params3]; intro t ht; simp at ht; rcases ht with rfl | rfl <;> exact ⟨by kernel_rfl, of_decide_eq_true (by kernel_rfl)⟩) hg⟩

theorem over : Rows.winTellsRow.holds Try.pinned (OpenSpec.ofChange Rows.winTellsSpec) :=
  OpenClaim.holds_of_wide 3 Try.f3 rfl rfl rfl rfl rfl rfl rfl ⟨rfl, rfl, rfl, rfl, rfl⟩ rfl rfl rfl rfl rfl (by kernel_rfl) Try.func3 (by kernel_rfl)
    (of_decide_eq_true (by kernel_rfl)) (by unfold Func.isWrapper; first | (rw [if_pos (by decide +kernel)]; kernel_rfl) | (rw [if_neg (by decide +kernel)]; exact ⟨rfl, rfl⟩))
    (fun os started H enc _ => lifted os started H enc)

theorem proved : Rows.WinTellsSaid :=
  over
#print axioms proved
end winTells
end Go.Proofs.Ytkmmfobnpapceaa
