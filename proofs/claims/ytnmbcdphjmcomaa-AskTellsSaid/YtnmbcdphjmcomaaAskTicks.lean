/- AskTicks: what a tick makes of a question, as the reference. -/
import Derived.Test.YtnmbcdphjmcomaaF
namespace Go.Proofs.Ytnmbcdphjmcomaa
open Go.ChangeShapes Go.WideShapes Go.ChangeAt Go.RowKit
namespace askTicks

set_option maxRecDepth 100000 in
set_option maxHeartbeats 8000000 in
theorem walk_go (c s d l : Int) (A : Option Addr) (xs : List Int) (cp : Nat) (w : World) (hx : Rb w A xs) (hr : rightB c s d l xs.length = true)
    (c' s' d' l' : Int) (A' : Option Addr) (xs' : List Int) (cp' : Nat) (p q : Bool) (hr' : rightB c' s' d' l' xs'.length = true) (hx' : ∀ W, Rb W A xs → Rb W A' xs')
    (T : ∀ W, Rb W A xs → Calls Try.prog 21 #[askV c s d l A xs.length cp] W fun e w' => e = .returned (.tuple #[askV c' s' d' l' A' xs'.length cp', .bool p, .bool q]) ∧ Below W.heap.size W w')
    (R : ∀ W, Rb W A xs → Calls Try.prog 22 #[askV c s d l A xs.length cp] W fun e w' => e = .returned (.tuple #[askV c' s' d' l' A' xs'.length cp', .bool p, .bool q]) ∧ Below W.heap.size W w') :
    Calls Try.prog 4 #[askV c s d l A xs.length cp] w fun e w' => e = .returned (.bool true) ∧ Below w.heap.size w w' := by
  have HR := Lib.hid hr; have HR' := Lib.hid hr'; have HXX := Lib.hid hx'; have HT := Lib.hid T; have HTR := Lib.hid R
  have HX0 := Lib.hid (hx.alloc (.cells (askA c s d l A xs.length cp) 24))
  have HB0 := Lib.hid ((Below.refl w.heap.size w).alloc (Nat.le_refl _) (Obj.cells (askA c s d l A xs.length cp) 24))
  have b0 := Blk.new w 24 (askA c s d l A xs.length cp)
  clear hr hr' hx' T R hx
  go_enter Try.func4, Try.ntmps4
  go_wp2_with fail
  refine (shown_ok _).mono ?_
  rintro e w1 ⟨rfl, hb⟩
  have b1 := b0.belowSelf hb
  have HX1 := Lib.hid (HX0.out.below hb)
  have HB1 := Lib.hid (HB0.out.trans (hb.mono HB0.out.size)); clear hb HB0 HX0 b0
  go_wp2_with (first | (refine load_blk (ty := 24) rfl rfl rfl Try.underlying24 rfl (info24 c s d l A xs.length cp) b1 ?_) | fail)
  refine (rright_any c s d l A xs cp _ HX1.out).mono ?_
  rintro e w2 ⟨rfl, hb⟩
  rw [HR.out]
  have b2 := b1.belowSelf hb
  have HX2 := Lib.hid (HX1.out.below hb)
  have HB2 := Lib.hid (HB1.out.trans (hb.mono HB1.out.size)); clear hb HB1 HX1 b1
  go_wp2_with (first | (refine load_blk (ty := 24) rfl rfl rfl Try.underlying24 rfl (info24 c s d l A xs.length cp) b2 ?_) | fail)
  refine (HT.out _ HX2.out).mono ?_
  rintro e w3 ⟨rfl, hb⟩
  have b3 := b2.belowSelf hb
  have HX3 := Lib.hid ((HX2.out.below hb).alloc (.cells (askA c' s' d' l' A' xs'.length cp') 24))
  have HB3 := Lib.hid ((HB2.out.trans (hb.mono HB2.out.size)).alloc (Nat.le_trans HB2.out.size hb.size) (.cells (askA c' s' d' l' A' xs'.length cp') 24)); clear hb HB2 HX2 b2
  have b4 := b3.alloc (.cells (askA c' s' d' l' A' xs'.length cp') 24)
  have x4 := Blk.new w3 24 (askA c' s' d' l' A' xs'.length cp')
  clear b3
  go_wp2_with (first | (refine load_blk (ty := 24) rfl rfl rfl Try.underlying24 rfl (info24 c s d l A xs.length cp) b4 ?_) | fail)
  refine (HTR.out _ HX3.out).mono ?_
  rintro e w5 ⟨rfl, hb⟩
  have x5 := (x4.belowSelf hb).alloc (.cells (askA c' s' d' l' A' xs'.length cp') 24)
  have y5 := Blk.new w5 24 (askA c' s' d' l' A' xs'.length cp')
  have HX5 := Lib.hid ((HX3.out.below hb).alloc (.cells (askA c' s' d' l' A' xs'.length cp') 24))
  have HB5 := Lib.hid ((HB3.out.trans (hb.mono HB3.out.size)).alloc (Nat.le_trans HB3.out.size hb.size) (.cells (askA c' s' d' l' A' xs'.length cp') 24)); clear hb HB3 HX3 b4 x4
  go_wp2_with (first | (refine load_blk_g (ty := 24) rfl rfl rfl Try.underlying24 rfl (info24 c' s' d' l' A' xs'.length cp') x5 ?_) | (refine load_blk_g (ty := 24) rfl rfl rfl Try.underlying24 rfl (info24 c' s' d' l' A' xs'.length cp') y5 ?_) | fail)
  refine (rsameA_any c' s' d' l' A' xs' cp' c' s' d' l' A' xs' cp' _ (HXX.out _ HX5.out) (HXX.out _ HX5.out)).mono ?_
  rw [show sameB c' s' d' l' xs' c' s' d' l' xs' = true by unfold sameB; simp [sameL_self]]
  rintro e w6 ⟨rfl, hb⟩
  have x6 := x5.belowSelf hb
  have HX6 := Lib.hid (HX5.out.below hb)
  have HB6 := Lib.hid (HB5.out.trans (hb.mono HB5.out.size)); clear hb HB5 HX5 x5 y5
  go_wp2_with (first | (refine load_blk_g (ty := 24) rfl rfl rfl Try.underlying24 rfl (info24 c' s' d' l' A' xs'.length cp') x6 ?_) | fail)
  refine (rright_any c' s' d' l' A' xs' cp' _ (HXX.out _ HX6.out)).mono ?_
  rintro e w7 ⟨rfl, hb⟩
  rw [HR'.out]
  have HB7 := Lib.hid (HB6.out.trans (hb.mono HB6.out.size)); clear hb HB6 HX6 x6
  go_wp2_with fail
  go_ret
  exact ⟨rfl, HB7.out⟩

set_option maxRecDepth 100000 in
set_option maxHeartbeats 8000000 in
theorem walk_no (c s d l : Int) (A : Option Addr) (xs : List Int) (cp : Nat) (w : World) (hx : Rb w A xs) (hr : rightB c s d l xs.length = false) :
    Calls Try.prog 4 #[askV c s d l A xs.length cp] w fun e w' => e = .returned (.bool true) ∧ Below w.heap.size w w' := by
  have HR := Lib.hid hr
  have HX0 := Lib.hid (hx.alloc (.cells (askA c s d l A xs.length cp) 24))
  have HB0 := Lib.hid ((Below.refl w.heap.size w).alloc (Nat.le_refl _) (Obj.cells (askA c s d l A xs.length cp) 24))
  have b0 := Blk.new w 24 (askA c s d l A xs.length cp)
  clear hr hx
  go_enter Try.func4, Try.ntmps4
  go_wp2_with fail
  refine (shown_ok _).mono ?_
  rintro e w1 ⟨rfl, hb⟩
  have b1 := b0.belowSelf hb
  have HX1 := Lib.hid (HX0.out.below hb)
  have HB1 := Lib.hid (HB0.out.trans (hb.mono HB0.out.size)); clear hb HB0 HX0 b0
  go_wp2_with (first | (refine load_blk (ty := 24) rfl rfl rfl Try.underlying24 rfl (info24 c s d l A xs.length cp) b1 ?_) | fail)
  refine (rright_any c s d l A xs cp _ HX1.out).mono ?_
  rintro e w2 ⟨rfl, hb⟩
  rw [HR.out]
  have HB2 := Lib.hid (HB1.out.trans (hb.mono HB1.out.size)); clear hb HB1 HX1 b1
  go_wp2_with fail
  go_ret
  exact ⟨rfl, HB2.out⟩

theorem right_parts {c s d l : Int} {n : Nat} (hr : rightB c s d l n = true) (hn : noneB c s d l n = false) : fitsB c s n = true ∧ 1 ≤ d ∧ d ≤ 8 ∧ 0 ≤ l ∧ l ≤ 3 := by
  unfold rightB at hr
  rw [hn, Bool.false_or] at hr
  simp only [Bool.and_eq_true, decide_eq_true_eq] at hr
  exact ⟨hr.1.1.1.1, hr.1.1.1.2, hr.1.1.2, hr.1.2, hr.2⟩
theorem right_of {c s d l : Int} {n : Nat} (hf : fitsB c s n = true) (h1 : 1 ≤ d) (h2 : d ≤ 8) (h3 : 0 ≤ l) (h4 : l ≤ 3) : rightB c s d l n = true := by
  unfold rightB
  simp only [Bool.or_eq_true, Bool.and_eq_true, decide_eq_true_eq]
  exact Or.inr ⟨⟨⟨⟨hf, h1⟩, h2⟩, h3⟩, h4⟩

theorem walk (c s d l : Int) (A : Option Addr) (xs : List Int) (cp : Nat) (_ : (Lit.int .i64 c).wf = true) (_ : (Lit.int .i64 s).wf = true) (_ : (Lit.int .i64 d).wf = true) (_ : (Lit.int .i64 l).wf = true) (w : World) (hx : Rb w A xs) :
    Calls Try.prog 4 #[askV c s d l A xs.length cp] w fun e w' => e = .returned (.bool true) ∧ Below w.heap.size w w' := by
  cases hr : rightB c s d l xs.length
  · exact walk_no c s d l A xs cp w hx hr
  cases hn : noneB c s d l xs.length
  · obtain ⟨hf, h1, h2, h3, h4⟩ := right_parts hr hn
    by_cases hd : 1 < d
    · exact walk_go c s d l A xs cp w hx hr c s (d - 1) l A xs cp false false (right_of hf (by omega) (by omega) h3 h4) (fun _ h => h)
        (fun W h => tick_wait c s d l A xs cp W h hn hd (by omega)) (fun W h => rtick_wait c s d l A xs cp W h hn hd (by omega))
    · by_cases hl : 1 ≤ l
      · exact walk_go c s d l A xs cp w hx hr c s 8 (l - 1) A xs cp true false (right_of hf (by omega) (by omega) (by omega) (by omega)) (fun _ h => h)
          (fun W h => tick_again c s d l A xs cp W h hn (by omega) (by omega) hl (by omega)) (fun W h => rtick_again c s d l A xs cp W h hn (by omega) hl (by omega))
      · exact walk_go c s d l A xs cp w hx hr 0 0 0 0 none [] 0 false true (by decide) (fun _ _ => Rb.nil _ none)
          (fun W h => tick_drop c s d l A xs cp W h hn (by omega) (by omega) (by omega)) (fun W h => rtick_drop c s d l A xs cp W h hn (by omega) (by omega))
  · exact walk_go c s d l A xs cp w hx hr c s d l A xs cp false false hr (fun _ h => h)
      (fun W h => tick_none c s d l A xs cp W h hn) (fun W h => rtick_none c s d l A xs cp W h hn)

set_option maxRecDepth 100000 in
theorem lifted (os : Os) (started : os.Started) (H : Type) (enc : TypeId × Value → H) :
    ReturnsInHanded {} Try.checked os 4 .any (Rows.askTicksSpec.pre6 enc Try.prog Try.f4 Rows.askTicksRow.domain false) (Rows.askTicksSpec.post enc Try.prog Try.f4 false true false false) := by
  refine returnsInHanded_of_change (C := Try.checked) own started (by kernel_rfl) Try.func4
    (ChangeSpec.witness6 (enc := enc) (C := Try.checked) false ⟨#[], #[.agg #[.int .i64 0, .int .i64 0, .int .i64 0, .int .i64 0, .slice none 0 0]], []⟩ 8 (by kernel_rfl) (by kernel_rfl) (by kernel_rfl) (by kernel_rfl)) ?_
  intro W base args ds gs before hval0 hW _ _
  have hval : ∀ (j : Nat) t v, Try.f4.params[j]? = some t → args[j]? = some v → Value.okWide Try.prog W .any base t v := hval0
  have hW' := hW
  obtain ⟨p, q, hA0, hV, rfl, _, _⟩ := hW
  have hA : DataW.TrodAll enc Try.prog W 0 (fun _ => true) true Try.f4.params.toList args.toList ds p := hA0
  rw [Try.params4] at hA hval
  obtain ⟨v0, vs0, d0, ds0, p0, q0, hargs, rfl, rfl, h0, r0x⟩ := trodAll_cons hA
  obtain ⟨rfl, rfl, rfl⟩ := trodAll_nil r0x
  obtain rfl : args = #[v0] := by cases args; simp_all
  obtain ⟨c0, s0, u0, l0, A0, xs0, cp0, rfl, hx0, wc0, ws0, wd0, wl0⟩ := open_ask (hval 0 24 v0 rfl rfl) h0
  clear hA0 hval0
  refine (walk c0 s0 u0 l0 A0 xs0 cp0 wc0 ws0 wd0 wl0 W hx0).mono fun e W' ⟨he, hg⟩ => ?_
  subst he
  exact ⟨_, rfl, law_post hW' rfl rfl (fun h => by subst h; exact ⟨rfl, rfl, rfl⟩) (by rw [Try.params4]; intro t ht; simp at ht; rcases ht with rfl <;> exact ⟨by kernel_rfl, of_decide_eq_true (by kernel_rfl)⟩) hg⟩

theorem over : Rows.askTicksRow.holds Try.pinned (OpenSpec.ofChange Rows.askTicksSpec) :=
  OpenClaim.holds_of_wide 4 Try.f4 rfl rfl rfl rfl rfl rfl rfl ⟨rfl, rfl, rfl, rfl, rfl⟩ rfl rfl rfl rfl rfl (by kernel_rfl) Try.func4 (by kernel_rfl)
    (of_decide_eq_true (by kernel_rfl)) (by unfold Func.isWrapper; first | (rw [if_pos (by decide +kernel)]; kernel_rfl) | (rw [if_neg (by decide +kernel)]; exact ⟨rfl, rfl⟩))
    (fun os started H enc _ => lifted os started H enc)

theorem proved : Rows.AskTicksSaid :=
  over
#print axioms proved
end askTicks
end Go.Proofs.Ytnmbcdphjmcomaa
