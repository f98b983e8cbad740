/- BitmapTells: which lists are right, where a bit stands, and lists' bits, are as the document says. -/
import Derived.Test.YtalmgpcffbccoaaK
namespace Go.Proofs.Ytalmgpcffbccoaa
open Go.ChangeShapes Go.WideShapes Go.ChangeAt Go.RowKit
namespace bitmapTells

set_option maxRecDepth 100000 in
set_option maxHeartbeats 8000000 in
theorem walk_long (A : Option Addr) (l : List Int) (c : Nat) (n : Int) (w : World) (hx : Ri w A l) (hl : 150 < l.length) :
    Calls Try.prog 3 #[.slice A l.length c, .int .i64 n] w fun e w' => e = .returned (.bool true) ∧ Below w.heap.size w w' := by
  have hm := hx.len
  unfold maxLen at hm
  have d0 : decide (150 < l.length) = true := decide_eq_true hl
  have d1 : decide ((150 : Int) < l.length) = true := decide_eq_true (by omega)
  clear hx hl
  go_enter Try.func3, Try.ntmps3
  go_wp2_with fail
  refine (shown_ok _).mono ?_
  rintro e w1 ⟨rfl, hb⟩
  have HB := Lib.hid hb
  clear hb
  go_wp2_with fail
  go_ret
  exact ⟨rfl, HB.out⟩

set_option maxRecDepth 100000 in
set_option maxHeartbeats 8000000 in
theorem walk_short (A : Option Addr) (l : List Int) (c : Nat) (n : Int) (w : World) (hx : Ri w A l) (hl : l.length ≤ 150) :
    Calls Try.prog 3 #[.slice A l.length c, .int .i64 n] w fun e w' => e = .returned (.bool true) ∧ Below w.heap.size w w' := by
  have hm := hx.len
  unfold maxLen at hm
  have d0 : decide (150 < l.length) = false := decide_eq_false (by omega)
  have d1 : decide ((150 : Int) < l.length) = false := decide_eq_false (by omega)
  have HX := Lib.hid hx
  have HL := Lib.hid hl
  have HW := Lib.hid (fun W (h : Ri W A l) => write_any A l c W h)
  have HR := Lib.hid (fun W (h : Ri W A l) => rwrite_any A l c W h (by omega))
  have HP := Lib.hid (place_any n)
  have HQ := Lib.hid (rplace_any n)
  have HT := Lib.hid (fun W (h : Ri W A l) => right_any A l c W h)
  have HU := Lib.hid (fun W (h : Ri W A l) => rright_any A l c W h)
  generalize (writeR l).1 = ys at *
  generalize (writeR l).2 = er at *
  generalize placeA n = pa at *
  generalize placeB n = pb at *
  generalize rightL l = rt at *
  clear hx hl
  go_enter Try.func3, Try.ntmps3
  go_wp2_with fail
  refine (shown_ok _).mono ?_
  rintro e w1 ⟨rfl, hb⟩
  have HB1 := Lib.hid hb
  have HX1 := Lib.hid (HX.out.below hb)
  clear hb
  go_wp2_with fail
  refine (HW.out _ HX1.out).mono ?_
  rintro e w2 ⟨B2, c2, rfl, _, h2, hb⟩
  have H2 := Lib.hid h2
  have HB2 := Lib.hid (HB1.out.trans (hb.mono HB1.out.size))
  have HX2 := Lib.hid (HX1.out.below hb)
  clear hb h2
  go_wp2_with fail
  refine (HR.out _ HX2.out).mono ?_
  rintro e w3 ⟨B3, c3, rfl, _, h3, hb⟩
  have H3 := Lib.hid h3
  have H23 := Lib.hid (H2.out.below hb)
  have HB3 := Lib.hid (HB2.out.trans (hb.mono HB2.out.size))
  have HX3 := Lib.hid (HX2.out.below hb)
  clear hb h3
  go_wp2_with fail
  refine (HP.out _).mono ?_
  rintro e w4 ⟨rfl, hb⟩
  have H34 := Lib.hid (H3.out.below hb)
  have H24 := Lib.hid (H23.out.below hb)
  have HB4 := Lib.hid (HB3.out.trans (hb.mono HB3.out.size))
  have HX4 := Lib.hid (HX3.out.below hb)
  clear hb
  go_wp2_with fail
  refine (HQ.out _).mono ?_
  rintro e w5 ⟨rfl, rfl⟩
  go_wp2_with fail
  refine (rsame_self _ _ _ _ _ _ H24.out H34.out).mono ?_
  rintro e w6 ⟨rfl, rfl⟩
  go_wp2_with fail
  refine (HT.out _ HX4.out).mono ?_
  rintro e w7 ⟨rfl, rfl⟩
  go_wp2_with fail
  refine (HU.out _ HX4.out).mono ?_
  rintro e w8 ⟨rfl, hb⟩
  have HB8 := Lib.hid (HB4.out.trans (hb.mono HB4.out.size))
  clear hb
  go_wp2_with fail
  go_ret
  exact ⟨rfl, HB8.out⟩

theorem walk (A : Option Addr) (l : List Int) (c : Nat) (n : Int) (_ : (Lit.int .i64 n).wf = true) (w : World) (hx : Ri w A l) (_ : l.length ≤ c) :
    Calls Try.prog 3 #[.slice A l.length c, .int .i64 n] w fun e w' => e = .returned (.bool true) ∧ Below w.heap.size w w' := by
  by_cases hl : l.length ≤ 150
  · exact walk_short A l c n w hx hl
  · exact walk_long A l c n w hx (by omega)

set_option maxRecDepth 100000 in
theorem lifted (os : Os) (started : os.Started) (H : Type) (enc : TypeId × Value → H) :
    ReturnsInHanded {} Try.checked os 3 .any (Rows.bitmapTellsSpec.pre6 enc Try.prog Try.f3 Rows.bitmapTellsRow.domain false) (Rows.bitmapTellsSpec.post enc Try.prog Try.f3 false true false false) := by
  refine returnsInHanded_of_change (C := Try.checked) own started (by kernel_rfl) Try.func3
    (ChangeSpec.witness6 (enc := enc) (C := Try.checked) false ⟨#[], #[.slice none 0 0, .int .i64 0], []⟩ 8 (by kernel_rfl) (by kernel_rfl) (by kernel_rfl) (by kernel_rfl)) ?_
  intro W base args ds gs before hval0 hW _ _
  have hval : ∀ (j : Nat) t v, Try.f3.params[j]? = some t → args[j]? = some v → Value.okWide Try.prog W .any base t v := hval0
  have hW' := hW
  obtain ⟨p, q, hA0, hV, rfl, _, _⟩ := hW
  have hA : DataW.TrodAll enc Try.prog W 0 (fun _ => true) true Try.f3.params.toList args.toList ds p := hA0
  rw [Try.params3] at hA hval
  obtain ⟨v0, vs0, d0, ds0, p0, q0, hargs, rfl, rfl, h0, r0x⟩ := trodAll_cons hA
  obtain ⟨v1, vs1, d1, ds1, p1, q1, rfl, rfl, rfl, h1, r1x⟩ := trodAll_cons r0x
  obtain ⟨rfl, rfl, rfl⟩ := trodAll_nil r1x
  obtain rfl : args = #[v0, v1] := by cases args; simp_all
  obtain ⟨A0, xs0, cp0, rfl, hx0, hcp0⟩ := open_bints (hval 0 22 v0 rfl rfl) h0
  obtain ⟨a1, rfl, rfl, rfl, w1⟩ := open_int Try.underlying3 (hval 1 3 v1 rfl rfl) h1
  clear hA0 hval0
  refine (walk A0 xs0 cp0 a1 w1 W hx0 hcp0).mono fun e W' ⟨he, hg⟩ => ?_
  subst he
  exact ⟨_, rfl, law_post hW' rfl rfl (fun h => by subst h; exact ⟨rfl, rfl, rfl⟩) (by rw [Try.params3]; intro t ht; simp at ht; rcases ht with rfl | rfl <;> exact ⟨by kernel_rfl, of_decide_eq_true (by kernel_rfl)⟩) hg⟩

theorem over : Rows.bitmapTellsRow.holds Try.pinned (OpenSpec.ofChange Rows.bitmapTellsSpec) :=
  OpenClaim.holds_of_wide 3 Try.f3 rfl rfl rfl rfl rfl rfl rfl ⟨rfl, rfl, rfl, rfl, rfl⟩ rfl rfl rfl rfl rfl (by kernel_rfl) Try.func3 (by kernel_rfl)
    (of_decide_eq_true (by kernel_rfl)) (by unfold Func.isWrapper; first | (rw [if_pos (by decide +kernel)]; kernel_rfl) | (rw [if_neg (by decide +kernel)]; exact ⟨rfl, rfl⟩))
    (fun os started H enc _ => lifted os started H enc)

theorem proved : Rows.BitmapTellsSaid :=
  over
#print axioms proved
end bitmapTells
end Go.Proofs.Ytalmgpcffbccoaa
