/- BitmapCuts: bits that are cut off are told short, wherever; bit 65, laid into 16 bytes, spoils them; so does a second row of noughts. -/
import Derived.Test.YtalmgpcffbccoaaV
namespace Go.Proofs.Ytalmgpcffbccoaa
open Go.ChangeShapes Go.WideShapes Go.ChangeAt Go.RowKit
namespace bitmapCuts

set_option maxRecDepth 100000 in
set_option maxHeartbeats 8000000 in
theorem walk_long (A : Option Addr) (l : List Int) (c : Nat) (n : Int) (w : World) (hx : Ri w A l) (hl : 150 < l.length) :
    Calls Try.prog 8 #[.slice A l.length c, .int .u8 n] w fun e w' => e = .returned (.bool true) ∧ Below w.heap.size w w' := by
  have hm := hx.len
  unfold maxLen at hm
  have d0 : decide (150 < l.length) = true := decide_eq_true hl
  have d1 : decide ((150 : Int) < l.length) = true := decide_eq_true (by omega)
  clear hx hl
  go_enter Try.func8, Try.ntmps8
  go_wp2_with fail
  refine (shown_ok _).mono ?_
  rintro e w1 ⟨rfl, hb⟩
  have HB := Lib.hid hb
  clear hb
  go_wp2_with fail
  go_ret
  exact ⟨rfl, HB.out⟩

set_option maxRecDepth 100000 in
set_option maxHeartbeats 8000000 in
theorem walk_no (A : Option Addr) (l : List Int) (c : Nat) (n : Int) (w : World) (hx : Ri w A l) (hl : l.length ≤ 150) (hr : rightL l = false) :
    Calls Try.prog 8 #[.slice A l.length c, .int .u8 n] w fun e w' => e = .returned (.bool true) ∧ Below w.heap.size w w' := by
  have hm := hx.len
  unfold maxLen at hm
  have d0 : decide (150 < l.length) = false := decide_eq_false (by omega)
  have d1 : decide ((150 : Int) < l.length) = false := decide_eq_false (by omega)
  have HX := Lib.hid hx
  have HR := Lib.hid hr
  clear hx hl hr
  go_enter Try.func8, Try.ntmps8
  go_wp2_with fail
  refine (shown_ok _).mono ?_
  rintro e w1 ⟨rfl, hb⟩
  have HB := Lib.hid hb
  have HX1 := Lib.hid (HX.out.below hb)
  clear hb
  go_wp2_with fail
  refine (write_no A l c _ HX1.out HR.out).mono ?_
  rintro e w2 ⟨rfl, rfl⟩
  go_wp2_with fail
  go_ret
  exact ⟨rfl, HB.out⟩

set_option maxRecDepth 100000 in
set_option maxHeartbeats 8000000 in
theorem walk_yes (A : Option Addr) (l : List Int) (c : Nat) (n : Int) (w : World) (hx : Ri w A l) (hl : l.length ≤ 150) (hr : rightL l = true) (h0 : 0 ≤ n) (h255 : n ≤ 255) :
    Calls Try.prog 8 #[.slice A l.length c, .int .u8 n] w fun e w' => e = .returned (.bool true) ∧ Below w.heap.size w w' := by
  have hm := hx.len
  unfold maxLen at hm
  have d0 : decide (150 < l.length) = false := decide_eq_false (by omega)
  have d1 : decide ((150 : Int) < l.length) = false := decide_eq_false (by omega)
  have HX := Lib.hid hx
  have HR := Lib.hid hr
  have hi : n % ((outL l).length : Int) = ((n % ((outL l).length : Int)).toNat : Int) := (Int.toNat_of_nonneg (Int.emod_nonneg _ (by have := out_eight l; omega))).symm
  have hil : (n % ((outL l).length : Int)).toNat < (outL l).length := by
    have := Int.emod_lt_of_pos n (show (0 : Int) < (outL l).length by have := out_eight l; omega)
    omega
  generalize (n % ((outL l).length : Int)).toNat = i at hi hil
  have hi2 : n.tmod ((outL l).length : Int) = (i : Int) := by rw [Int.tmod_eq_emod_of_nonneg h0]; exact hi
  obtain ⟨Z, hZ⟩ : ∃ Z, Z = (outL l).take i := ⟨_, rfl⟩
  have HRC : Hid (readR Z 0 = ([], 0, 3)) := Lib.hid (by rw [hZ]; exact read_cut hil)
  have HWR : Hid (∀ W, Ri W A l → Calls Try.prog 10 #[.slice A l.length c] W (GivesB .i64 (outL l) 0 W)) := Lib.hid fun W h => write_ok A l c W h hr
  have HR1 : Hid (∀ {W : World} {g cap : Nat} {cs : Array Value}, Blk W g 5 cs → (∀ j, j < 16 → cs[j]? = some (.int .u8 ((oneL (outL l)).getD j 0))) → 16 ≤ cap → Calls Try.prog 17 #[.slice (some ⟨g, 0, none⟩) 16 cap, .int .i64 0] W (GivesL ([], 0, 2) W)) := Lib.hid read_one_at
  have HR2 : Hid (∀ {W : World} {g cap : Nat} {cs : Array Value}, Blk W g 5 cs → (∀ j, j < 16 → cs[j]? = some (.int .u8 ((spoilL (outL l)).getD j 0))) → 16 ≤ cap → Calls Try.prog 17 #[.slice (some ⟨g, 0, none⟩) 16 cap, .int .i64 0] W (GivesL ([], 0, 2) W)) := Lib.hid read_spoil_at
  have h8 := out_eight l
  have h16 : (outL l).length ≤ 16 := by rw [outL_len]; exact (sizeL_le l).2
  generalize outL l = X at *
  have e8 : decide ((X.length : Int) < 8) = false := decide_eq_false (by omega)
  have e8b : decide (X.length < 8) = false := decide_eq_false (by omega)
  obtain ⟨x0, hx0⟩ : ∃ x0, X.getD 0 0 = x0 := ⟨_, rfl⟩
  obtain ⟨tp, htp⟩ : ∃ tp, bits .or .u8 x0 128 = tp := ⟨_, rfl⟩
  have HX0 := Lib.hid hx0
  have HTP : Hid (topB x0 = tp) := Lib.hid htp
  obtain ⟨Y, hY⟩ : ∃ Y, Y = X.take 8 := ⟨_, rfl⟩
  have hY8 : Y.length = 8 := by rw [hY, List.length_take]; omega
  have HY := Lib.hid hY
  have HY8 := Lib.hid hY8
  obtain ⟨i0, hi0, hz0, hz1, hz2⟩ := info_parts info5
  have HZ := Lib.hid hZ
  clear hx hl hr hx0 hY hY8 hZ
  go_enter Try.func8, Try.ntmps8
  go_wp2_with fail
  refine (shown_ok _).mono ?_
  rintro e w1 ⟨rfl, hb⟩
  have HB1 := Lib.hid hb
  have HX1 := Lib.hid (HX.out.below hb)
  clear hb
  go_wp2_with fail
  refine (HWR.out _ HX1.out).mono ?_
  rintro e w2 ⟨B, cp, rfl, hcp, h2, hb⟩
  have H2 := Lib.hid h2
  have HB2 := Lib.hid (HB1.out.trans (hb.mono HB1.out.size))
  clear hb h2 HWR
  go_wp2_with (first | ((with_reducible refine at_dst 47 ?_); refine wpList_slice_h rfl rfl rfl (l := i) rfl H2.out (by omega) hcp HZ.out ?_; intro B3 h3 hc3; have H3 := Lib.hid h3; have HC3 := Lib.hid hc3; clear h3 hc3) | fail)
  have hrc := read_any B3 Z cp 0 w2 H3.out HC3.out
  rw [HRC.out] at hrc
  refine hrc.mono ?_
  rintro e w4 ⟨B4, c4, rfl, _, _, hb⟩
  have HB4 := Lib.hid (HB2.out.trans (hb.mono HB2.out.size))
  have H4 := Lib.hid (H2.out.below hb)
  clear hb hrc
  go_wp2_with (first | ((with_reducible refine at_dst 54 ?_); refine wpList_slice_h rfl rfl rfl (l := 8) rfl (H4.out.alloc _) h8 hcp HY.out ?_; intro B5 h5 hc5; have H5 := Lib.hid h5; clear h5 hc5) | ((with_reducible refine at_dst 55 ?_); refine wpList_append_rs (k := .u8) rfl (.tmp 52) (.tmp 54) 24 rfl w.heap.size 5 i0 _ 1 Try.underlying24 hi0 hz0 hz1 hz2 rfl _ 0 [] rfl (own_empty w4 w.heap.size 5 HB4.out.size) B5 Y cp rfl H5.out (by have := HY8.out; unfold maxLen; omega) (by have := HY8.out; omega) (by have := HB4.out.size; simp; omega) ?_; intro B6 cap6 w6 hown6 hgrow6; have HB6 := Lib.hid (below_own (HB4.out.alloc HB4.out.size _) (own_empty w4 w.heap.size 5 HB4.out.size) hgrow6); clear hgrow6; rw [Nat.zero_add, List.nil_append, HY8.out] at hown6; rw [Nat.zero_add, HY8.out]; have HO6 := Lib.hid hown6; clear hown6) | ((with_reducible refine at_dst 56 ?_); refine wpList_append_zeros rfl (.tmp 55) (.const (.int .i64 8)) rfl w.heap.size i0 hi0 hz0 hz1 hz2 _ _ rfl rfl HO6.out (HB6.out.size) ?_; intro B7 cap7 w7 hown7 hgrow7; have HB7 := Lib.hid (below_own HB6.out HO6.out hgrow7); clear hgrow7; obtain ⟨g, cur, rfl, hbg, hk7, hcap7, hcur7, htk7⟩ := own_blk hown7 (by omega); have HK7 := Lib.hid hk7; have HTK7 := Lib.hid htk7; have HCUR := Lib.hid hcur7; have hcl0 : w7.cell? ⟨g, 0, none⟩ = some (.int .u8 x0) := (hk7.cell 0).trans (first_cell h8 HY.out HX0.out htk7); have hfr0 : w7.frozen? ⟨g, 0, none⟩ = false := hk7.frozen 0; clear hown7 hk7 htk7 hcur7) | fail)
  have HKa := Lib.hid (HK7.out.set_ 0 (.int .u8 tp))
  have HONE : Hid (∀ j, j < 16 → (cur.setIfInBounds 0 (.int .u8 tp))[j]? = some (.int .u8 ((oneL X).getD j 0))) := Lib.hid (by
    have h := one_cells (X := X) (cur := cur) h8 (by have := HCUR.out; omega) (by rw [← HY.out]; exact HTK7.out)
    rw [HX0.out, HTP.out] at h
    exact h)
  clear hcl0 hfr0
  refine (HR1.out HKa.out HONE.out hcap7).mono ?_
  rintro e w8 ⟨B8, c8, rfl, _, _, hb⟩
  have hk8 := HKa.out.belowSelf hb
  have HK8 := Lib.hid hk8
  have HB8 := Lib.hid ((HB7.out.setCell (p := ⟨g, 0, none⟩) hbg (.int .u8 tp)).trans (hb.mono (HB7.out.setCell (p := ⟨g, 0, none⟩) hbg (.int .u8 tp)).size))
  clear hb HKa
  have hcl8 : w8.cell? ⟨g, 8, none⟩ = some (.int .u8 ((oneL X).getD 8 0)) := (hk8.cell 8).trans (HONE.out 8 (by omega))
  have hfr8 : w8.frozen? ⟨g, 8, none⟩ = false := hk8.frozen 8
  have hcl15 : w8.cell? ⟨g, 15, none⟩ = some (.int .u8 ((oneL X).getD 15 0)) := (hk8.cell 15).trans (HONE.out 15 (by omega))
  have hfr15 : w8.frozen? ⟨g, 15, none⟩ = false := hk8.frozen 15
  clear hk8
  go_wp2_with fail
  have HKb := Lib.hid ((HK8.out.set_ 8 (.int .u8 128)).set_ 15 (.int .u8 1))
  have HSP : Hid (∀ j, j < 16 → (((cur.setIfInBounds 0 (.int .u8 tp)).setIfInBounds 8 (.int .u8 128)).setIfInBounds 15 (.int .u8 1))[j]? = some (.int .u8 ((spoilL X).getD j 0))) := Lib.hid (spoil_cells h8 (by have := HCUR.out; rw [Array.size_setIfInBounds]; omega) HONE.out)
  have HB9 := Lib.hid ((HB8.out.setCell (p := ⟨g, 8, none⟩) hbg (.int .u8 128)).setCell (p := ⟨g, 15, none⟩) hbg (.int .u8 1))
  clear hcl8 hfr8 hcl15 hfr15
  refine (HR2.out HKb.out HSP.out hcap7).mono ?_
  rintro e w9 ⟨B9, c9, rfl, _, _, hb⟩
  have HB10 := Lib.hid (HB9.out.trans (hb.mono HB9.out.size))
  clear hb
  go_wp2_with fail
  go_ret
  exact ⟨rfl, HB10.out⟩

theorem walk (A : Option Addr) (l : List Int) (c : Nat) (n : Int) (hn : (Lit.int .u8 n).wf = true) (w : World) (hx : Ri w A l) (_ : l.length ≤ c) :
    Calls Try.prog 8 #[.slice A l.length c, .int .u8 n] w fun e w' => e = .returned (.bool true) ∧ Below w.heap.size w w' := by
  have hn' : 0 ≤ n ∧ n ≤ 255 := by simpa [Lit.wf, IntKind.min, IntKind.max, IntKind.signed, IntKind.bits] using hn
  by_cases hl : l.length ≤ 150
  · cases hr : rightL l
    · exact walk_no A l c n w hx hl hr
    · exact walk_yes A l c n w hx hl hr hn'.1 hn'.2
  · exact walk_long A l c n w hx (by omega)

set_option maxRecDepth 100000 in
theorem lifted (os : Os) (started : os.Started) (H : Type) (enc : TypeId × Value → H) :
    ReturnsInHanded {} Try.checked os 8 .any (Rows.bitmapCutsSpec.pre6 enc Try.prog Try.f8 Rows.bitmapCutsRow.domain false) (Rows.bitmapCutsSpec.post enc Try.prog Try.f8 false true false false) := by
  refine returnsInHanded_of_change (C := Try.checked) own started (by kernel_rfl) Try.func8
    (ChangeSpec.witness6 (enc := enc) (C := Try.checked) false ⟨#[], #[.slice none 0 0, .int .u8 0], []⟩ 8 (by kernel_rfl) (by kernel_rfl) (by kernel_rfl) (by kernel_rfl)) ?_
  intro W base args ds gs before hval0 hW _ _
  have hval : ∀ (j : Nat) t v, Try.f8.params[j]? = some t → args[j]? = some v → Value.okWide Try.prog W .any base t v := hval0
  have hW' := hW
  obtain ⟨p, q, hA0, hV, rfl, _, _⟩ := hW
  have hA : DataW.TrodAll enc Try.prog W 0 (fun _ => true) true Try.f8.params.toList args.toList ds p := hA0
  rw [Try.params8] at hA hval
  obtain ⟨v0, vs0, d0, ds0, p0, q0, hargs, rfl, rfl, h0, r0x⟩ := trodAll_cons hA
  obtain ⟨v1, vs1, d1, ds1, p1, q1, rfl, rfl, rfl, h1, r1x⟩ := trodAll_cons r0x
  obtain ⟨rfl, rfl, rfl⟩ := trodAll_nil r1x
  obtain rfl : args = #[v0, v1] := by cases args; simp_all
  obtain ⟨A0, xs0, cp0, rfl, hx0, hcp0⟩ := open_bints (hval 0 22 v0 rfl rfl) h0
  obtain ⟨a1, rfl, rfl, rfl, w1⟩ := open_int Try.underlying5 (hval 1 5 v1 rfl rfl) h1
  clear hA0 hval0
  refine (walk A0 xs0 cp0 a1 w1 W hx0 hcp0).mono fun e W' ⟨he, hg⟩ => ?_
  subst he
  exact ⟨_, rfl, law_post hW' rfl rfl (fun h => by subst h; exact ⟨rfl, rfl, rfl⟩) (by rw [Try.params8]; intro t ht; simp at ht; rcases ht with rfl | rfl <;> exact ⟨by kernel_rfl, of_decide_eq_true (by kernel_rfl)⟩) hg⟩

theorem over : Rows.bitmapCutsRow.holds Try.pinned (OpenSpec.ofChange Rows.bitmapCutsSpec) :=
  OpenClaim.holds_of_wide 8 Try.f8 rfl rfl rfl rfl rfl rfl rfl ⟨rfl, rfl, rfl, rfl, rfl⟩ rfl rfl rfl rfl rfl (by kernel_rfl) Try.func8 (by kernel_rfl)
    (of_decide_eq_true (by kernel_rfl)) (by unfold Func.isWrapper; first | (rw [if_pos (by decide +kernel)]; kernel_rfl) | (rw [if_neg (by decide +kernel)]; exact ⟨rfl, rfl⟩))
    (fun os started H enc _ => lifted os started H enc)

theorem proved : Rows.BitmapCutsSaid :=
  over
#print axioms proved
end bitmapCuts
end Go.Proofs.Ytalmgpcffbccoaa
