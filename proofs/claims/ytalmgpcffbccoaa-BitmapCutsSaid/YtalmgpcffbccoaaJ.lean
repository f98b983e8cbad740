/- The law's examples. -/
import Derived.Test.YtalmgpcffbccoaaI
namespace Go.Proofs.Ytalmgpcffbccoaa
open Go.RowKit

theorem lit_wf {l : List Int} (h : l.all (fun x => decide (0 ≤ x) && decide (x ≤ 1000)) = true) : ∀ x ∈ l, (Lit.int .i64 x).wf = true := fun x hx => by
  have := List.all_eq_true.1 h x hx
  simp at this
  exact i64_wf this.1 this.2
theorem lit_one {w : World} {g : Nat} (x : Int) (h0 : 0 ≤ x) (h1 : x ≤ 1000) (hg : Blk w g 3 #[.int .i64 x]) : Ri w (some ⟨g, 0, none⟩) [x] :=
  Rs.of_blk hg (by simp [maxLen]) (fun y hy => by simp at hy; subst hy; exact i64_wf h0 h1) (snd_cell x)
theorem lit_two {w : World} {g : Nat} (x y : Int) (h0 : 0 ≤ x) (h1 : x ≤ 1000) (h2 : 0 ≤ y) (h3 : y ≤ 1000) (hg : Blk w g 3 #[.int .i64 x, .int .i64 y]) : Ri w (some ⟨g, 0, none⟩) [x, y] :=
  Rs.of_blk hg (by simp [maxLen]) (fun z hz => by simp at hz; rcases hz with rfl | rfl; exact i64_wf h0 h1; exact i64_wf h2 h3) (fun j hj => by
    match j, hj with
    | 0, _ => rfl
    | 1, _ => rfl
    | j + 2, hj => simp at hj; omega)
theorem out_a : outL [2, 11] = [64, 32, 0, 0, 0, 0, 0, 0] := by decide +kernel
theorem out_b : outL [70] = [128, 0, 0, 0, 0, 0, 0, 0, 4, 0, 0, 0, 0, 0, 0, 0] := by decide +kernel
theorem read_b : readR [128, 0, 0, 0, 0, 0, 0, 0, 4, 0, 0, 0, 0, 0, 0, 0] 0 = ([70], 16, 0) := by decide +kernel
theorem hex_a : strOfNums (hexL [64, 32, 0, 0, 0, 0, 0, 0]) = ⟨#[52, 48, 50, 48, 48, 48, 48, 48, 48, 48, 48, 48, 48, 48, 48, 48]⟩ := by kernel_rfl
theorem hex_b : strOfNums (hexL [128, 0, 0, 0, 0, 0, 0, 0, 4, 0, 0, 0, 0, 0, 0, 0]) = ⟨#[56, 48, 48, 48, 48, 48, 48, 48, 48, 48, 48, 48, 48, 48, 48, 48, 48, 52, 48, 48, 48, 48, 48, 48, 48, 48, 48, 48, 48, 48, 48, 48]⟩ := by kernel_rfl

theorem wr_a (A : Option Addr) (c : Nat) (w : World) (h : Ri w A [2, 11]) : Calls Try.prog 10 #[.slice A 2 c] w (GivesB .i64 [64, 32, 0, 0, 0, 0, 0, 0] 0 w) := by
  have := write_ok A [2, 11] c w h (by decide)
  rw [out_a] at this
  exact this
theorem wr_b (A : Option Addr) (c : Nat) (w : World) (h : Ri w A [70]) : Calls Try.prog 10 #[.slice A 1 c] w (GivesB .i64 [128, 0, 0, 0, 0, 0, 0, 0, 4, 0, 0, 0, 0, 0, 0, 0] 0 w) := by
  have := write_ok A [70] c w h (by decide)
  rw [out_b] at this
  exact this
theorem rd_b (A : Option Addr) (c : Nat) (w : World) (h : Rb w A [128, 0, 0, 0, 0, 0, 0, 0, 4, 0, 0, 0, 0, 0, 0, 0]) (hc : 16 ≤ c) : Calls Try.prog 17 #[.slice A 16 c, .int .i64 0] w (GivesL ([70], 16, 0) w) := by
  have := read_any A _ c 0 w h hc
  rw [read_b] at this
  exact this
theorem hx_a (A : Option Addr) (c : Nat) (w : World) (h : Rb w A [64, 32, 0, 0, 0, 0, 0, 0]) : Calls Try.prog 20 #[.slice A 8 c] w fun e w' => e = .returned (.string ⟨#[52, 48, 50, 48, 48, 48, 48, 48, 48, 48, 48, 48, 48, 48, 48, 48]⟩) ∧ Below w.heap.size w w' := by
  have := hex_any A _ c w h (by decide)
  rw [hex_a] at this
  exact this
theorem hx_b (A : Option Addr) (c : Nat) (w : World) (h : Rb w A [128, 0, 0, 0, 0, 0, 0, 0, 4, 0, 0, 0, 0, 0, 0, 0]) : Calls Try.prog 20 #[.slice A 16 c] w fun e w' => e = .returned (.string ⟨#[56, 48, 48, 48, 48, 48, 48, 48, 48, 48, 48, 48, 48, 48, 48, 48, 48, 52, 48, 48, 48, 48, 48, 48, 48, 48, 48, 48, 48, 48, 48, 48]⟩) ∧ Below w.heap.size w w' := by
  have := hex_any A _ c w h (by decide)
  rw [hex_b] at this
  exact this
theorem pl_70 (w : World) : Calls Try.prog 12 #[.int .i64 70] w fun e w' => e = .returned (.tuple #[.int .i64 8, .int .u8 4]) ∧ Below w.heap.size w w' := place_any 70 w
theorem in_70 (A A' : Option Addr) (c c' : Nat) (w : World) (h : Ri w A [70]) (h' : Ri w A' [70]) : Calls Try.prog 19 #[.slice A 1 c, .slice A' 1 c'] w fun e w' => e = .returned (.bool true) ∧ Below w.heap.size w w' := ints_any A [70] c A' [70] c' w h h'
theorem rt_70 (A : Option Addr) (c : Nat) (w : World) (h : Ri w A [70]) : Calls Try.prog 15 #[.slice A 1 c] w fun e w' => e = .returned (.bool true) ∧ w' = w := right_any A [70] c w h
theorem rt_65 (A : Option Addr) (c : Nat) (w : World) (h : Ri w A [65]) : Calls Try.prog 15 #[.slice A 1 c] w fun e w' => e = .returned (.bool false) ∧ w' = w := right_any A [65] c w h

set_option maxRecDepth 100000 in
set_option maxHeartbeats 8000000 in
theorem shown_ok (w : World) : Calls Try.prog 9 #[] w fun e w' => e = .returned (.bool true) ∧ Below w.heap.size w w' := by
  have hl := Lib.hid (lit_two 2 11 (by omega) (by omega) (by omega) (by omega) (Blk.new w 3 #[.int .i64 2, .int .i64 11]))
  have HB0 : Hid (Below w.heap.size w (w.alloc (.cells #[.int .i64 2, .int .i64 11] 3))) := Lib.hid ((Below.refl _ _).alloc (Nat.le_refl _) _)
  go_enter Try.func9, Try.ntmps9
  go_wp2_with fail
  refine (wr_a _ _ _ hl.out).mono ?_
  rintro e w1 ⟨B1, c1, rfl, hc1, h1, hb⟩
  have H1 := Lib.hid h1
  have HB1 := Lib.hid (HB0.out.trans (hb.mono HB0.out.size))
  clear h1 hb hc1 hl HB0
  have hl := Lib.hid (lit_one 70 (by omega) (by omega) (Blk.new w1 3 #[.int .i64 70]))
  go_wp2_with fail
  refine (wr_b _ _ _ hl.out).mono ?_
  rintro e w2 ⟨B2, c2, rfl, hc2, h2, hb⟩
  have H2 := Lib.hid h2
  have H1' := Lib.hid ((H1.out.alloc (.cells #[.int .i64 70] 3)).below hb)
  have HB2 := Lib.hid ((HB1.out.alloc HB1.out.size (.cells #[.int .i64 70] 3)).trans (hb.mono (by have := HB1.out.size; simp; omega)))
  have HC2 := Lib.hid hc2
  clear h2 hb hc2 hl HB1 H1
  go_wp2_with fail
  refine (rd_b _ _ _ H2.out HC2.out).mono ?_
  rintro e w3 ⟨B3, c3, rfl, hc3, h3, hb⟩
  have H3 := Lib.hid h3
  have H1 := Lib.hid (H1'.out.below hb)
  have H2' := Lib.hid (H2.out.below hb)
  have HB3 := Lib.hid (HB2.out.trans (hb.mono HB2.out.size))
  clear h3 hb hc3 HB2 H1' H2
  go_wp2_with fail
  refine (pl_70 _).mono ?_
  rintro e w4 ⟨rfl, hb⟩
  have H34 := Lib.hid (H3.out.below hb)
  have H14 := Lib.hid (H1.out.below hb)
  have H24 := Lib.hid (H2'.out.below hb)
  have HB4 := Lib.hid (HB3.out.trans (hb.mono HB3.out.size))
  clear hb HB3 H1 H2' H3
  go_wp2_with fail
  refine (hx_a _ _ _ H14.out).mono ?_
  rintro e w5 ⟨rfl, hb⟩
  have H35 := Lib.hid (H34.out.below hb)
  have H25 := Lib.hid (H24.out.below hb)
  have HB5 := Lib.hid (HB4.out.trans (hb.mono HB4.out.size))
  clear hb HB4 H14 H24 H34
  go_wp2_with fail
  refine (hx_b _ _ _ H25.out).mono ?_
  rintro e w6 ⟨rfl, hb⟩
  have H36 := Lib.hid ((H35.out.below hb).alloc (.cells #[.int .i64 70] 3))
  have HB6 := Lib.hid ((HB5.out.trans (hb.mono HB5.out.size)).alloc (Nat.le_trans HB5.out.size hb.size) (.cells #[.int .i64 70] 3))
  clear hb HB5 H25 H35
  have hl := Lib.hid (lit_one 70 (by omega) (by omega) (Blk.new w6 3 #[.int .i64 70]))
  go_wp2_with fail
  refine (in_70 _ _ _ _ _ H36.out hl.out).mono ?_
  rintro e w7 ⟨rfl, hb⟩
  have H37 := Lib.hid (H36.out.below hb)
  have HB7 := Lib.hid (HB6.out.trans (hb.mono HB6.out.size))
  clear hb HB6 H36 hl
  go_wp2_with fail
  refine (rt_70 _ _ _ H37.out).mono ?_
  rintro e w8 ⟨rfl, rfl⟩
  have hl := Lib.hid (lit_one 65 (by omega) (by omega) (Blk.new w8 3 #[.int .i64 65]))
  have HB8 := Lib.hid (HB7.out.alloc HB7.out.size (.cells #[.int .i64 65] 3))
  go_wp2_with fail
  refine (rt_65 _ _ _ hl.out).mono ?_
  rintro e w9 ⟨rfl, rfl⟩
  go_wp2_with fail
  go_ret
  exact ⟨rfl, HB8.out⟩
end Go.Proofs.Ytalmgpcffbccoaa
