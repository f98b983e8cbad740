/- AskEnds: a question that isn't answered is asked again, and given up. -/
import Derived.Test.YtnmbcdphjmcomaaAskTicks
import Derived.Test.YtnmbcdphjmcomaaN
namespace Go.Proofs.Ytnmbcdphjmcomaa
open Go.ChangeShapes Go.WideShapes Go.ChangeAt Go.RowKit
namespace askEnds
open askTicks

theorem none_fits {c s D L : Int} {n : Nat} (hf : fitsB c s n = true) : noneB c s D L n = false := by
  unfold fitsB at hf; unfold noneB
  simp only [Bool.and_eq_true, decide_eq_true_eq] at hf
  have : (s == 0) = false := by simp; omega
  simp [this]
theorem fits_len {c s : Int} {n : Nat} (hf : fitsB c s n = true) : 0 < n := by
  unfold fitsB at hf
  simp only [Bool.and_eq_true, decide_eq_true_eq] at hf
  omega
theorem match_own {c s D L : Int} {n : Nat} (hf : fitsB c s n = true) : matchB c s D L n c s = true := by
  unfold matchB; rw [none_fits hf]; simp

set_option maxRecDepth 100000 in
set_option maxHeartbeats 8000000 in
theorem walk_go (c s d l : Int) (A : Option Addr) (xs : List Int) (cp : Nat) (w : World) (hx : Rb w A xs) (hr : rightB c s d l xs.length = true) (hn : noneB c s d l xs.length = false)
    (hf : fitsB c s xs.length = true) (hd1 : 1 ≤ d) (hd2 : d ≤ 8) (hl1 : 0 ≤ l) (hl2 : l ≤ 3) :
    Calls Try.prog 5 #[askV c s d l A xs.length cp] w fun e w' => e = .returned (.bool true) ∧ Below w.heap.size w w' := by
  have HF := Lib.hid hf; clear hf
  have hlt : ∀ b off, 0 < xs.length → A = some ⟨b, off, none⟩ → b < w.heap.size := fun b off h0 e => by
    obtain ⟨b', off', e', hb', _⟩ := hx.cells h0
    rw [e] at e'; cases e'; exact hb'
  have HR := Lib.hid hr; have HN := Lib.hid hn
  have HX0 := Lib.hid (hx.alloc (.cells (askA c s d l A xs.length cp) 24))
  have HB0 := Lib.hid ((Below.refl w.heap.size w).alloc (Nat.le_refl _) (Obj.cells (askA c s d l A xs.length cp) 24))
  have ba0 := Blk.new w 24 (askA c s d l A xs.length cp)
  clear hr hn hx
  have HAL := Lib.hid hlt
  clear hlt
  go_enter Try.func5, Try.ntmps5
  go_wp2_with fail
  refine (shown_ok _).mono ?_
  rintro e w1 ⟨rfl, hb⟩
  have HX1 := Lib.hid (HX0.out.below hb)
  have HB1 := Lib.hid (HB0.out.trans (hb.mono HB0.out.size))
  have ba1 := ba0.belowSelf hb
  clear hb HX0 HB0 ba0
  go_wp2_with (first | (refine load_blk (ty := 24) rfl rfl rfl Try.underlying24 rfl (info24 c s d l A xs.length cp) ba1 ?_) | fail)
  refine (rright_any c s d l A xs cp _ HX1.out).mono ?_
  rintro e w2 ⟨rfl, hb⟩
  rw [HR.out]
  have HX2 := Lib.hid (HX1.out.below hb)
  have HB2 := Lib.hid (HB1.out.trans (hb.mono HB1.out.size))
  have ba2 := ba1.belowSelf hb
  clear hb HX1 HB1 ba1
  go_wp2_with (first | (refine load_blk_g (ty := 24) rfl rfl rfl Try.underlying24 rfl (info24 c s d l A xs.length cp) ba2 ?_) | fail)
  refine (rnone_any c s d l A xs cp _ HX2.out.len).mono ?_
  rintro e w3 ⟨rfl, hb⟩
  rw [HN.out]
  have HX3 := Lib.hid (HX2.out.below hb)
  have HB3 := Lib.hid (HB2.out.trans (hb.mono HB2.out.size))
  have ba3 := ba2.belowSelf hb
  clear hb HX2 HB2 ba2
  have q2 : w3.cell? ⟨w.heap.size, 2, none⟩ = some (.int .i64 d) := ba3.cell 2
  have q3 : w3.cell? ⟨w.heap.size, 3, none⟩ = some (.int .i64 l) := ba3.cell 3
  have r2 : (w3.alloc (.cells (askA c s d l A xs.length cp) 24)).cell? ⟨w.heap.size, 2, none⟩ = some (.int .i64 d) := (ba3.alloc _).cell 2
  have r3 : (w3.alloc (.cells (askA c s d l A xs.length cp) 24)).cell? ⟨w.heap.size, 3, none⟩ = some (.int .i64 l) := (ba3.alloc _).cell 3
  go_wp2_with (first | (refine load_blk (ty := 24) rfl rfl rfl Try.underlying24 rfl (info24 c s d l A xs.length cp) ba3 ?_) | fail)
  all_goals
    have HNE : Hid (∀ b off, A = some ⟨b, off, none⟩ → some b ≠ some w3.heap.size) := Lib.hid (fun b off e => by have h1 := HAL.out b off (fits_len HF.out) e; have := HB3.out.size; simp; omega)
    have HX4 := Lib.hid (HX3.out.alloc (.cells (askA c s d l A xs.length cp) 24))
    have HB4 := Lib.hid (HB3.out.alloc HB3.out.size (.cells (askA c s d l A xs.length cp) 24))
    have ba4 := ba3.alloc (.cells (askA c s d l A xs.length cp) 24)
    have bx4 := Blk.new w3 24 (askA c s d l A xs.length cp)
    clear q2 q3 r2 r3
    go_loopw [4, 7] (fun lf i wr => ∃ m : Int, i = .int .i64 m ∧ 1 ≤ m ∧ m ≤ (d + 8 * l) + 21 ∧ Blk wr w.heap.size 24 (askA c s d l A xs.length cp) ∧ Rb wr A xs ∧ Below w.heap.size w wr ∧
      ((∃ D L : Int, 1 ≤ D ∧ D ≤ 8 ∧ 0 ≤ L ∧ L ≤ l ∧ D + 8 * L + m = (d + 8 * l) + 1 ∧ lf = .int .i64 L ∧ Blk wr w3.heap.size 24 (askA c s D L A xs.length cp)) ∨ ((d + 8 * l) < m ∧ lf = .int .i64 0 ∧ Blk wr w3.heap.size 24 (askA 0 0 0 0 none 0 0)))) (fun _ i _ => ((d + 8 * l) + 21 - intOf i).toNat)
    case atStart => exact ⟨1, rfl, by omega, by omega, ba4, HX4.out, HB4.out, Or.inl ⟨d, l, hd1, hd2, hl1, by omega, by omega, rfl, bx4⟩⟩
    case round =>
      clear ba4 bx4 HX4 HB4
      obtain ⟨m, rfl, hm1, hm2, ak, hxk, hbk, hk⟩ := hrel
      have HXk := Lib.hid hxk; have HBk := Lib.hid hbk; clear hxk hbk
      rcases hk with ⟨D, L, hD1, hD2, hL1, hL2, hE, rfl, xk⟩ | ⟨hE, rfl, xk⟩
      · have t0 : decide (m ≤ (d + 8 * l) + 20) = true := by simp; omega
        by_cases hD : 1 < D
        · have t1 : decide (m < (d + 8 * l)) = true := by simp; omega
          have t2 : decide ((d + 8 * l) ≤ m) = false := by simp; omega
          have t3 : (m == (d + 8 * l)) = false := by simp; omega
          cases t4 : decide (d ≤ m)
          · have t4b : m < d := by simpa using t4
            have HT := Lib.hid (tick_wait c s D L A xs cp _ HXk.out (none_fits HF.out) hD (by omega)); 
            go_wp2_with (first | ((with_reducible refine at_dst 37 ?_); refine load_at (ty := 24) rfl rfl rfl Try.underlying24 rfl (info24 c s D L A xs.length cp) xk ?_) | fail)
            refine HT.out.mono ?_
            rintro e w5 ⟨rfl, hb⟩
            clear HT
            have HX6 := Lib.hid ((HXk.out.below hb).alloc (.cells (askA c s (D - 1) L A xs.length cp) 24))
            have HB6 := Lib.hid ((HBk.out.trans (hb.mono HBk.out.size)).alloc (Nat.le_trans HBk.out.size hb.size) (.cells (askA c s (D - 1) L A xs.length cp) 24))
            have a6 := (ak.belowSelf hb).alloc (.cells (askA c s (D - 1) L A xs.length cp) 24)
            have x6 := (xk.belowSelf hb).alloc (.cells (askA c s (D - 1) L A xs.length cp) 24)
            have y6 := Blk.new w5 24 (askA c s (D - 1) L A xs.length cp)
            have xlt := Nat.lt_of_lt_of_le xk.lt hb.size
            clear hb HXk HBk ak xk
            have q2 : (w5.alloc (.cells (askA c s (D - 1) L A xs.length cp) 24)).cell? ⟨w.heap.size, 2, none⟩ = some (.int .i64 d) := a6.cell 2
            have q0 : (w5.alloc (.cells (askA c s (D - 1) L A xs.length cp) 24)).cell? ⟨w.heap.size, 0, none⟩ = some (.int .i64 c) := a6.cell 0
            have q1 : (w5.alloc (.cells (askA c s (D - 1) L A xs.length cp) 24)).cell? ⟨w.heap.size, 1, none⟩ = some (.int .i64 s) := a6.cell 1
            go_wp2_with (first | ((with_reducible refine at_dst 80 ?_); refine load_at (ty := 24) rfl rfl rfl Try.underlying24 rfl (info24 c s (D - 1) L A xs.length cp) y6 ?_) | fail)
            refine (match_any c s (D - 1) L A xs cp c s _ HX6.out).mono ?_
            rw [match_own HF.out]
            rintro e w7 ⟨rfl, hb⟩
            have HX7 := Lib.hid (HX6.out.below hb)
            have HB7 := Lib.hid (HB6.out.trans (hb.mono HB6.out.size))
            have a7 := a6.belowSelf hb
            have x7 := x6.belowSelf hb
            have y7 := y6.belowSelf hb
            clear hb HX6 HB6 a6 x6 y6
            have q3 : w7.cell? ⟨w.heap.size, 4, none⟩ = some (.slice A xs.length cp) := a7.cell 4
            have q4 : w7.cell? ⟨w5.heap.size, 4, none⟩ = some (.slice A xs.length cp) := y7.cell 4
            go_wp2_with fail
            refine (rsame_any A A xs xs cp cp _ HX7.out HX7.out).mono ?_
            rw [sameL_self]
            rintro e w7' ⟨rfl, rfl⟩
            go_wp2_with (first | ((with_reducible refine at_dst 115 ?_); refine load_at (ty := 24) rfl rfl rfl Try.underlying24 rfl (info24 c s (D - 1) L A xs.length cp) y7 ?_) | ((with_reducible refine at_store 24 5 ?_); refine store_blk' (ty := 24) rfl rfl rfl rfl (info24 c s (D - 1) L A xs.length cp) (askA_one _ _ _ _ _ _ _) (old := askA c s D L A xs.length cp) rfl x7 ?_; intro w8 x8 hG8 hz8) | fail)
            have HB8 := HB7.out.grown hG8 HB7.out.size (by have := HB3.out.size; simp; omega)
            have a8 := a7.grown hG8 (by have := ba3.lt; simp; omega)
            have HX8 := HX7.out.grown hG8 (by intro b off hbo; exact HNE.out b off hbo)
            exact ⟨⟨m + 1, rfl, by omega, by omega, a8, HX8, HB8, Or.inl ⟨D - 1, L, by omega, by omega, hL1, hL2, by omega, rfl, x8⟩⟩, by simp [intOf]; omega⟩
          · have t4b : d ≤ m := of_decide_eq_true t4
            have t5 : ((m - d) % 8 == 0) = false := by simp; omega
            have t6 : ((m - d).tmod 8 == 0) = false := by rw [Int.tmod_eq_emod_of_nonneg (by have := of_decide_eq_true t4; omega)]; exact t5
            have HT := Lib.hid (tick_wait c s D L A xs cp _ HXk.out (none_fits HF.out) hD (by omega)); 
            go_wp2_with (first | ((with_reducible refine at_dst 37 ?_); refine load_at (ty := 24) rfl rfl rfl Try.underlying24 rfl (info24 c s D L A xs.length cp) xk ?_) | fail)
            refine HT.out.mono ?_
            rintro e w5 ⟨rfl, hb⟩
            clear HT
            have HX6 := Lib.hid ((HXk.out.below hb).alloc (.cells (askA c s (D - 1) L A xs.length cp) 24))
            have HB6 := Lib.hid ((HBk.out.trans (hb.mono HBk.out.size)).alloc (Nat.le_trans HBk.out.size hb.size) (.cells (askA c s (D - 1) L A xs.length cp) 24))
            have a6 := (ak.belowSelf hb).alloc (.cells (askA c s (D - 1) L A xs.length cp) 24)
            have x6 := (xk.belowSelf hb).alloc (.cells (askA c s (D - 1) L A xs.length cp) 24)
            have y6 := Blk.new w5 24 (askA c s (D - 1) L A xs.length cp)
            have xlt := Nat.lt_of_lt_of_le xk.lt hb.size
            clear hb HXk HBk ak xk
            have q2 : (w5.alloc (.cells (askA c s (D - 1) L A xs.length cp) 24)).cell? ⟨w.heap.size, 2, none⟩ = some (.int .i64 d) := a6.cell 2
            have q0 : (w5.alloc (.cells (askA c s (D - 1) L A xs.length cp) 24)).cell? ⟨w.heap.size, 0, none⟩ = some (.int .i64 c) := a6.cell 0
            have q1 : (w5.alloc (.cells (askA c s (D - 1) L A xs.length cp) 24)).cell? ⟨w.heap.size, 1, none⟩ = some (.int .i64 s) := a6.cell 1
            go_wp2_with (first | ((with_reducible refine at_dst 80 ?_); refine load_at (ty := 24) rfl rfl rfl Try.underlying24 rfl (info24 c s (D - 1) L A xs.length cp) y6 ?_) | fail)
            refine (match_any c s (D - 1) L A xs cp c s _ HX6.out).mono ?_
            rw [match_own HF.out]
            rintro e w7 ⟨rfl, hb⟩
            have HX7 := Lib.hid (HX6.out.below hb)
            have HB7 := Lib.hid (HB6.out.trans (hb.mono HB6.out.size))
            have a7 := a6.belowSelf hb
            have x7 := x6.belowSelf hb
            have y7 := y6.belowSelf hb
            clear hb HX6 HB6 a6 x6 y6
            have q3 : w7.cell? ⟨w.heap.size, 4, none⟩ = some (.slice A xs.length cp) := a7.cell 4
            have q4 : w7.cell? ⟨w5.heap.size, 4, none⟩ = some (.slice A xs.length cp) := y7.cell 4
            go_wp2_with fail
            refine (rsame_any A A xs xs cp cp _ HX7.out HX7.out).mono ?_
            rw [sameL_self]
            rintro e w7' ⟨rfl, rfl⟩
            go_wp2_with (first | ((with_reducible refine at_dst 115 ?_); refine load_at (ty := 24) rfl rfl rfl Try.underlying24 rfl (info24 c s (D - 1) L A xs.length cp) y7 ?_) | ((with_reducible refine at_store 24 5 ?_); refine store_blk' (ty := 24) rfl rfl rfl rfl (info24 c s (D - 1) L A xs.length cp) (askA_one _ _ _ _ _ _ _) (old := askA c s D L A xs.length cp) rfl x7 ?_; intro w8 x8 hG8 hz8) | fail)
            have HB8 := HB7.out.grown hG8 HB7.out.size (by have := HB3.out.size; simp; omega)
            have a8 := a7.grown hG8 (by have := ba3.lt; simp; omega)
            have HX8 := HX7.out.grown hG8 (by intro b off hbo; exact HNE.out b off hbo)
            exact ⟨⟨m + 1, rfl, by omega, by omega, a8, HX8, HB8, Or.inl ⟨D - 1, L, by omega, by omega, hL1, hL2, by omega, rfl, x8⟩⟩, by simp [intOf]; omega⟩
        · by_cases hL : 1 ≤ L
          · have t1 : decide (m < (d + 8 * l)) = true := by simp; omega
            have t2 : decide ((d + 8 * l) ≤ m) = false := by simp; omega
            have t3 : (m == (d + 8 * l)) = false := by simp; omega
            have t4 : decide (d ≤ m) = true := by simp; omega
            have t4b : d ≤ m := of_decide_eq_true t4
            have t5 : ((m - d) % 8 == 0) = true := by simp; omega
            have t6 : ((m - d).tmod 8 == 0) = true := by rw [Int.tmod_eq_emod_of_nonneg (by have := of_decide_eq_true t4; omega)]; exact t5
            have HT := Lib.hid (tick_again c s D L A xs cp _ HXk.out (none_fits HF.out) (by omega) (by omega) hL (by omega)); 
            go_wp2_with (first | ((with_reducible refine at_dst 37 ?_); refine load_at (ty := 24) rfl rfl rfl Try.underlying24 rfl (info24 c s D L A xs.length cp) xk ?_) | fail)
            refine HT.out.mono ?_
            rintro e w5 ⟨rfl, hb⟩
            clear HT
            have HX6 := Lib.hid ((HXk.out.below hb).alloc (.cells (askA c s 8 (L - 1) A xs.length cp) 24))
            have HB6 := Lib.hid ((HBk.out.trans (hb.mono HBk.out.size)).alloc (Nat.le_trans HBk.out.size hb.size) (.cells (askA c s 8 (L - 1) A xs.length cp) 24))
            have a6 := (ak.belowSelf hb).alloc (.cells (askA c s 8 (L - 1) A xs.length cp) 24)
            have x6 := (xk.belowSelf hb).alloc (.cells (askA c s 8 (L - 1) A xs.length cp) 24)
            have y6 := Blk.new w5 24 (askA c s 8 (L - 1) A xs.length cp)
            have xlt := Nat.lt_of_lt_of_le xk.lt hb.size
            clear hb HXk HBk ak xk
            have q2 : (w5.alloc (.cells (askA c s 8 (L - 1) A xs.length cp) 24)).cell? ⟨w.heap.size, 2, none⟩ = some (.int .i64 d) := a6.cell 2
            have q0 : (w5.alloc (.cells (askA c s 8 (L - 1) A xs.length cp) 24)).cell? ⟨w.heap.size, 0, none⟩ = some (.int .i64 c) := a6.cell 0
            have q1 : (w5.alloc (.cells (askA c s 8 (L - 1) A xs.length cp) 24)).cell? ⟨w.heap.size, 1, none⟩ = some (.int .i64 s) := a6.cell 1
            go_wp2_with (first | ((with_reducible refine at_dst 80 ?_); refine load_at (ty := 24) rfl rfl rfl Try.underlying24 rfl (info24 c s 8 (L - 1) A xs.length cp) y6 ?_) | fail)
            refine (match_any c s 8 (L - 1) A xs cp c s _ HX6.out).mono ?_
            rw [match_own HF.out]
            rintro e w7 ⟨rfl, hb⟩
            have HX7 := Lib.hid (HX6.out.below hb)
            have HB7 := Lib.hid (HB6.out.trans (hb.mono HB6.out.size))
            have a7 := a6.belowSelf hb
            have x7 := x6.belowSelf hb
            have y7 := y6.belowSelf hb
            clear hb HX6 HB6 a6 x6 y6
            have q3 : w7.cell? ⟨w.heap.size, 4, none⟩ = some (.slice A xs.length cp) := a7.cell 4
            have q4 : w7.cell? ⟨w5.heap.size, 4, none⟩ = some (.slice A xs.length cp) := y7.cell 4
            go_wp2_with fail
            refine (rsame_any A A xs xs cp cp _ HX7.out HX7.out).mono ?_
            rw [sameL_self]
            rintro e w7' ⟨rfl, rfl⟩
            go_wp2_with (first | ((with_reducible refine at_dst 115 ?_); refine load_at (ty := 24) rfl rfl rfl Try.underlying24 rfl (info24 c s 8 (L - 1) A xs.length cp) y7 ?_) | ((with_reducible refine at_store 24 5 ?_); refine store_blk' (ty := 24) rfl rfl rfl rfl (info24 c s 8 (L - 1) A xs.length cp) (askA_one _ _ _ _ _ _ _) (old := askA c s D L A xs.length cp) rfl x7 ?_; intro w8 x8 hG8 hz8) | fail)
            have HB8 := HB7.out.grown hG8 HB7.out.size (by have := HB3.out.size; simp; omega)
            have a8 := a7.grown hG8 (by have := ba3.lt; simp; omega)
            have HX8 := HX7.out.grown hG8 (by intro b off hbo; exact HNE.out b off hbo)
            exact ⟨⟨m + 1, rfl, by omega, by omega, a8, HX8, HB8, Or.inl ⟨8, L - 1, by omega, by omega, by omega, by omega, by omega, rfl, x8⟩⟩, by simp [intOf]; omega⟩
          · have t1 : decide (m < (d + 8 * l)) = false := by simp; omega
            have t2 : decide ((d + 8 * l) ≤ m) = true := by simp; omega
            have t3 : (m == (d + 8 * l)) = true := by simp; omega
            have t4 : decide (d ≤ m) = true := by simp; omega
            have t4b : d ≤ m := of_decide_eq_true t4
            obtain rfl : L = 0 := by omega
            have t5 : ((m - d) % 8 == 0) = true := by simp; omega
            have t6 : ((m - d).tmod 8 == 0) = true := by rw [Int.tmod_eq_emod_of_nonneg (by have := of_decide_eq_true t4; omega)]; exact t5
            have HT := Lib.hid (tick_drop c s D 0 A xs cp _ HXk.out (none_fits HF.out) (by omega) (by omega) (by omega)); 
            go_wp2_with (first | ((with_reducible refine at_dst 37 ?_); refine load_at (ty := 24) rfl rfl rfl Try.underlying24 rfl (info24 c s D 0 A xs.length cp) xk ?_) | fail)
            refine HT.out.mono ?_
            rintro e w5 ⟨rfl, hb⟩
            clear HT
            have HX6 := Lib.hid ((HXk.out.below hb).alloc (.cells (askA 0 0 0 0 none 0 0) 24))
            have HB6 := Lib.hid ((HBk.out.trans (hb.mono HBk.out.size)).alloc (Nat.le_trans HBk.out.size hb.size) (.cells (askA 0 0 0 0 none 0 0) 24))
            have a6 := (ak.belowSelf hb).alloc (.cells (askA 0 0 0 0 none 0 0) 24)
            have x6 := (xk.belowSelf hb).alloc (.cells (askA 0 0 0 0 none 0 0) 24)
            have y6 := Blk.new w5 24 (askA 0 0 0 0 none 0 0)
            have xlt := Nat.lt_of_lt_of_le xk.lt hb.size
            clear hb HXk HBk ak xk
            have q2 : (w5.alloc (.cells (askA 0 0 0 0 none 0 0) 24)).cell? ⟨w.heap.size, 2, none⟩ = some (.int .i64 d) := a6.cell 2
            go_wp2_with (first | ((with_reducible refine at_dst 94 ?_); refine load_at (ty := 24) rfl rfl rfl Try.underlying24 rfl (info24 0 0 0 0 none 0 0) y6 ?_) | fail)
            refine (rnone_any 0 0 0 0 none [] 0 _ (by decide)).mono ?_
            rw [show noneB 0 0 0 0 ([] : List Int).length = true by decide]
            rintro e w7 ⟨rfl, hb⟩
            have HX7 := Lib.hid (HX6.out.below hb)
            have HB7 := Lib.hid (HB6.out.trans (hb.mono HB6.out.size))
            have a7 := a6.belowSelf hb
            have x7 := x6.belowSelf hb
            have y7 := y6.belowSelf hb
            clear hb HX6 HB6 a6 x6 y6
            go_wp2_with (first | ((with_reducible refine at_dst 115 ?_); refine load_at (ty := 24) rfl rfl rfl Try.underlying24 rfl (info24 0 0 0 0 none 0 0) y7 ?_) | ((with_reducible refine at_store 24 5 ?_); refine store_blk' (ty := 24) rfl rfl rfl rfl (info24 0 0 0 0 none 0 0) (askA_one _ _ _ _ _ _ _) (old := askA c s D 0 A xs.length cp) rfl x7 ?_; intro w8 x8 hG8 hz8) | fail)
            have HB8 := HB7.out.grown hG8 HB7.out.size (by have := HB3.out.size; simp; omega)
            have a8 := a7.grown hG8 (by have := ba3.lt; simp; omega)
            have HX8 := HX7.out.grown hG8 (by intro b off hbo; exact HNE.out b off hbo)
            exact ⟨⟨m + 1, rfl, by omega, by omega, a8, HX8, HB8, Or.inr ⟨by omega, rfl, x8⟩⟩, by simp [intOf]; omega⟩
      · by_cases hx : m ≤ (d + 8 * l) + 20
        · have t0 : decide (m ≤ (d + 8 * l) + 20) = true := by simp; omega
          have t1 : decide (m < (d + 8 * l)) = false := by simp; omega
          have t2 : decide ((d + 8 * l) ≤ m) = true := by simp; omega
          have t3 : (m == (d + 8 * l)) = false := by simp; omega
          have t4 : decide (d ≤ m) = true := by simp; omega
          have t4b : d ≤ m := of_decide_eq_true t4
          cases t5 : ((m - d) % 8 == 0)
          · have t6 : ((m - d).tmod 8 == 0) = false := by rw [Int.tmod_eq_emod_of_nonneg (by omega)]; exact t5
            have HT := Lib.hid (tick_none 0 0 0 0 none [] 0 wr (Rb.nil _ none) (by decide)); 
            go_wp2_with (first | ((with_reducible refine at_dst 37 ?_); refine load_at (ty := 24) rfl rfl rfl Try.underlying24 rfl (info24 0 0 0 0 none 0 0) xk ?_) | fail)
            refine HT.out.mono ?_
            rintro e w5 ⟨rfl, hb⟩
            clear HT
            have HX6 := Lib.hid ((HXk.out.below hb).alloc (.cells (askA 0 0 0 0 none 0 0) 24))
            have HB6 := Lib.hid ((HBk.out.trans (hb.mono HBk.out.size)).alloc (Nat.le_trans HBk.out.size hb.size) (.cells (askA 0 0 0 0 none 0 0) 24))
            have a6 := (ak.belowSelf hb).alloc (.cells (askA 0 0 0 0 none 0 0) 24)
            have x6 := (xk.belowSelf hb).alloc (.cells (askA 0 0 0 0 none 0 0) 24)
            have y6 := Blk.new w5 24 (askA 0 0 0 0 none 0 0)
            have xlt := Nat.lt_of_lt_of_le xk.lt hb.size
            clear hb HXk HBk ak xk
            have q2 : (w5.alloc (.cells (askA 0 0 0 0 none 0 0) 24)).cell? ⟨w.heap.size, 2, none⟩ = some (.int .i64 d) := a6.cell 2
            go_wp2_with (first | ((with_reducible refine at_dst 94 ?_); refine load_at (ty := 24) rfl rfl rfl Try.underlying24 rfl (info24 0 0 0 0 none 0 0) y6 ?_) | fail)
            refine (rnone_any 0 0 0 0 none [] 0 _ (by decide)).mono ?_
            rw [show noneB 0 0 0 0 ([] : List Int).length = true by decide]
            rintro e w7 ⟨rfl, hb⟩
            have HX7 := Lib.hid (HX6.out.below hb)
            have HB7 := Lib.hid (HB6.out.trans (hb.mono HB6.out.size))
            have a7 := a6.belowSelf hb
            have x7 := x6.belowSelf hb
            have y7 := y6.belowSelf hb
            clear hb HX6 HB6 a6 x6 y6
            go_wp2_with (first | ((with_reducible refine at_dst 115 ?_); refine load_at (ty := 24) rfl rfl rfl Try.underlying24 rfl (info24 0 0 0 0 none 0 0) y7 ?_) | ((with_reducible refine at_store 24 5 ?_); refine store_blk' (ty := 24) rfl rfl rfl rfl (info24 0 0 0 0 none 0 0) (askA_one _ _ _ _ _ _ _) (old := askA 0 0 0 0 none 0 0) rfl x7 ?_; intro w8 x8 hG8 hz8) | fail)
            have HB8 := HB7.out.grown hG8 HB7.out.size (by have := HB3.out.size; simp; omega)
            have a8 := a7.grown hG8 (by have := ba3.lt; simp; omega)
            have HX8 := HX7.out.grown hG8 (by intro b off hbo; exact HNE.out b off hbo)
            exact ⟨⟨m + 1, rfl, by omega, by omega, a8, HX8, HB8, Or.inr ⟨by omega, rfl, x8⟩⟩, by simp [intOf]; omega⟩
          · have t6 : ((m - d).tmod 8 == 0) = true := by rw [Int.tmod_eq_emod_of_nonneg (by omega)]; exact t5
            have HT := Lib.hid (tick_none 0 0 0 0 none [] 0 wr (Rb.nil _ none) (by decide)); 
            go_wp2_with (first | ((with_reducible refine at_dst 37 ?_); refine load_at (ty := 24) rfl rfl rfl Try.underlying24 rfl (info24 0 0 0 0 none 0 0) xk ?_) | fail)
            refine HT.out.mono ?_
            rintro e w5 ⟨rfl, hb⟩
            clear HT
            have HX6 := Lib.hid ((HXk.out.below hb).alloc (.cells (askA 0 0 0 0 none 0 0) 24))
            have HB6 := Lib.hid ((HBk.out.trans (hb.mono HBk.out.size)).alloc (Nat.le_trans HBk.out.size hb.size) (.cells (askA 0 0 0 0 none 0 0) 24))
            have a6 := (ak.belowSelf hb).alloc (.cells (askA 0 0 0 0 none 0 0) 24)
            have x6 := (xk.belowSelf hb).alloc (.cells (askA 0 0 0 0 none 0 0) 24)
            have y6 := Blk.new w5 24 (askA 0 0 0 0 none 0 0)
            have xlt := Nat.lt_of_lt_of_le xk.lt hb.size
            clear hb HXk HBk ak xk
            have q2 : (w5.alloc (.cells (askA 0 0 0 0 none 0 0) 24)).cell? ⟨w.heap.size, 2, none⟩ = some (.int .i64 d) := a6.cell 2
            go_wp2_with (first | ((with_reducible refine at_dst 94 ?_); refine load_at (ty := 24) rfl rfl rfl Try.underlying24 rfl (info24 0 0 0 0 none 0 0) y6 ?_) | fail)
            refine (rnone_any 0 0 0 0 none [] 0 _ (by decide)).mono ?_
            rw [show noneB 0 0 0 0 ([] : List Int).length = true by decide]
            rintro e w7 ⟨rfl, hb⟩
            have HX7 := Lib.hid (HX6.out.below hb)
            have HB7 := Lib.hid (HB6.out.trans (hb.mono HB6.out.size))
            have a7 := a6.belowSelf hb
            have x7 := x6.belowSelf hb
            have y7 := y6.belowSelf hb
            clear hb HX6 HB6 a6 x6 y6
            go_wp2_with (first | ((with_reducible refine at_dst 115 ?_); refine load_at (ty := 24) rfl rfl rfl Try.underlying24 rfl (info24 0 0 0 0 none 0 0) y7 ?_) | ((with_reducible refine at_store 24 5 ?_); refine store_blk' (ty := 24) rfl rfl rfl rfl (info24 0 0 0 0 none 0 0) (askA_one _ _ _ _ _ _ _) (old := askA 0 0 0 0 none 0 0) rfl x7 ?_; intro w8 x8 hG8 hz8) | fail)
            have HB8 := HB7.out.grown hG8 HB7.out.size (by have := HB3.out.size; simp; omega)
            have a8 := a7.grown hG8 (by have := ba3.lt; simp; omega)
            have HX8 := HX7.out.grown hG8 (by intro b off hbo; exact HNE.out b off hbo)
            exact ⟨⟨m + 1, rfl, by omega, by omega, a8, HX8, HB8, Or.inr ⟨by omega, rfl, x8⟩⟩, by simp [intOf]; omega⟩
        · have t0 : decide (m ≤ (d + 8 * l) + 20) = false := by simp; omega
          go_wp2_with fail
          go_ret
          exact ⟨rfl, HBk.out⟩

set_option maxRecDepth 100000 in
set_option maxHeartbeats 8000000 in
theorem walk_no (c s d l : Int) (A : Option Addr) (xs : List Int) (cp : Nat) (w : World) (hx : Rb w A xs) (hr : rightB c s d l xs.length = false) :
    Calls Try.prog 5 #[askV c s d l A xs.length cp] w fun e w' => e = .returned (.bool true) ∧ Below w.heap.size w w' := by
  have HR := Lib.hid hr
  have HX0 := Lib.hid (hx.alloc (.cells (askA c s d l A xs.length cp) 24))
  have HB0 := Lib.hid ((Below.refl w.heap.size w).alloc (Nat.le_refl _) (Obj.cells (askA c s d l A xs.length cp) 24))
  have ba0 := Blk.new w 24 (askA c s d l A xs.length cp)
  clear hr hx
  go_enter Try.func5, Try.ntmps5
  go_wp2_with fail
  refine (shown_ok _).mono ?_
  rintro e w1 ⟨rfl, hb⟩
  have HX1 := Lib.hid (HX0.out.below hb)
  have HB1 := Lib.hid (HB0.out.trans (hb.mono HB0.out.size))
  have ba1 := ba0.belowSelf hb
  clear hb HX0 HB0 ba0
  go_wp2_with (first | ((with_reducible refine at_dst 13 ?_); refine load_at (ty := 24) rfl rfl rfl Try.underlying24 rfl (info24 c s d l A xs.length cp) ba1 ?_) | fail)
  refine (rright_any c s d l A xs cp _ HX1.out).mono ?_
  rintro e w2 ⟨rfl, hb⟩
  rw [HR.out]
  have HX2 := Lib.hid (HX1.out.below hb)
  have HB2 := Lib.hid (HB1.out.trans (hb.mono HB1.out.size))
  have ba2 := ba1.belowSelf hb
  clear hb HX1 HB1 ba1
  go_wp2_with fail
  go_ret
  exact ⟨rfl, HB2.out⟩

set_option maxRecDepth 100000 in
set_option maxHeartbeats 8000000 in
theorem walk_none (c s d l : Int) (A : Option Addr) (xs : List Int) (cp : Nat) (w : World) (hx : Rb w A xs) (hr : rightB c s d l xs.length = true) (hn : noneB c s d l xs.length = true) :
    Calls Try.prog 5 #[askV c s d l A xs.length cp] w fun e w' => e = .returned (.bool true) ∧ Below w.heap.size w w' := by
  have HR := Lib.hid hr
  have HX0 := Lib.hid (hx.alloc (.cells (askA c s d l A xs.length cp) 24))
  have HB0 := Lib.hid ((Below.refl w.heap.size w).alloc (Nat.le_refl _) (Obj.cells (askA c s d l A xs.length cp) 24))
  have ba0 := Blk.new w 24 (askA c s d l A xs.length cp)
  have HN := Lib.hid hn
  clear hr hx hn
  go_enter Try.func5, Try.ntmps5
  go_wp2_with fail
  refine (shown_ok _).mono ?_
  rintro e w1 ⟨rfl, hb⟩
  have HX1 := Lib.hid (HX0.out.below hb)
  have HB1 := Lib.hid (HB0.out.trans (hb.mono HB0.out.size))
  have ba1 := ba0.belowSelf hb
  clear hb HX0 HB0 ba0
  go_wp2_with (first | ((with_reducible refine at_dst 13 ?_); refine load_at (ty := 24) rfl rfl rfl Try.underlying24 rfl (info24 c s d l A xs.length cp) ba1 ?_) | fail)
  refine (rright_any c s d l A xs cp _ HX1.out).mono ?_
  rintro e w2 ⟨rfl, hb⟩
  rw [HR.out]
  have HX2 := Lib.hid (HX1.out.below hb)
  have HB2 := Lib.hid (HB1.out.trans (hb.mono HB1.out.size))
  have ba2 := ba1.belowSelf hb
  clear hb HX1 HB1 ba1
  go_wp2_with (first | ((with_reducible refine at_dst 17 ?_); refine load_at (ty := 24) rfl rfl rfl Try.underlying24 rfl (info24 c s d l A xs.length cp) ba2 ?_) | fail)
  refine (rnone_any c s d l A xs cp _ HX2.out.len).mono ?_
  rintro e w3 ⟨rfl, hb⟩
  rw [HN.out]
  have HX3 := Lib.hid (HX2.out.below hb)
  have HB3 := Lib.hid (HB2.out.trans (hb.mono HB2.out.size))
  have ba3 := ba2.belowSelf hb
  clear hb HX2 HB2 ba2
  go_wp2_with fail
  go_ret
  exact ⟨rfl, HB3.out⟩

theorem walk (c s d l : Int) (A : Option Addr) (xs : List Int) (cp : Nat) (_ : (Lit.int .i64 c).wf = true) (_ : (Lit.int .i64 s).wf = true) (_ : (Lit.int .i64 d).wf = true) (_ : (Lit.int .i64 l).wf = true) (w : World) (hx : Rb w A xs) :
    Calls Try.prog 5 #[askV c s d l A xs.length cp] w fun e w' => e = .returned (.bool true) ∧ Below w.heap.size w w' := by
  cases hr : rightB c s d l xs.length
  · exact walk_no c s d l A xs cp w hx hr
  cases hn : noneB c s d l xs.length
  · obtain ⟨hf, h1, h2, h3, h4⟩ := right_parts hr hn
    exact walk_go c s d l A xs cp w hx hr hn hf h1 h2 h3 h4
  · exact walk_none c s d l A xs cp w hx hr hn

set_option maxRecDepth 100000 in
theorem lifted (os : Os) (started : os.Started) (H : Type) (enc : TypeId × Value → H) :
    ReturnsInHanded {} Try.checked os 5 .any (Rows.askEndsSpec.pre6 enc Try.prog Try.f5 Rows.askEndsRow.domain false) (Rows.askEndsSpec.post enc Try.prog Try.f5 false true false false) := by
  refine returnsInHanded_of_change (C := Try.checked) own started (by kernel_rfl) Try.func5
    (ChangeSpec.witness6 (enc := enc) (C := Try.checked) false ⟨#[], #[.agg #[.int .i64 0, .int .i64 0, .int .i64 0, .int .i64 0, .slice none 0 0]], []⟩ 8 (by kernel_rfl) (by kernel_rfl) (by kernel_rfl) (by kernel_rfl)) ?_
  intro W base args ds gs before hval0 hW _ _
  have hval : ∀ (j : Nat) t v, Try.f5.params[j]? = some t → args[j]? = some v → Value.okWide Try.prog W .any base t v := hval0
  have hW' := hW
  obtain ⟨p, q, hA0, hV, rfl, _, _⟩ := hW
  have hA : DataW.TrodAll enc Try.prog W 0 (fun _ => true) true Try.f5.params.toList args.toList ds p := hA0
  rw [Try.params5] at hA hval
  obtain ⟨v0, vs0, d0, ds0, p0, q0, hargs, rfl, rfl, h0, r0x⟩ := trodAll_cons hA
  obtain ⟨rfl, rfl, rfl⟩ := trodAll_nil r0x
  obtain rfl : args = #[v0] := by cases args; simp_all
  obtain ⟨c0, s0, u0, l0, A0, xs0, cp0, rfl, hx0, wc0, ws0, wd0, wl0⟩ := open_ask (hval 0 24 v0 rfl rfl) h0
  clear hA0 hval0
  refine (walk c0 s0 u0 l0 A0 xs0 cp0 wc0 ws0 wd0 wl0 W hx0).mono fun e W' ⟨he, hg⟩ => ?_
  subst he
  exact ⟨_, rfl, law_post hW' rfl rfl (fun h => by subst h; exact ⟨rfl, rfl, rfl⟩) (by rw [Try.params5]; intro t ht; simp at ht; rcases ht with rfl <;> exact ⟨by kernel_rfl, of_decide_eq_true (by kernel_rfl)⟩) hg⟩

theorem over : Rows.askEndsRow.holds Try.pinned (OpenSpec.ofChange Rows.askEndsSpec) :=
  OpenClaim.holds_of_wide 5 Try.f5 rfl rfl rfl rfl rfl rfl rfl ⟨rfl, rfl, rfl, rfl, rfl⟩ rfl rfl rfl rfl rfl (by kernel_rfl) Try.func5 (by kernel_rfl)
    (of_decide_eq_true (by kernel_rfl)) (by unfold Func.isWrapper; first | (rw [if_pos (by decide +kernel)]; kernel_rfl) | (rw [if_neg (by decide +kernel)]; exact ⟨rfl, rfl⟩))
    (fun os started H enc _ => lifted os started H enc)

theorem proved : Rows.AskEndsSaid :=
  over
#print axioms proved
end askEnds
end Go.Proofs.Ytnmbcdphjmcomaa
