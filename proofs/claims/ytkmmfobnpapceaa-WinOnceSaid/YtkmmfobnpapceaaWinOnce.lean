/- WinOnce: in whatever order numbers come, none is taken twice; one that was not taken is, just if it is not 1024 or more below the greatest one; the window stays right: for every list of numbers. No condition. -/
import Derived.Test.YtkmmfobnpapceaaL
import Derived.Test.YtkmmfobnpapceaaP
namespace Go.Proofs.Ytkmmfobnpapceaa
open Go.ChangeShapes Go.WideShapes Go.ChangeAt Go.RowKit
namespace winOnce
attribute [local go_sem] winA_lit

/-- Is a number among the first k of those that were taken? -/
def hadB (tk : List Int) (n : Int) (k : Nat) : Bool := (tk.take k).contains n
theorem hadB_zero (tk : List Int) (n : Int) : hadB tk n 0 = false := rfl
theorem hadB_succ (tk : List Int) (n x : Int) (k : Nat) (h : tk[k]? = some x) : hadB tk n (k + 1) = (hadB tk n k || (x == n)) := by
  unfold hadB
  rw [List.take_add_one, h]
  simp only [Option.toList_some, List.contains_append]
  have e : (x == n) = (n == x) := by rw [Bool.eq_iff_iff, beq_iff_eq, beq_iff_eq]; exact eq_comm
  rw [e, Bool.eq_iff_iff]
  simp
theorem hadB_all (tk : List Int) (n : Int) : hadB tk n tk.length = tk.contains n := by unfold hadB; rw [List.take_length]

/-- What a window and the numbers that were taken have to do with one another. -/
def Inv (T : Int) (F : Nat → Bool) (tk : List Int) : Prop :=
  RightP T F ∧ ∀ o, freshB T F o = (decide (0 ≤ o) && decide (o ≤ 4611686018427387904) && !tk.contains o && decide (T - 1 - 1024 < o))

theorem inv_start : Inv 0 noBits [] := by
  refine ⟨⟨by omega, by omega, fun _ _ _ => rfl, .inl rfl⟩, fun o => ?_⟩
  by_cases h : o < 0 ∨ 4611686018427387904 < o
  · rw [freshB_out h]
    rcases h with h | h
    · rw [show decide (0 ≤ o) = false by simp; omega]; rfl
    · rw [show decide (o ≤ 4611686018427387904) = false by simp; omega]; simp
  · rw [freshB_high (by omega) (by omega) (by omega), show decide (0 ≤ o) = true by simp; omega, show decide (o ≤ 4611686018427387904) = true by simp; omega, show decide ((0 : Int) - 1 - 1024 < o) = true by simp; omega]; rfl

theorem inv_step {T : Int} {F : Nat → Bool} {tk : List Int} {n : Int} (h : Inv T F tk) (hf : freshB T F n = true) : Inv (max T (n + 1)) (markG T F n) (tk ++ [n]) := by
  refine ⟨right_mark T F n h.1 hf, fun o => ?_⟩
  rw [fresh_mark T F n o h.1.1 hf, h.2 o]
  have e : decide (max T (n + 1) - 1 - 1024 < o) = (decide (T - 1 - 1024 < o) && decide (n - 1024 < o)) := by
    rw [Bool.eq_iff_iff]; simp; omega
  rw [e, List.contains_append, List.contains_cons, List.contains_nil]
  by_cases ho : o = n
  · simp [ho]
  · have e2 : (o == n) = false := beq_eq_false_iff_ne.2 ho
    have e3 : decide (o ≠ n) = true := by simpa using ho
    rw [e2, e3]
    cases decide (0 ≤ o) <;> cases decide (o ≤ 4611686018427387904) <;> cases tk.contains o <;> cases decide (T - 1 - 1024 < o) <;> cases decide (n - 1024 < o) <;> rfl

theorem info3 : (Try.prog.info? 3).map (fun i => (i.zero, i.size, i.bytes)) = some (some (.int .i64 0), 1, 8) := by kernel_rfl

/-- What holds at a round's head. -/
def Rel (w : World) (g : Nat) (len : Nat) (v tp i : Value) (wr : World) : Prop :=
  ∃ (k : Nat) (T : Int) (F : Nat → Bool) (tk : List Int), k ≤ len ∧ i = .int .i64 k ∧ tp = .int .i64 (T - 1) ∧ wr.ownsRow w.heap.size 3 1 v tk.length (tk.map (Value.int .i64)) ∧ tk.length ≤ k ∧ Inv T F tk ∧ Blk wr g 25 (winA T F) ∧ Below w.heap.size w wr

set_option maxRecDepth 100000 in
set_option maxHeartbeats 8000000 in
theorem walk_long (A : Option Addr) (n c : Nat) (hn : n ≤ maxLen) (h40 : 40 < n) (w : World) :
    Calls Try.prog 5 #[.slice A n c] w fun e w' => e = .returned (.bool true) ∧ Below w.heap.size w w' := by
  unfold maxLen at hn
  have d0 : decide ((40 : Int) < (n : Int)) = true := by simp; omega
  have HB0 := Lib.hid (Below.refl w.heap.size w)
  go_enter Try.func5, Try.ntmps5
  go_wp2_with fail
  refine (shown_ok _).mono ?_
  rintro e w1 ⟨rfl, hb1⟩
  have HB1 := Lib.hid (HB0.out.trans (hb1.mono (HB0.out.size)))
  clear hb1 HB0
  go_wp2_with fail
  go_ret
  exact ⟨rfl, HB1.out⟩
set_option maxRecDepth 100000 in
set_option maxHeartbeats 8000000 in
theorem walk_short (A : Option Addr) (n c : Nat) (l : List Int) (hl : l.length = n) (h40 : n ≤ 40) (w : World)
    (hr : 0 < n → ∃ b off, A = some ⟨b, off, none⟩ ∧ b < w.heap.size ∧ ∀ j, j < n → w.cell? ⟨b, off + j, none⟩ = some (.int .i64 (l.getD j 0)))
    (hb : ∀ x ∈ l, -9223372036854775808 ≤ x ∧ x ≤ 9223372036854775807) :
    Calls Try.prog 5 #[.slice A n c] w fun e w' => e = .returned (.bool true) ∧ Below w.heap.size w w' := by
  have d0 : decide ((40 : Int) < (n : Int)) = false := by simp; omega
  have HR := Lib.hid hr; clear hr
  have HL := Lib.hid hb; clear hb
  have HB0 := Lib.hid (Below.refl w.heap.size w)
  go_enter Try.func5, Try.ntmps5
  go_wp2_with fail
  refine (shown_ok _).mono ?_
  rintro e w1 ⟨rfl, hb1⟩
  have HB1 := Lib.hid (HB0.out.trans (hb1.mono (HB0.out.size)))
  clear hb1 HB0
  have hz1 := HB1.out.size
  go_wp2_with (first | (refine store_blk' (ty := 25) rfl rfl rfl rfl (info25' 0 noBits) (winA_one _ _) (old := winA 0 noBits) (by simp only [winA_size]) (Blk.new w1 25 (winA 0 noBits)) ?_; intro w2 b2 hG2 hz2; have HB2 := Lib.hid ((HB1.out.alloc HB1.out.size _).grown hG2 (by simp; omega) (by simp; omega)); have hz2' := HB2.out.size; clear hG2 hz2) | fail)
  have o2 : (w2.alloc (.cells #[] 3)).ownsRow w.heap.size 3 1 (.slice (some ⟨w2.heap.size, 0, none⟩) 0 0) 0 [] := World.ownsRow_made w2 #[] 0 hz2' (Nat.zero_le _) rfl
  have b3 := b2.alloc (.cells #[] 3)
  have HB3 := Lib.hid (HB2.out.alloc hz2' (.cells #[] 3))
  have hg := b2.lt
  generalize w1.heap.size = g at *
  go_loopw [5, 6, 7] (fun v tp i wr => Rel w g n v tp i wr) (fun _ _ i _ => n - (intOf i).toNat)
  case atStart => exact ⟨0, 0, noBits, [], Nat.zero_le _, rfl, rfl, o2, Nat.le_refl _, inv_start, b3, HB3.out⟩
  case round =>
    obtain ⟨k, T, F, tk, hk, rfl, rfl, oo_10, htk, hinv, bw_10, hbel⟩ := hrel
    have HB10 := Lib.hid hbel; clear hbel
    obtain ⟨w10, rfl⟩ : ∃ w10 : World, w10 = wr := ⟨_, rfl⟩
    have hT0 := hinv.1.1
    have hT1 := hinv.1.2.1
    have HI := Lib.hid hinv; clear hinv
    by_cases hlt : k < n
    · obtain ⟨b, off, rfl, hbl, hc⟩ := HR.out (by omega)
      have hck : w10.cell? ⟨b, off + k, none⟩ = some (.int .i64 (l.getD k 0)) := (HB10.out.cell (p := ⟨b, off + k, none⟩) hbl).trans (hc k hlt)
      have hxb : -9223372036854775808 ≤ l.getD k 0 ∧ l.getD k 0 ≤ 9223372036854775807 := HL.out _ (by rw [List.getD_eq_getElem?_getD, List.getElem?_eq_getElem (by omega)]; exact List.getElem_mem _)
      generalize l.getD k 0 = x at *
      have HX := Lib.hid hxb; clear hxb hc
      obtain ⟨A', cap, rfl⟩ := own_shape oo_10
      go_wp2_with fail
      go_loop [9, 10] (fun hd j => ∃ m : Nat, m ≤ tk.length ∧ j = .int .i64 m ∧ hd = .bool (hadB tk x m)) (fun _ j => tk.length - (intOf j).toNat)
      case atStart => exact ⟨0, Nat.zero_le _, rfl, rfl⟩
      case round =>
        obtain ⟨m, hm, rfl, rfl⟩ := hrel
        by_cases hmt : m < tk.length
        · obtain ⟨g', cap', hv, hcell⟩ := own_read oo_10 hmt
          injection hv with hv1 hv2 hv3
          subst hv1 hv3
          obtain ⟨y, hy⟩ : ∃ y, tk[m]? = some y := ⟨_, List.getElem?_eq_getElem hmt⟩
          have hcell' : w10.cell? ⟨g', m, none⟩ = some (.int .i64 y) := by rw [hcell, List.getElem?_map, hy]; rfl
          have HS := Lib.hid (hadB_succ tk x y m hy)
          clear hy hcell hv2
          cases hh : hadB tk x m
          · rw [hh] at HS
            go_wp2
            exact ⟨⟨m + 1, by omega, by go_num, by rw [HS.out]; rfl⟩, by simp [intOf]; omega⟩
          · rw [hh] at HS
            go_wp2
            exact ⟨⟨m + 1, by omega, by go_num, by rw [HS.out]; rfl⟩, by simp [intOf]; omega⟩
        · obtain rfl : m = tk.length := by omega
          have HH := Lib.hid (hadB_all tk x)
          generalize hadB tk x tk.length = H at *
          have hx0 := HX.out.1
          have hx1 := HX.out.2
          have hfx := HI.out.2 x
          rw [← HH.out] at hfx
          by_cases r1 : x < 0
          · have e0 : decide (0 ≤ x) = false := by simp; omega
            have e5 : decide (x < 0) = true := by simp; omega
            have hfr : freshB T F x = false := by rw [hfx]; simp [e0]
            have hm : ∀ W : World, Calls Try.prog 15 #[.agg (winA T F), .int .i64 x] W fun e w1 => e = .returned (.tuple #[.agg (winA T F), .int .i64 1]) ∧ Below W.heap.size W w1 := fun W => mark_out T F x W (by omega)
            have hf : ∀ W : World, Calls Try.prog 13 #[.agg (winA T F), .int .i64 x] W fun e w1 => e = .returned (.bool false) ∧ Below W.heap.size W w1 := fun W => hfr ▸ wFresh_any T F x W hT0 hT1
            have hrr : ∀ W : World, Calls Try.prog 11 #[.agg (winA (T) F)] W fun e w1 => e = .returned (.bool true) ∧ Below W.heap.size W w1 := fun W => rRight_t _ _ W HI.out.1
            have HQ := Lib.hid (show (!weq T F T F) = false by rw [(weq_iff _ _ _ _).2 ⟨rfl, fun _ _ => rfl⟩]; rfl)
            have HM := Lib.hid hm; have HF := Lib.hid hf; have HRR := Lib.hid hrr
            clear hm hf hrr hfr
            go_wp2_with (first | (refine load_blk (ty := 25) rfl rfl rfl Try.underlying25 rfl (info25' (T) (F)) bw_10 ?_) | fail)
            refine (HM.out _).mono ?_
            rintro e w11 ⟨rfl, hb11⟩
            have bw_11 := bw_10.belowSelf hb11
            have oo_11 := own_below oo_10 hb11
            have HB11 := Lib.hid (HB10.out.trans (hb11.mono (HB10.out.size)))
            clear hb11 HB10 bw_10 oo_10
            have lwx := bw_11.lt
            go_wp2_with (first | (refine store_blk' (ty := 25) rfl rfl rfl rfl (info25' (T) (F)) (winA_one _ _) (old := winA 0 noBits) (by simp only [winA_size]) (Blk.new w11 25 (winA 0 noBits)) ?_; intro w12 bx_12 hG12 hz12; have HB12 := Lib.hid ((HB11.out.alloc HB11.out.size _).grown hG12 (by have := HB11.out.size; simp; omega) (by have := HB11.out.size; simp; omega)); have bw_12 := (bw_11.alloc (.cells (winA 0 noBits) 25)).grown hG12 (by simp; omega); have oo_12 := own_grown (oo_11.alloc (.cells (winA 0 noBits) 25)) (Blk.new w11 25 (winA 0 noBits)) (by decide) hG12; clear hG12 hz12) | (refine load_blk (ty := 25) rfl rfl rfl Try.underlying25 rfl (info25' (T) (F)) bw_12 ?_) | fail)
            refine (HF.out _).mono ?_
            rintro e w13 ⟨rfl, hb13⟩
            have bw_13 := bw_12.belowSelf hb13
            have bx_13 := bx_12.belowSelf hb13
            have oo_13 := own_below oo_12 hb13
            have HB13 := Lib.hid (HB12.out.trans (hb13.mono (HB12.out.size)))
            clear hb13 HB12 bw_12 bx_12 oo_12
            go_wp2_with (first | (refine load_blk_g (ty := 25) rfl rfl rfl Try.underlying25 rfl (info25' (T) (F)) bx_13 ?_) | fail)
            refine (HRR.out _).mono ?_
            rintro e w14 ⟨rfl, hb14⟩
            have bw_14 := bw_13.belowSelf hb14
            have bx_14 := bx_13.belowSelf hb14
            have oo_14 := own_below oo_13 hb14
            have HB14 := Lib.hid (HB13.out.trans (hb14.mono (HB13.out.size)))
            clear hb14 HB13 bw_13 bx_13 oo_13
            go_wp2_with (first | (refine load_blk_g (ty := 25) (g := g) rfl rfl rfl Try.underlying25 rfl (info25' (T) (F)) bw_14 ?_) | (refine load_blk_g (ty := 25) rfl rfl rfl Try.underlying25 rfl (info25' (T) (F)) bx_14 ?_) | (refine neq_win_g rfl rfl rfl rfl ?_; rw [HQ.out]) | (refine load_blk (ty := 25) rfl rfl rfl Try.underlying25 rfl (info25' (T) (F)) bx_14 ?_) | (refine store_blk' (ty := 25) rfl rfl rfl rfl (info25' (T) (F)) (winA_one _ _) (old := winA (T) (F)) (by simp only [winA_size]) bw_14 ?_; intro w15 bw_15 hG15 hz15; have HB15 := Lib.hid (HB14.out.grown hG15 HB14.out.size (by simp; omega)); have bx_15 := bx_14.grown hG15 (by simp; omega); have oo_15 := own_grown oo_14 bw_14 (by decide) hG15; clear hG15 hz15) | fail)
            exact ⟨⟨k + 1, T, F, tk, by omega, by go_num, rfl, oo_15, by first | omega | (simp; omega), HI.out, bw_15, HB15.out⟩, by simp [intOf]; omega⟩
          by_cases r2 : 4611686018427387904 < x
          · have e0 : decide (0 ≤ x) = true := by simp; omega
            have e1 : decide (x ≤ 4611686018427387904) = false := by simp; omega
            have e5 : decide (x < 0) = false := by simp; omega
            have e6 : decide (4611686018427387904 < x) = true := by simp; omega
            have hfr : freshB T F x = false := by rw [hfx]; simp [e1]
            have hm : ∀ W : World, Calls Try.prog 15 #[.agg (winA T F), .int .i64 x] W fun e w1 => e = .returned (.tuple #[.agg (winA T F), .int .i64 1]) ∧ Below W.heap.size W w1 := fun W => mark_out T F x W (by omega)
            have hf : ∀ W : World, Calls Try.prog 13 #[.agg (winA T F), .int .i64 x] W fun e w1 => e = .returned (.bool false) ∧ Below W.heap.size W w1 := fun W => hfr ▸ wFresh_any T F x W hT0 hT1
            have hrr : ∀ W : World, Calls Try.prog 11 #[.agg (winA (T) F)] W fun e w1 => e = .returned (.bool true) ∧ Below W.heap.size W w1 := fun W => rRight_t _ _ W HI.out.1
            have HQ := Lib.hid (show (!weq T F T F) = false by rw [(weq_iff _ _ _ _).2 ⟨rfl, fun _ _ => rfl⟩]; rfl)
            have HM := Lib.hid hm; have HF := Lib.hid hf; have HRR := Lib.hid hrr
            clear hm hf hrr hfr
            go_wp2_with (first | (refine load_blk (ty := 25) rfl rfl rfl Try.underlying25 rfl (info25' (T) (F)) bw_10 ?_) | fail)
            refine (HM.out _).mono ?_
            rintro e w11 ⟨rfl, hb11⟩
            have bw_11 := bw_10.belowSelf hb11
            have oo_11 := own_below oo_10 hb11
            have HB11 := Lib.hid (HB10.out.trans (hb11.mono (HB10.out.size)))
            clear hb11 HB10 bw_10 oo_10
            have lwx := bw_11.lt
            go_wp2_with (first | (refine store_blk' (ty := 25) rfl rfl rfl rfl (info25' (T) (F)) (winA_one _ _) (old := winA 0 noBits) (by simp only [winA_size]) (Blk.new w11 25 (winA 0 noBits)) ?_; intro w12 bx_12 hG12 hz12; have HB12 := Lib.hid ((HB11.out.alloc HB11.out.size _).grown hG12 (by have := HB11.out.size; simp; omega) (by have := HB11.out.size; simp; omega)); have bw_12 := (bw_11.alloc (.cells (winA 0 noBits) 25)).grown hG12 (by simp; omega); have oo_12 := own_grown (oo_11.alloc (.cells (winA 0 noBits) 25)) (Blk.new w11 25 (winA 0 noBits)) (by decide) hG12; clear hG12 hz12) | (refine load_blk (ty := 25) rfl rfl rfl Try.underlying25 rfl (info25' (T) (F)) bw_12 ?_) | fail)
            refine (HF.out _).mono ?_
            rintro e w13 ⟨rfl, hb13⟩
            have bw_13 := bw_12.belowSelf hb13
            have bx_13 := bx_12.belowSelf hb13
            have oo_13 := own_below oo_12 hb13
            have HB13 := Lib.hid (HB12.out.trans (hb13.mono (HB12.out.size)))
            clear hb13 HB12 bw_12 bx_12 oo_12
            go_wp2_with (first | (refine load_blk_g (ty := 25) rfl rfl rfl Try.underlying25 rfl (info25' (T) (F)) bx_13 ?_) | fail)
            refine (HRR.out _).mono ?_
            rintro e w14 ⟨rfl, hb14⟩
            have bw_14 := bw_13.belowSelf hb14
            have bx_14 := bx_13.belowSelf hb14
            have oo_14 := own_below oo_13 hb14
            have HB14 := Lib.hid (HB13.out.trans (hb14.mono (HB13.out.size)))
            clear hb14 HB13 bw_13 bx_13 oo_13
            go_wp2_with (first | (refine load_blk_g (ty := 25) (g := g) rfl rfl rfl Try.underlying25 rfl (info25' (T) (F)) bw_14 ?_) | (refine load_blk_g (ty := 25) rfl rfl rfl Try.underlying25 rfl (info25' (T) (F)) bx_14 ?_) | (refine neq_win_g rfl rfl rfl rfl ?_; rw [HQ.out]) | (refine load_blk (ty := 25) rfl rfl rfl Try.underlying25 rfl (info25' (T) (F)) bx_14 ?_) | (refine store_blk' (ty := 25) rfl rfl rfl rfl (info25' (T) (F)) (winA_one _ _) (old := winA (T) (F)) (by simp only [winA_size]) bw_14 ?_; intro w15 bw_15 hG15 hz15; have HB15 := Lib.hid (HB14.out.grown hG15 HB14.out.size (by simp; omega)); have bx_15 := bx_14.grown hG15 (by simp; omega); have oo_15 := own_grown oo_14 bw_14 (by decide) hG15; clear hG15 hz15) | fail)
            exact ⟨⟨k + 1, T, F, tk, by omega, by go_num, rfl, oo_15, by first | omega | (simp; omega), HI.out, bw_15, HB15.out⟩, by simp [intOf]; omega⟩
          have e0 : decide (0 ≤ x) = true := by simp; omega
          have e1 : decide (x ≤ 4611686018427387904) = true := by simp; omega
          have e5 : decide (x < 0) = false := by simp; omega
          have e6 : decide (4611686018427387904 < x) = false := by simp; omega
          cases hH : H
          rotate_left
          · rw [hH] at hfx
            have hfr : freshB T F x = false := by rw [hfx]; simp
            have hm : ∀ W : World, Calls Try.prog 15 #[.agg (winA T F), .int .i64 x] W fun e w1 => e = .returned (.tuple #[.agg (winA T F), .int .i64 6]) ∧ Below W.heap.size W w1 := fun W => mark_old T F x W hT0 hT1 (by omega) (by omega) hfr
            have hf : ∀ W : World, Calls Try.prog 13 #[.agg (winA T F), .int .i64 x] W fun e w1 => e = .returned (.bool false) ∧ Below W.heap.size W w1 := fun W => hfr ▸ wFresh_any T F x W hT0 hT1
            have hrr : ∀ W : World, Calls Try.prog 11 #[.agg (winA (T) F)] W fun e w1 => e = .returned (.bool true) ∧ Below W.heap.size W w1 := fun W => rRight_t _ _ W HI.out.1
            have HQ := Lib.hid (show (!weq T F T F) = false by rw [(weq_iff _ _ _ _).2 ⟨rfl, fun _ _ => rfl⟩]; rfl)
            have HM := Lib.hid hm; have HF := Lib.hid hf; have HRR := Lib.hid hrr
            clear hm hf hrr hfr
            go_wp2_with (first | (refine load_blk (ty := 25) rfl rfl rfl Try.underlying25 rfl (info25' (T) (F)) bw_10 ?_) | fail)
            refine (HM.out _).mono ?_
            rintro e w11 ⟨rfl, hb11⟩
            have bw_11 := bw_10.belowSelf hb11
            have oo_11 := own_below oo_10 hb11
            have HB11 := Lib.hid (HB10.out.trans (hb11.mono (HB10.out.size)))
            clear hb11 HB10 bw_10 oo_10
            have lwx := bw_11.lt
            go_wp2_with (first | (refine store_blk' (ty := 25) rfl rfl rfl rfl (info25' (T) (F)) (winA_one _ _) (old := winA 0 noBits) (by simp only [winA_size]) (Blk.new w11 25 (winA 0 noBits)) ?_; intro w12 bx_12 hG12 hz12; have HB12 := Lib.hid ((HB11.out.alloc HB11.out.size _).grown hG12 (by have := HB11.out.size; simp; omega) (by have := HB11.out.size; simp; omega)); have bw_12 := (bw_11.alloc (.cells (winA 0 noBits) 25)).grown hG12 (by simp; omega); have oo_12 := own_grown (oo_11.alloc (.cells (winA 0 noBits) 25)) (Blk.new w11 25 (winA 0 noBits)) (by decide) hG12; clear hG12 hz12) | (refine load_blk (ty := 25) rfl rfl rfl Try.underlying25 rfl (info25' (T) (F)) bw_12 ?_) | fail)
            refine (HF.out _).mono ?_
            rintro e w13 ⟨rfl, hb13⟩
            have bw_13 := bw_12.belowSelf hb13
            have bx_13 := bx_12.belowSelf hb13
            have oo_13 := own_below oo_12 hb13
            have HB13 := Lib.hid (HB12.out.trans (hb13.mono (HB12.out.size)))
            clear hb13 HB12 bw_12 bx_12 oo_12
            go_wp2_with (first | (refine load_blk_g (ty := 25) rfl rfl rfl Try.underlying25 rfl (info25' (T) (F)) bx_13 ?_) | fail)
            refine (HRR.out _).mono ?_
            rintro e w14 ⟨rfl, hb14⟩
            have bw_14 := bw_13.belowSelf hb14
            have bx_14 := bx_13.belowSelf hb14
            have oo_14 := own_below oo_13 hb14
            have HB14 := Lib.hid (HB13.out.trans (hb14.mono (HB13.out.size)))
            clear hb14 HB13 bw_13 bx_13 oo_13
            go_wp2_with (first | (refine load_blk_g (ty := 25) (g := g) rfl rfl rfl Try.underlying25 rfl (info25' (T) (F)) bw_14 ?_) | (refine load_blk_g (ty := 25) rfl rfl rfl Try.underlying25 rfl (info25' (T) (F)) bx_14 ?_) | (refine neq_win_g rfl rfl rfl rfl ?_; rw [HQ.out]) | (refine load_blk (ty := 25) rfl rfl rfl Try.underlying25 rfl (info25' (T) (F)) bx_14 ?_) | (refine store_blk' (ty := 25) rfl rfl rfl rfl (info25' (T) (F)) (winA_one _ _) (old := winA (T) (F)) (by simp only [winA_size]) bw_14 ?_; intro w15 bw_15 hG15 hz15; have HB15 := Lib.hid (HB14.out.grown hG15 HB14.out.size (by simp; omega)); have bx_15 := bx_14.grown hG15 (by simp; omega); have oo_15 := own_grown oo_14 bw_14 (by decide) hG15; clear hG15 hz15) | fail)
            exact ⟨⟨k + 1, T, F, tk, by omega, by go_num, rfl, oo_15, by first | omega | (simp; omega), HI.out, bw_15, HB15.out⟩, by simp [intOf]; omega⟩
          rw [hH] at hfx
          by_cases r3 : T - 1 - 1024 < x
          rotate_left
          · have e2 : decide (T - 1 - 1024 < x) = false := by simp; omega
            have hfr : freshB T F x = false := by rw [hfx, e2]; simp
            have hm : ∀ W : World, Calls Try.prog 15 #[.agg (winA T F), .int .i64 x] W fun e w1 => e = .returned (.tuple #[.agg (winA T F), .int .i64 6]) ∧ Below W.heap.size W w1 := fun W => mark_old T F x W hT0 hT1 (by omega) (by omega) hfr
            have hf : ∀ W : World, Calls Try.prog 13 #[.agg (winA T F), .int .i64 x] W fun e w1 => e = .returned (.bool false) ∧ Below W.heap.size W w1 := fun W => hfr ▸ wFresh_any T F x W hT0 hT1
            have hrr : ∀ W : World, Calls Try.prog 11 #[.agg (winA (T) F)] W fun e w1 => e = .returned (.bool true) ∧ Below W.heap.size W w1 := fun W => rRight_t _ _ W HI.out.1
            have HQ := Lib.hid (show (!weq T F T F) = false by rw [(weq_iff _ _ _ _).2 ⟨rfl, fun _ _ => rfl⟩]; rfl)
            have HM := Lib.hid hm; have HF := Lib.hid hf; have HRR := Lib.hid hrr
            clear hm hf hrr hfr
            go_wp2_with (first | (refine load_blk (ty := 25) rfl rfl rfl Try.underlying25 rfl (info25' (T) (F)) bw_10 ?_) | fail)
            refine (HM.out _).mono ?_
            rintro e w11 ⟨rfl, hb11⟩
            have bw_11 := bw_10.belowSelf hb11
            have oo_11 := own_below oo_10 hb11
            have HB11 := Lib.hid (HB10.out.trans (hb11.mono (HB10.out.size)))
            clear hb11 HB10 bw_10 oo_10
            have lwx := bw_11.lt
            go_wp2_with (first | (refine store_blk' (ty := 25) rfl rfl rfl rfl (info25' (T) (F)) (winA_one _ _) (old := winA 0 noBits) (by simp only [winA_size]) (Blk.new w11 25 (winA 0 noBits)) ?_; intro w12 bx_12 hG12 hz12; have HB12 := Lib.hid ((HB11.out.alloc HB11.out.size _).grown hG12 (by have := HB11.out.size; simp; omega) (by have := HB11.out.size; simp; omega)); have bw_12 := (bw_11.alloc (.cells (winA 0 noBits) 25)).grown hG12 (by simp; omega); have oo_12 := own_grown (oo_11.alloc (.cells (winA 0 noBits) 25)) (Blk.new w11 25 (winA 0 noBits)) (by decide) hG12; clear hG12 hz12) | (refine load_blk (ty := 25) rfl rfl rfl Try.underlying25 rfl (info25' (T) (F)) bw_12 ?_) | fail)
            refine (HF.out _).mono ?_
            rintro e w13 ⟨rfl, hb13⟩
            have bw_13 := bw_12.belowSelf hb13
            have bx_13 := bx_12.belowSelf hb13
            have oo_13 := own_below oo_12 hb13
            have HB13 := Lib.hid (HB12.out.trans (hb13.mono (HB12.out.size)))
            clear hb13 HB12 bw_12 bx_12 oo_12
            go_wp2_with (first | (refine load_blk_g (ty := 25) rfl rfl rfl Try.underlying25 rfl (info25' (T) (F)) bx_13 ?_) | fail)
            refine (HRR.out _).mono ?_
            rintro e w14 ⟨rfl, hb14⟩
            have bw_14 := bw_13.belowSelf hb14
            have bx_14 := bx_13.belowSelf hb14
            have oo_14 := own_below oo_13 hb14
            have HB14 := Lib.hid (HB13.out.trans (hb14.mono (HB13.out.size)))
            clear hb14 HB13 bw_13 bx_13 oo_13
            go_wp2_with (first | (refine load_blk_g (ty := 25) (g := g) rfl rfl rfl Try.underlying25 rfl (info25' (T) (F)) bw_14 ?_) | (refine load_blk_g (ty := 25) rfl rfl rfl Try.underlying25 rfl (info25' (T) (F)) bx_14 ?_) | (refine neq_win_g rfl rfl rfl rfl ?_; rw [HQ.out]) | (refine load_blk (ty := 25) rfl rfl rfl Try.underlying25 rfl (info25' (T) (F)) bx_14 ?_) | (refine store_blk' (ty := 25) rfl rfl rfl rfl (info25' (T) (F)) (winA_one _ _) (old := winA (T) (F)) (by simp only [winA_size]) bw_14 ?_; intro w15 bw_15 hG15 hz15; have HB15 := Lib.hid (HB14.out.grown hG15 HB14.out.size (by simp; omega)); have bx_15 := bx_14.grown hG15 (by simp; omega); have oo_15 := own_grown oo_14 bw_14 (by decide) hG15; clear hG15 hz15) | fail)
            exact ⟨⟨k + 1, T, F, tk, by omega, by go_num, rfl, oo_15, by first | omega | (simp; omega), HI.out, bw_15, HB15.out⟩, by simp [intOf]; omega⟩
          have e2 : decide (T - 1 - 1024 < x) = true := by simp; omega
          have hfr : freshB T F x = true := by rw [hfx, e0, e1, e2]; rfl
          obtain ⟨i0, hi3, hz0, hz1, hz2⟩ := info_parts info3
          by_cases r4 : T - 1 < x
          · have hm := fun W => mark_ok T F x W hT0 hT1 hfr
            rw [show max T (x + 1) = x + 1 by omega] at hm
            have HI2 := Lib.hid (inv_step HI.out hfr)
            rw [show max T (x + 1) = x + 1 by omega] at HI2
            generalize markG T F x = G at *
            have hf : ∀ W : World, Calls Try.prog 13 #[.agg (winA T F), .int .i64 x] W fun e w1 => e = .returned (.bool true) ∧ Below W.heap.size W w1 := fun W => hfr ▸ wFresh_any T F x W hT0 hT1
            have hrr : ∀ W : World, Calls Try.prog 11 #[.agg (winA (x + 1) G)] W fun e w1 => e = .returned (.bool true) ∧ Below W.heap.size W w1 := fun W => rRight_t _ _ W HI2.out.1
            have HM := Lib.hid hm; have HF := Lib.hid hf; have HRR := Lib.hid hrr
            clear hm hf hrr hfr
            go_wp2_with (first | (refine load_blk (ty := 25) rfl rfl rfl Try.underlying25 rfl (info25' (T) (F)) bw_10 ?_) | fail)
            refine (HM.out _).mono ?_
            rintro e w11 ⟨rfl, hb11⟩
            have bw_11 := bw_10.belowSelf hb11
            have oo_11 := own_below oo_10 hb11
            have HB11 := Lib.hid (HB10.out.trans (hb11.mono (HB10.out.size)))
            clear hb11 HB10 bw_10 oo_10
            have lwx := bw_11.lt
            go_wp2_with (first | (refine store_blk' (ty := 25) rfl rfl rfl rfl (info25' (x + 1) (G)) (winA_one _ _) (old := winA 0 noBits) (by simp only [winA_size]) (Blk.new w11 25 (winA 0 noBits)) ?_; intro w12 bx_12 hG12 hz12; have HB12 := Lib.hid ((HB11.out.alloc HB11.out.size _).grown hG12 (by have := HB11.out.size; simp; omega) (by have := HB11.out.size; simp; omega)); have bw_12 := (bw_11.alloc (.cells (winA 0 noBits) 25)).grown hG12 (by simp; omega); have oo_12 := own_grown (oo_11.alloc (.cells (winA 0 noBits) 25)) (Blk.new w11 25 (winA 0 noBits)) (by decide) hG12; clear hG12 hz12) | (refine load_blk (ty := 25) rfl rfl rfl Try.underlying25 rfl (info25' (T) (F)) bw_12 ?_) | fail)
            refine (HF.out _).mono ?_
            rintro e w13 ⟨rfl, hb13⟩
            have bw_13 := bw_12.belowSelf hb13
            have bx_13 := bx_12.belowSelf hb13
            have oo_13 := own_below oo_12 hb13
            have HB13 := Lib.hid (HB12.out.trans (hb13.mono (HB12.out.size)))
            clear hb13 HB12 bw_12 bx_12 oo_12
            go_wp2_with (first | (refine load_blk_g (ty := 25) rfl rfl rfl Try.underlying25 rfl (info25' (x + 1) (G)) bx_13 ?_) | fail)
            refine (HRR.out _).mono ?_
            rintro e w14 ⟨rfl, hb14⟩
            have bw_14 := bw_13.belowSelf hb14
            have bx_14 := bx_13.belowSelf hb14
            have oo_14 := own_below oo_13 hb14
            have HB14 := Lib.hid (HB13.out.trans (hb14.mono (HB13.out.size)))
            clear hb14 HB13 bw_13 bx_13 oo_13
            go_wp2_with (first | (at_builtin; refine wpList_append_own _ rfl _ _ 34 rfl w.heap.size 3 i0 (.int .i64 0) 1 8 Try.underlying34 hi3 hz0 hz1 hz2 rfl (by decide) _ _ _ rfl (oo_14.alloc (.cells #[.int .i64 x] 3)) ⟨w14.heap.size, 0, none⟩ 1 1 [.int .i64 x] rfl rfl ?c1 ?c2 ?c3 ?c4 ?c5 ?_) | fail)
            case c1 =>
              intro j u hj
              match j, hj with
              | 0, hj => simp at hj; subst hj; simp [Addr.add]
            case c2 => intro u hu; simp at hu; subst hu; rfl
            case c3 => unfold maxLen; omega
            case c4 => omega
            case c5 => have := HB14.out.size; simp; omega
            intro v15 w15 oo_15 hG15 _
            have bw_15 := (bw_14.alloc (.cells #[.int .i64 x] 3)).appended (oo_14.alloc (.cells #[.int .i64 x] 3)) (by decide) hG15
            have bx_15 := (bx_14.alloc (.cells #[.int .i64 x] 3)).appended (oo_14.alloc (.cells #[.int .i64 x] 3)) (by decide) hG15
            have hlow := oo_14.lt
            have HB15 := Lib.hid ((HB14.out.alloc HB14.out.size (.cells #[.int .i64 x] 3)).grown hG15 (by have := HB14.out.size; simp; omega) (fun q hq => (hlow q hq).1))
            clear hG15 hlow oo_14 bw_14 bx_14 HB14
            go_wp2_with (first | (refine load_blk (ty := 25) rfl rfl rfl Try.underlying25 rfl (info25' (x + 1) (G)) bx_15 ?_) | (refine store_blk' (ty := 25) rfl rfl rfl rfl (info25' (x + 1) (G)) (winA_one _ _) (old := winA (T) (F)) (by simp only [winA_size]) bw_15 ?_; intro w16 bw_16 hG16 hz16; have HB16 := Lib.hid (HB15.out.grown hG16 HB15.out.size (by simp; omega)); have bx_16 := bx_15.grown hG16 (by simp; omega); have oo_16 := own_grown oo_15 bw_15 (by decide) hG16; clear hG16 hz16) | fail)
            exact ⟨⟨k + 1, x + 1, G, tk ++ [x], by omega, by go_num, by congr 1; omega, (by simpa using oo_16), by first | omega | (simp; omega), HI2.out, bw_16, HB16.out⟩, by simp [intOf]; omega⟩
          · have hm := fun W => mark_ok T F x W hT0 hT1 hfr
            rw [show max T (x + 1) = T by omega] at hm
            have HI2 := Lib.hid (inv_step HI.out hfr)
            rw [show max T (x + 1) = T by omega] at HI2
            generalize markG T F x = G at *
            have hf : ∀ W : World, Calls Try.prog 13 #[.agg (winA T F), .int .i64 x] W fun e w1 => e = .returned (.bool true) ∧ Below W.heap.size W w1 := fun W => hfr ▸ wFresh_any T F x W hT0 hT1
            have hrr : ∀ W : World, Calls Try.prog 11 #[.agg (winA (T) G)] W fun e w1 => e = .returned (.bool true) ∧ Below W.heap.size W w1 := fun W => rRight_t _ _ W HI2.out.1
            have HM := Lib.hid hm; have HF := Lib.hid hf; have HRR := Lib.hid hrr
            clear hm hf hrr hfr
            go_wp2_with (first | (refine load_blk (ty := 25) rfl rfl rfl Try.underlying25 rfl (info25' (T) (F)) bw_10 ?_) | fail)
            refine (HM.out _).mono ?_
            rintro e w11 ⟨rfl, hb11⟩
            have bw_11 := bw_10.belowSelf hb11
            have oo_11 := own_below oo_10 hb11
            have HB11 := Lib.hid (HB10.out.trans (hb11.mono (HB10.out.size)))
            clear hb11 HB10 bw_10 oo_10
            have lwx := bw_11.lt
            go_wp2_with (first | (refine store_blk' (ty := 25) rfl rfl rfl rfl (info25' (T) (G)) (winA_one _ _) (old := winA 0 noBits) (by simp only [winA_size]) (Blk.new w11 25 (winA 0 noBits)) ?_; intro w12 bx_12 hG12 hz12; have HB12 := Lib.hid ((HB11.out.alloc HB11.out.size _).grown hG12 (by have := HB11.out.size; simp; omega) (by have := HB11.out.size; simp; omega)); have bw_12 := (bw_11.alloc (.cells (winA 0 noBits) 25)).grown hG12 (by simp; omega); have oo_12 := own_grown (oo_11.alloc (.cells (winA 0 noBits) 25)) (Blk.new w11 25 (winA 0 noBits)) (by decide) hG12; clear hG12 hz12) | (refine load_blk (ty := 25) rfl rfl rfl Try.underlying25 rfl (info25' (T) (F)) bw_12 ?_) | fail)
            refine (HF.out _).mono ?_
            rintro e w13 ⟨rfl, hb13⟩
            have bw_13 := bw_12.belowSelf hb13
            have bx_13 := bx_12.belowSelf hb13
            have oo_13 := own_below oo_12 hb13
            have HB13 := Lib.hid (HB12.out.trans (hb13.mono (HB12.out.size)))
            clear hb13 HB12 bw_12 bx_12 oo_12
            go_wp2_with (first | (refine load_blk_g (ty := 25) rfl rfl rfl Try.underlying25 rfl (info25' (T) (G)) bx_13 ?_) | fail)
            refine (HRR.out _).mono ?_
            rintro e w14 ⟨rfl, hb14⟩
            have bw_14 := bw_13.belowSelf hb14
            have bx_14 := bx_13.belowSelf hb14
            have oo_14 := own_below oo_13 hb14
            have HB14 := Lib.hid (HB13.out.trans (hb14.mono (HB13.out.size)))
            clear hb14 HB13 bw_13 bx_13 oo_13
            go_wp2_with (first | (at_builtin; refine wpList_append_own _ rfl _ _ 34 rfl w.heap.size 3 i0 (.int .i64 0) 1 8 Try.underlying34 hi3 hz0 hz1 hz2 rfl (by decide) _ _ _ rfl (oo_14.alloc (.cells #[.int .i64 x] 3)) ⟨w14.heap.size, 0, none⟩ 1 1 [.int .i64 x] rfl rfl ?c1 ?c2 ?c3 ?c4 ?c5 ?_) | fail)
            case c1 =>
              intro j u hj
              match j, hj with
              | 0, hj => simp at hj; subst hj; simp [Addr.add]
            case c2 => intro u hu; simp at hu; subst hu; rfl
            case c3 => unfold maxLen; omega
            case c4 => omega
            case c5 => have := HB14.out.size; simp; omega
            intro v15 w15 oo_15 hG15 _
            have bw_15 := (bw_14.alloc (.cells #[.int .i64 x] 3)).appended (oo_14.alloc (.cells #[.int .i64 x] 3)) (by decide) hG15
            have bx_15 := (bx_14.alloc (.cells #[.int .i64 x] 3)).appended (oo_14.alloc (.cells #[.int .i64 x] 3)) (by decide) hG15
            have hlow := oo_14.lt
            have HB15 := Lib.hid ((HB14.out.alloc HB14.out.size (.cells #[.int .i64 x] 3)).grown hG15 (by have := HB14.out.size; simp; omega) (fun q hq => (hlow q hq).1))
            clear hG15 hlow oo_14 bw_14 bx_14 HB14
            go_wp2_with (first | (refine load_blk (ty := 25) rfl rfl rfl Try.underlying25 rfl (info25' (T) (G)) bx_15 ?_) | (refine store_blk' (ty := 25) rfl rfl rfl rfl (info25' (T) (G)) (winA_one _ _) (old := winA (T) (F)) (by simp only [winA_size]) bw_15 ?_; intro w16 bw_16 hG16 hz16; have HB16 := Lib.hid (HB15.out.grown hG16 HB15.out.size (by simp; omega)); have bx_16 := bx_15.grown hG16 (by simp; omega); have oo_16 := own_grown oo_15 bw_15 (by decide) hG16; clear hG16 hz16) | fail)
            exact ⟨⟨k + 1, T, G, tk ++ [x], by omega, by go_num, rfl, (by simpa using oo_16), by first | omega | (simp; omega), HI2.out, bw_16, HB16.out⟩, by simp [intOf]; omega⟩
    · have hct := (bw_10.cell 0).trans (winA_top T F)
      have ek : (T - 1 + 1 == T) = true := by rw [beq_iff_eq]; omega
      go_wp2_with fail
      go_ret
      exact ⟨rfl, HB10.out⟩

theorem walk {w : World} (A : Option Addr) (n c : Nat) (l : List Int) (hl : l.length = n) (hn : n ≤ maxLen)
    (hr : 0 < n → ∃ b off, A = some ⟨b, off, none⟩ ∧ b < w.heap.size ∧ ∀ j, j < n → w.cell? ⟨b, off + j, none⟩ = some (.int .i64 (l.getD j 0)))
    (hb : ∀ x ∈ l, -9223372036854775808 ≤ x ∧ x ≤ 9223372036854775807) :
    Calls Try.prog 5 #[.slice A n c] w fun e w' => e = .returned (.bool true) ∧ Below w.heap.size w w' := by
  by_cases h : 40 < n
  · exact walk_long A n c hn h w
  · exact walk_short A n c l hl (by omega) w hr hb

set_option maxRecDepth 100000 in
theorem lifted (os : Os) (started : os.Started) (H : Type) (enc : TypeId × Value → H) :
    ReturnsInHanded {} Try.checked os 5 .any (Rows.winOnceSpec.pre6 enc Try.prog Try.f5 Rows.winOnceRow.domain false) (Rows.winOnceSpec.post enc Try.prog Try.f5 false true false false) := by
  refine returnsInHanded_of_change (C := Try.checked) own started (by kernel_rfl) Try.func5
    (ChangeSpec.witness6 (enc := enc) (C := Try.checked) false ⟨#[], #[.slice none 0 0], []⟩ 8 (by kernel_rfl) (by kernel_rfl) (by kernel_rfl) (by kernel_rfl)) ?_
  intro W base args ds gs before hval0 hW _ _
  have hval : ∀ (j : Nat) t v, Try.f5.params[j]? = some t → args[j]? = some v → Value.okWide Try.prog W .any base t v := hval0
  have hW' := hW
  obtain ⟨p, q, hA0, hV, rfl, _, _⟩ := hW
  have hA : DataW.TrodAll enc Try.prog W 0 (fun _ => true) true Try.f5.params.toList args.toList ds p := hA0
  rw [Try.params5] at hA hval
  obtain ⟨v0, vs0, d0, ds0, p0, q0, hargs, rfl, rfl, h0, r0x⟩ := trodAll_cons hA
  obtain ⟨rfl, rfl, rfl⟩ := trodAll_nil r0x
  obtain rfl : args = #[v0] := by cases args; simp_all
  obtain ⟨A0, n0, c0, l0, rfl, hl0, hn0, hr0, hb0⟩ := open_list Try.underlying34 (hval 0 34 v0 rfl rfl) h0
  clear hA0 hval0
  refine (walk A0 n0 c0 l0 hl0 hn0 hr0 hb0).mono fun e W' ⟨he, hg⟩ => ?_
  subst he
  exact ⟨_, rfl, law_post hW' rfl rfl (fun h => by subst h; exact ⟨rfl, rfl, rfl⟩) (by rw [Try.params5]; intro t ht; simp at ht; rcases ht with rfl <;> exact ⟨by kernel_rfl, of_decide_eq_true (by kernel_rfl)⟩) hg⟩

theorem over : Rows.winOnceRow.holds Try.pinned (OpenSpec.ofChange Rows.winOnceSpec) :=
  OpenClaim.holds_of_wide 5 Try.f5 rfl rfl rfl rfl rfl rfl rfl ⟨rfl, rfl, rfl, rfl, rfl⟩ rfl rfl rfl rfl rfl (by kernel_rfl) Try.func5 (by kernel_rfl)
    (of_decide_eq_true (by kernel_rfl)) (by unfold Func.isWrapper; first | (rw [if_pos (by decide +kernel)]; kernel_rfl) | (rw [if_neg (by decide +kernel)]; exact ⟨rfl, rfl⟩))
    (fun os started H enc _ => lifted os started H enc)

theorem proved : Rows.WinOnceSaid :=
  over
#print axioms proved
end winOnce
end Go.Proofs.Ytkmmfobnpapceaa
