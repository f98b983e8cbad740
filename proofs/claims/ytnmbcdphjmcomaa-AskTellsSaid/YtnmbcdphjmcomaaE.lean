/- The law's examples: shown. -/
import Derived.Test.YtnmbcdphjmcomaaD
namespace Go.Proofs.Ytnmbcdphjmcomaa
open Go.RowKit

theorem Rb.grown {w w' : World} {A : Option Addr} {xs : List Int} {row : Option Nat} (h : Rb w A xs) (hb : w.grownBy w' row) (hr : ∀ b off, A = some ⟨b, off, none⟩ → some b ≠ row) : Rb w' A xs :=
  ⟨h.len, h.byte, fun h0 => by
    obtain ⟨b, off, e, hlt, hc⟩ := h.cells h0
    refine ⟨b, off, e, Nat.lt_of_lt_of_le hlt hb.size, fun j hj => ?_⟩
    rw [← hc j hj]
    simp only [World.cell?, hb.block b hlt (hr b off e)]⟩

theorem byte_one (w : World) : Rb (w.alloc (.cells #[.int .u8 1] 5)) (some ⟨w.heap.size, 0, none⟩) [1] :=
  ⟨by decide, by simp, fun _ => ⟨w.heap.size, 0, rfl, by simp, fun j hj => by
    obtain rfl : j = 0 := by simp at hj; omega
    exact (Blk.new w 5 #[.int .u8 1]).cell 0⟩⟩

set_option maxRecDepth 100000 in
set_option maxHeartbeats 8000000 in
theorem shown_ok (w : World) : Calls Try.prog 8 #[] w fun e w' => e = .returned (.bool true) ∧ Below w.heap.size w w' := by
  have HX0 := Lib.hid (byte_one w)
  have HB0 := Lib.hid ((Below.refl w.heap.size w).alloc (Nat.le_refl _) (Obj.cells #[.int .u8 1] 5))
  go_enter Try.func8, Try.ntmps8
  go_wp2_with fail
  refine (begin_yes 301 7 (some ⟨w.heap.size, 0, none⟩) 1 1 _ (by decide) (by decide)).mono ?_
  rintro e w1 ⟨rfl, hb1⟩
  have HX1 := Lib.hid (HX0.out.below hb1)
  have HB1 := Lib.hid (HB0.out.trans (hb1.mono (by simp)))
  have hs1 : w.heap.size < w1.heap.size := by have := hb1.size; simp at this; omega
  clear hb1 HB0 HX0
  have ba := (Blk.new w1 24 (askA 301 7 8 3 (some ⟨w.heap.size, 0, none⟩) 1 1)).alloc (.cells (askA 301 7 8 3 (some ⟨w.heap.size, 0, none⟩) 1 1) 24)
  have bx := Blk.new (w1.alloc (.cells (askA 301 7 8 3 (some ⟨w.heap.size, 0, none⟩) 1 1) 24)) 24 (askA 301 7 8 3 (some ⟨w.heap.size, 0, none⟩) 1 1)
  rw [World.size_alloc] at bx
  have HX2 := Lib.hid ((HX1.out.alloc (.cells (askA 301 7 8 3 (some ⟨w.heap.size, 0, none⟩) 1 1) 24)).alloc (.cells (askA 301 7 8 3 (some ⟨w.heap.size, 0, none⟩) 1 1) 24))
  have HB2 := Lib.hid ((HB1.out.alloc HB1.out.size (.cells (askA 301 7 8 3 (some ⟨w.heap.size, 0, none⟩) 1 1) 24)).alloc (by have := HB1.out.size; simp; omega) (.cells (askA 301 7 8 3 (some ⟨w.heap.size, 0, none⟩) 1 1) 24))
  clear HX1
  go_wp2_with fail
  all_goals
    have HN1 := Lib.hid hs1; clear hs1
    go_loopw [4, 5] (fun ag i wr => ∃ k : Nat, i = .int .i64 k ∧ Blk wr w1.heap.size 24 (askA 301 7 8 3 (some ⟨w.heap.size, 0, none⟩) 1 1) ∧ Rb wr (some ⟨w.heap.size, 0, none⟩) [1] ∧ Below w.heap.size w wr ∧ ((k ≤ 7 ∧ ag = .bool false ∧ Blk wr (w1.heap.size + 1) 24 (askA 301 7 (8 - k) 3 (some ⟨w.heap.size, 0, none⟩) 1 1)) ∨ (k = 8 ∧ ag = .bool true ∧ Blk wr (w1.heap.size + 1) 24 (askA 301 7 8 2 (some ⟨w.heap.size, 0, none⟩) 1 1)))) (fun _ i _ => 8 - (intOf i).toNat)
    case atStart => exact ⟨0, rfl, ba, HX2.out, HB2.out, Or.inl ⟨by omega, rfl, bx⟩⟩
    case round =>
      clear ba bx HX2 HB2
      obtain ⟨k, rfl, ka, hxk, hbk, hk⟩ := hrel
      have HXk := Lib.hid hxk; have HBk := Lib.hid hbk; clear hxk hbk
      rcases hk with ⟨hk, rfl, kx⟩ | ⟨rfl, rfl, kx⟩
      · by_cases h7 : k = 7
        · subst h7
          have T : Calls Try.prog 21 #[askV 301 7 (8 - ((7 : Nat) : Int)) 3 (some ⟨w.heap.size, 0, none⟩) 1 1] wr fun e w' => e = .returned (.tuple #[askV 301 7 8 2 (some ⟨w.heap.size, 0, none⟩) 1 1, .bool true, .bool false]) ∧ Below wr.heap.size wr w' := tick_again 301 7 _ 3 (some ⟨w.heap.size, 0, none⟩) [1] 1 _ HXk.out (by decide) (by omega) (by omega) (by omega) (by omega)
          have HT := Lib.hid T; clear T
          go_wp2_with (first | (refine load_blk (ty := 24) rfl rfl rfl Try.underlying24 rfl (info24 _ _ _ _ _ _ _) kx ?_) | fail)
          refine HT.out.mono ?_
          rintro e w5 ⟨rfl, hb5⟩
          clear HT
          have HB5 := Lib.hid (HBk.out.trans (hb5.mono HBk.out.size))
          have HX5 := Lib.hid (HXk.out.below hb5)
          have ka5 := ka.belowSelf hb5
          have kx5 := kx.belowSelf hb5
          have hsz := Nat.lt_of_lt_of_le (Nat.lt_of_succ_lt kx.lt) hb5.size
          clear hb5 ka kx HXk HBk
          go_wp2_with (first | (refine store_blk' (ty := 24) rfl rfl rfl rfl (info24 301 7 8 2 (some ⟨w.heap.size, 0, none⟩) 1 1) (askA_one _ _ _ _ _ _ _) (old := askA 301 7 (8 - ((7 : Nat) : Int)) 3 (some ⟨w.heap.size, 0, none⟩) 1 1) rfl (kx5.alloc (.cells (askA 301 7 8 2 (some ⟨w.heap.size, 0, none⟩) 1 1) 24)) ?_; intro w6 kx6 hG6 hz6; have HB6 := Lib.hid ((HB5.out.alloc HB5.out.size (.cells (askA 301 7 8 2 (some ⟨w.heap.size, 0, none⟩) 1 1) 24)).grown hG6 (by have := HB5.out.size; simp; omega) (by have := HN1.out; simp; omega)); have ka6 := (ka5.alloc (.cells (askA 301 7 8 2 (some ⟨w.heap.size, 0, none⟩) 1 1) 24)).grown hG6 (by simp); have HX6 := Lib.hid ((HX5.out.alloc (.cells (askA 301 7 8 2 (some ⟨w.heap.size, 0, none⟩) 1 1) 24)).grown hG6 (by intro b off hbo; cases hbo; have := HN1.out; simp; omega)); clear hG6 hz6) | fail)
          exact ⟨⟨8, by go_num, ka6, HX6.out, HB6.out, Or.inr ⟨rfl, rfl, kx6⟩⟩, by simp [intOf]⟩
        · have hk8 : k < 8 := by omega
          have T : Calls Try.prog 21 #[askV 301 7 (8 - (k : Int)) 3 (some ⟨w.heap.size, 0, none⟩) 1 1] wr fun e w' => e = .returned (.tuple #[askV 301 7 (8 - ((k + 1 : Nat) : Int)) 3 (some ⟨w.heap.size, 0, none⟩) 1 1, .bool false, .bool false]) ∧ Below wr.heap.size wr w' := by
            have := tick_wait 301 7 (8 - (k : Int)) 3 (some ⟨w.heap.size, 0, none⟩) [1] 1 _ HXk.out (by unfold noneB; simp) (by omega) (by omega)
            rwa [show (8 - (k : Int) - 1) = 8 - ((k + 1 : Nat) : Int) by omega] at this
          have HT := Lib.hid T; clear T
          go_wp2_with (first | (refine load_blk (ty := 24) rfl rfl rfl Try.underlying24 rfl (info24 _ _ _ _ _ _ _) kx ?_) | fail)
          refine HT.out.mono ?_
          rintro e w5 ⟨rfl, hb5⟩
          clear HT
          have HB5 := Lib.hid (HBk.out.trans (hb5.mono HBk.out.size))
          have HX5 := Lib.hid (HXk.out.below hb5)
          have ka5 := ka.belowSelf hb5
          have kx5 := kx.belowSelf hb5
          have hsz := Nat.lt_of_lt_of_le (Nat.lt_of_succ_lt kx.lt) hb5.size
          clear hb5 ka kx HXk HBk
          go_wp2_with (first | (refine store_blk' (ty := 24) rfl rfl rfl rfl (info24 301 7 (8 - ((k + 1 : Nat) : Int)) 3 (some ⟨w.heap.size, 0, none⟩) 1 1) (askA_one _ _ _ _ _ _ _) (old := askA 301 7 (8 - (k : Int)) 3 (some ⟨w.heap.size, 0, none⟩) 1 1) rfl (kx5.alloc (.cells (askA 301 7 (8 - ((k + 1 : Nat) : Int)) 3 (some ⟨w.heap.size, 0, none⟩) 1 1) 24)) ?_; intro w6 kx6 hG6 hz6; have HB6 := Lib.hid ((HB5.out.alloc HB5.out.size (.cells (askA 301 7 (8 - ((k + 1 : Nat) : Int)) 3 (some ⟨w.heap.size, 0, none⟩) 1 1) 24)).grown hG6 (by have := HB5.out.size; simp; omega) (by have := HN1.out; simp; omega)); have ka6 := (ka5.alloc (.cells (askA 301 7 (8 - ((k + 1 : Nat) : Int)) 3 (some ⟨w.heap.size, 0, none⟩) 1 1) 24)).grown hG6 (by simp); have HX6 := Lib.hid ((HX5.out.alloc (.cells (askA 301 7 (8 - ((k + 1 : Nat) : Int)) 3 (some ⟨w.heap.size, 0, none⟩) 1 1) 24)).grown hG6 (by intro b off hbo; cases hbo; have := HN1.out; simp; omega)); clear hG6 hz6) | fail)
          exact ⟨⟨k + 1, by go_num, ka6, HX6.out, HB6.out, Or.inl ⟨by omega, rfl, kx6⟩⟩, by simp [intOf]; omega⟩
      · have c3 := kx.cell 3
        have c2 := kx.cell 2
        go_wp2_with (first | (refine load_blk_g (ty := 24) rfl rfl rfl Try.underlying24 rfl (info24 301 7 8 2 (some ⟨w.heap.size, 0, none⟩) 1 1) kx ?_) | fail)
        have ka0 := ka; have kx0 := kx; have HB0 := Lib.hid HBk.out; have HX0 := Lib.hid HXk.out
        clear ka kx HBk HXk c2 c3
        refine (match_any 301 7 8 2 (some ⟨w.heap.size, 0, none⟩) [1] 1 301 7 _ HX0.out).mono ?_
        rw [show matchB 301 7 8 2 [(1 : Int)].length 301 7 = true by decide]
        rintro e w1' ⟨rfl, hb⟩
        have HB1 := Lib.hid (HB0.out.trans (hb.mono HB0.out.size))
        have HX1 := Lib.hid (HX0.out.below hb)
        have ka1 := ka0.belowSelf hb
        have kx1 := kx0.belowSelf hb
        clear hb HB0 HX0 ka0 kx0
        go_wp2_with (first | (refine load_blk_g (ty := 24) rfl rfl rfl Try.underlying24 rfl (info24 301 7 8 2 (some ⟨w.heap.size, 0, none⟩) 1 1) kx1 ?_) | fail)
        refine (match_any 301 7 8 2 (some ⟨w.heap.size, 0, none⟩) [1] 1 301 8 _ HX1.out).mono ?_
        rw [show matchB 301 7 8 2 [(1 : Int)].length 301 8 = false by decide]
        rintro e w2' ⟨rfl, hb⟩
        have HB2 := Lib.hid (HB1.out.trans (hb.mono HB1.out.size))
        have HX2 := Lib.hid (HX1.out.below hb)
        have ka2 := ka1.belowSelf hb
        have kx2 := kx1.belowSelf hb
        clear hb HB1 HX1 ka1 kx1
        go_wp2_with (first | (refine load_blk_g (ty := 24) rfl rfl rfl Try.underlying24 rfl (info24 301 7 8 2 (some ⟨w.heap.size, 0, none⟩) 1 1) kx2 ?_) | fail)
        refine (match_any 0 0 0 0 none [] 0 0 0 _ (Rb.nil _ none)).mono ?_
        rw [show matchB 0 0 0 0 ([] : List Int).length 0 0 = false by decide]
        rintro e w3' ⟨rfl, hb⟩
        have HB3 := Lib.hid (HB2.out.trans (hb.mono HB2.out.size))
        have HX3 := Lib.hid (HX2.out.below hb)
        have ka3 := ka2.belowSelf hb
        have kx3 := kx2.belowSelf hb
        clear hb HB2 HX2 ka2 kx2
        go_wp2_with (first | (refine load_blk_g (ty := 24) rfl rfl rfl Try.underlying24 rfl (info24 301 7 8 2 (some ⟨w.heap.size, 0, none⟩) 1 1) kx3 ?_) | fail)
        refine (right_any 301 7 8 2 (some ⟨w.heap.size, 0, none⟩) [1] 1 _ HX3.out).mono ?_
        rw [show rightB 301 7 8 2 [(1 : Int)].length = true by decide]
        rintro e w4' ⟨rfl, hb⟩
        have HB4 := Lib.hid (HB3.out.trans (hb.mono HB3.out.size))
        have HX4 := Lib.hid (HX3.out.below hb)
        have ka4 := ka3.belowSelf hb
        have kx4 := kx3.belowSelf hb
        clear hb HB3 HX3 ka3 kx3
        go_wp2_with (first | (refine load_blk_g (ty := 24) rfl rfl rfl Try.underlying24 rfl (info24 301 7 8 2 (some ⟨w.heap.size, 0, none⟩) 1 1) kx4 ?_) | fail)
        refine (right_any 1 0 0 0 none [] 0 _ (Rb.nil _ none)).mono ?_
        rw [show rightB 1 0 0 0 ([] : List Int).length = false by decide]
        rintro e w5' ⟨rfl, hb⟩
        have HB5 := Lib.hid (HB4.out.trans (hb.mono HB4.out.size))
        have HX5 := Lib.hid (HX4.out.below hb)
        have ka5 := ka4.belowSelf hb
        have kx5 := kx4.belowSelf hb
        clear hb HB4 HX4 ka4 kx4
        go_wp2_with (first | (refine load_blk_g (ty := 24) rfl rfl rfl Try.underlying24 rfl (info24 301 7 8 2 (some ⟨w.heap.size, 0, none⟩) 1 1) kx5 ?_) | fail)
        refine (stan_any 999999 _).mono ?_
        rw [show stanF 999999 = 1 by decide]
        rintro e w6' ⟨rfl, rfl⟩
        go_wp2_with (first | (refine load_blk_g (ty := 24) rfl rfl rfl Try.underlying24 rfl (info24 301 7 8 2 (some ⟨w.heap.size, 0, none⟩) 1 1) kx5 ?_) | fail)
        refine (known_any 201 _).mono ?_
        rw [show knownB 201 = true by decide]
        rintro e w7' ⟨rfl, rfl⟩
        go_wp2_with (first | (refine load_blk_g (ty := 24) rfl rfl rfl Try.underlying24 rfl (info24 301 7 8 2 (some ⟨w.heap.size, 0, none⟩) 1 1) kx5 ?_) | (refine load_blk_g (ty := 24) rfl rfl rfl Try.underlying24 rfl (info24 301 7 8 3 (some ⟨w.heap.size, 0, none⟩) 1 1) ka5 ?_) | fail)
        refine (same_any 301 7 8 3 (some ⟨w.heap.size, 0, none⟩) [1] 1 301 7 8 3 (some ⟨w.heap.size, 0, none⟩) [1] 1 _ HX5.out HX5.out).mono ?_
        rw [show sameB 301 7 8 3 [1] 301 7 8 3 [1] = true by decide]
        rintro e w8' ⟨rfl, hb⟩
        have HB8 := Lib.hid (HB5.out.trans (hb.mono HB5.out.size))
        have HX8 := Lib.hid (HX5.out.below hb)
        have ka8 := ka5.belowSelf hb
        have kx8 := kx5.belowSelf hb
        clear hb HB5 HX5 ka5 kx5
        go_wp2_with (first | (refine load_blk_g (ty := 24) rfl rfl rfl Try.underlying24 rfl (info24 301 7 8 2 (some ⟨w.heap.size, 0, none⟩) 1 1) kx8 ?_) | (refine load_blk_g (ty := 24) rfl rfl rfl Try.underlying24 rfl (info24 301 7 8 3 (some ⟨w.heap.size, 0, none⟩) 1 1) ka8 ?_) | fail)
        refine (same_any 301 7 8 3 (some ⟨w.heap.size, 0, none⟩) [1] 1 301 7 8 2 (some ⟨w.heap.size, 0, none⟩) [1] 1 _ HX8.out HX8.out).mono ?_
        rw [show sameB 301 7 8 3 [1] 301 7 8 2 [1] = false by decide]
        rintro e w9' ⟨rfl, hb⟩
        have HB9 := Lib.hid (HB8.out.trans (hb.mono HB8.out.size))
        have HX9 := Lib.hid (HX8.out.below hb)
        have ka9 := ka8.belowSelf hb
        have kx9 := kx8.belowSelf hb
        clear hb HB8 HX8 ka8 kx8
        go_wp2_with fail
        go_ret
        exact ⟨rfl, HB9.out⟩
end Go.Proofs.Ytnmbcdphjmcomaa
