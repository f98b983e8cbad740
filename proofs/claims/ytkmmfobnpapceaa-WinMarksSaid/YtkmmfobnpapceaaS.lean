/- The reference's Mark: its contract. -/
import Derived.Test.YtkmmfobnpapceaaR
import Derived.StillTailTactics
namespace Go.Proofs.Ytkmmfobnpapceaa
open Go.RowKit
theorem winA_ne (t : Int) (f : Nat → Bool) : (winA t f = #[]) = False := by
  rw [eq_iff_iff, iff_false]
  intro h
  have := winA_size t f
  rw [h] at this
  cases this
theorem still_tail {P : Program} {id : Nat} {Q : Exit → Act → World → Prop} {a : Act} {w : World} {l : List Oper} (n : Nat) (hm : P.follows .mixedOrders = true) (hB : Region.lexTailB .any l.toArray n = true)
    (h : wpStill P l.toArray w.drew (fun a' => wpList P l.toArray Q (l.drop n) a' w.drew) (l.take n) a) : (Code.region id l.toArray true).wp P Q a w := wp_region_still_tail n hm hB h
attribute [local go_sem] winA_lit winA_setTop winA_ne

theorem allL_vals (t : Int) (f : Nat → Bool) (n : Int) (s : Nat) : (tkL f s (t.toNat - s)).map (Value.int .i64) ++ [.int .i64 n] = (allL t f n s).map (Value.int .i64) := by simp [allL]
theorem allL_len (t : Int) (f : Nat → Bool) (n : Int) (s : Nat) : (tkL f s (t.toNat - s)).length + 1 = (allL t f n s).length := by simp [allL]

set_option maxRecDepth 100000 in
set_option maxHeartbeats 8000000 in
theorem rMark_ahead (t : Int) (f : Nat → Bool) (n : Int) (w : World) (hR : RightP t f) (hf : freshB t f n = true) (hT : t ≤ n) :
    Calls Try.prog 16 #[.agg (winA t f), .int .i64 n] w fun e w' => e = .returned (.tuple #[.agg (winA (n + 1) (markG t f n)), .int .i64 0]) ∧ Below w.heap.size w w' := by
  have hR0 := hR.1
  have hR1 := hR.2.1
  obtain ⟨hn0, hn1, _⟩ := fresh_range hf
  obtain ⟨s, hs⟩ : ∃ s : Nat, t.toNat - 1024 = s := ⟨_, rfl⟩
  have hlay := lay_all t f n s hs hR hf
  have hmem := allL_mem t f n s hR0 hn0
  have hnd := allL_nodup t f n s hR0 hf
  rw [show max t (n + 1) = n + 1 by omega] at hlay hmem
  have hml := tkL_length f s (t.toNat - s)
  have hms : t.toNat - s ≤ 1024 := by omega
  have HA := Lib.hid (allL_vals t f n s); have HAL := Lib.hid (allL_len t f n s)
  have HLAY := Lib.hid (show winA (n + 1) (layB (allL t f n s) (n + 1) (allL t f n s).length) = winA (n + 1) (markG t f n) from winA_congr _ hlay)
  have htk := fun W => taken_any t f s hs W hR0 hR1
  have HTK := Lib.hid htk; have HMEM := Lib.hid hmem; have HND := Lib.hid hnd; have HF := Lib.hid hf; have HS := Lib.hid hs
  clear htk hmem hnd hf hlay hs hR
  generalize markG t f n = G at *
  generalize hall : allL t f n s = all at *
  clear hall
  obtain ⟨i0, hi3, hz0, hz1, hz2⟩ := info_parts infoInt
  have d0 : decide (n < 0) = false := by simp; omega
  have d1 : decide (4611686018427387904 < n) = false := by simp; omega
  have HTOP := Lib.hid (winA_top t f)
  have bw_0 := (Blk.new w 25 (winA t f)).alloc (.cells (winA 0 noBits) 25)
  have bz_0 : Blk ((w.alloc (.cells (winA t f) 25)).alloc (.cells (winA 0 noBits) 25)) (w.heap.size + 1) 25 (winA 0 noBits) := by
    have := Blk.new (w.alloc (.cells (winA t f) 25)) 25 (winA 0 noBits)
    rwa [World.size_alloc] at this
  have HB0 := Lib.hid (((Below.refl w.heap.size w).alloc (Nat.le_refl _) (Obj.cells (winA t f) 25)).alloc (by simp) (Obj.cells (winA 0 noBits) 25))
  go_enter Try.func16, Try.ntmps16
  go_wp2_with (first | (refine load_blk (ty := 25) rfl rfl rfl Try.underlying25 rfl (info25' (t) (f)) bw_0 ?_) | (refine load_blk_g (ty := 25) rfl rfl rfl Try.underlying25 rfl (info25' (t) (f)) bw_0 ?_) | (refine load_blk (ty := 25) rfl rfl rfl Try.underlying25 rfl (info25' (0) (noBits)) bz_0 ?_) | (refine load_blk_g (ty := 25) rfl rfl rfl Try.underlying25 rfl (info25' (0) (noBits)) bz_0 ?_) | fail)
  refine (rFresh_any t f n _ hR0 hR1).mono ?_
  rintro e w1 ⟨rfl, hb1⟩
  rw [HF.out]
  have bw_1 := bw_0.belowSelf hb1
  have bz_1 := bz_0.belowSelf hb1
  have HB1 := Lib.hid (HB0.out.trans (hb1.mono HB0.out.size))
  clear hb1 bw_0 bz_0 HB0
  have cw_1 := (bw_1.cell 0).trans (winA_top (t) (f))
  have lwx := bw_1.lt
  have lzx := bz_1.lt
  go_wp2_with (first | (refine store_blk' (ty := 25) rfl rfl rfl rfl (info25' (n + 1) (noBits)) (winA_one _ _) (old := winA 0 noBits) (by simp only [winA_size]) (Blk.new w1 25 (winA 0 noBits)) ?_; intro w2 bx_2 hG2 hz2; have HB2 := Lib.hid ((HB1.out.alloc HB1.out.size _).grown hG2 (by have := HB1.out.size; simp; omega) (by have := HB1.out.size; simp; omega)); have bw_2 := (bw_1.alloc (.cells (winA 0 noBits) 25)).grown hG2 (by simp; omega); have bz_2 := (bz_1.alloc (.cells (winA 0 noBits) 25)).grown hG2 (by simp; omega); clear hG2 hz2) | (refine load_blk (ty := 25) rfl rfl rfl Try.underlying25 rfl (info25' (t) (f)) bw_2 ?_) | (refine load_blk_g (ty := 25) rfl rfl rfl Try.underlying25 rfl (info25' (t) (f)) bw_2 ?_) | (refine load_blk (ty := 25) rfl rfl rfl Try.underlying25 rfl (info25' (0) (noBits)) bz_2 ?_) | (refine load_blk_g (ty := 25) rfl rfl rfl Try.underlying25 rfl (info25' (0) (noBits)) bz_2 ?_) | (refine load_blk (ty := 25) rfl rfl rfl Try.underlying25 rfl (info25' (n + 1) (noBits)) bx_2 ?_) | (refine load_blk_g (ty := 25) rfl rfl rfl Try.underlying25 rfl (info25' (n + 1) (noBits)) bx_2 ?_) | fail)
  refine (HTK.out _).mono ?_
  rintro e w3 ⟨v3, rfl, oo_3, hb3⟩
  have bw_3 := bw_2.belowSelf hb3
  have bz_3 := bz_2.belowSelf hb3
  have bx_3 := bx_2.belowSelf hb3
  have hz32 := hb3.size
  have HB3 := Lib.hid (HB2.out.trans (hb3.mono HB2.out.size))
  have hz3 := HB3.out.size
  have hz2' := HB2.out.size
  clear hb3 HB2 bw_2 bz_2 bx_2 bw_3
  go_wp2_with (first | (at_builtin; refine wpList_append_own _ rfl _ _ 34 rfl w2.heap.size 3 i0 (.int .i64 0) 1 8 Try.underlying34 hi3 hz0 hz1 hz2 rfl (by decide) _ _ _ rfl (oo_3.alloc (.cells #[.int .i64 n] 3)) ⟨w3.heap.size, 0, none⟩ 1 1 [.int .i64 n] rfl rfl ?c1 ?c2 ?c3 ?c4 ?c5 ?_) | fail)
  case c1 =>
    intro j u hj
    match j, hj with
    | 0, hj => simp at hj; subst hj; simp [Addr.add]
  case c2 => intro u hu; simp at hu; subst hu; rfl
  case c3 => unfold maxLen; omega
  case c4 => omega
  case c5 => simp; omega
  intro v4 w4 oo_4 hG4 hnn
  clear hnn
  rw [HA.out, HAL.out] at oo_4
  have bz_4 := (bz_3.alloc (.cells #[.int .i64 n] 3)).appended (oo_3.alloc (.cells #[.int .i64 n] 3)) (by decide) hG4
  have bx_4 := (bx_3.alloc (.cells #[.int .i64 n] 3)).appended (oo_3.alloc (.cells #[.int .i64 n] 3)) (by decide) hG4
  have hlow := oo_3.lt
  have HB4 := Lib.hid ((HB3.out.alloc HB3.out.size (.cells #[.int .i64 n] 3)).grown hG4 (by simp; omega) (fun q hq => by have := (hlow q hq).1; omega))
  have hall1 : 1 ≤ all.length := by have := HAL.out; omega
  have hallm : all.length ≤ 1025 := by have := HAL.out; omega
  clear hG4 hlow oo_3 bz_3 bx_3 HB3 HAL HA hml
  obtain ⟨g4, cap4, rfl, _⟩ := own_read oo_4 (k := 0) (by omega)
  go_wp2_with fail
  have lzx' : w.heap.size + 1 ≠ w1.heap.size := by omega
  generalize w1.heap.size = g1 at *
  go_loopw [10] (fun i wr => ∃ k : Nat, k ≤ all.length ∧ i = .int .i64 k ∧ Blk wr g1 25 (winA (n + 1) (layB all (n + 1) k)) ∧ Blk wr (w.heap.size + 1) 25 (winA 0 noBits) ∧ wr.ownsRow w2.heap.size 3 1 (.slice (some ⟨g4, 0, none⟩) all.length cap4) all.length (all.map (Value.int .i64)) ∧ Below w.heap.size w wr) (fun i _ => all.length - (intOf i).toNat)
  case atStart => exact ⟨0, Nat.zero_le _, rfl, by rw [layB_zero]; exact bx_4, bz_4, oo_4, HB4.out⟩
  case round =>
    obtain ⟨k, hk, rfl, bx, bz, oo, hbel⟩ := hrel
    have HBL := Lib.hid hbel; clear hbel
    by_cases hlt : k < all.length
    · obtain ⟨x, hx⟩ : ∃ x, all[k]? = some x := ⟨_, List.getElem?_eq_getElem hlt⟩
      have hmx := HMEM.out x (List.mem_of_getElem? hx)
      obtain ⟨X, rfl⟩ := Int.eq_ofNat_of_zero_le hmx.1
      have hX : (X : Int) < n + 1 := hmx.2
      have hcell : wr.cell? ⟨g4, k, none⟩ = some (.int .i64 (X : Int)) := by rw [oo.cellAt k (by omega), List.getElem?_map, hx]; rfl
      have HXX := Lib.hid hx; clear hx hmx
      by_cases hq : n + 1 - 1024 ≤ (X : Int)
      · have d5 : decide (n + 1 - 1024 ≤ (X : Int)) = true := by simp; omega
        have hfree := layB_free all (n + 1) X k HXX.out hq HND.out HMEM.out
        have hyes := layB_yes all (n + 1) X k HXX.out hq
        rw [Int.toNat_natCast] at hfree hyes
        obtain ⟨p, hp⟩ : ∃ p, X % 1024 = p := ⟨_, rfl⟩
        rw [hp] at hfree hyes
        have e0 : (X : Int) % 1024 = (p : Int) := by omega
        have hp1 : p < 1024 := by omega
        have hadd := word_add (layB all (n + 1) k) p hfree
        have hset := winA_setBits (n + 1) (layB all (n + 1) k) p true hp1
        rw [← hyes] at hadd hset
        have hw1 := word_lt (layB all (n + 1) (k + 1)) (p / 64)
        obtain ⟨i, hi⟩ : ∃ i, p / 64 = i := ⟨_, rfl⟩
        obtain ⟨j, hj⟩ : ∃ j, p % 64 = j := ⟨_, rfl⟩
        rw [hi, hj] at hadd
        rw [hi] at hset hw1
        have e1 : IntKind.i64.wrap ((p : Int) / 64) = (i : Int) := by rw [IntKind.wrap_i64]; omega
        have e1' : (p : Int) / 64 = (i : Int) := by omega
        have e2 : (p : Int).tmod 64 = (j : Int) := by rw [Int.tmod_eq_emod_of_nonneg (by omega)]; omega
        have e2' : (p : Int) % 64 = (j : Int) := by omega
        have e1w : IntKind.i64.wrap (i : Int) = (i : Int) := by rw [IntKind.wrap_i64]; omega
        have e2w : IntKind.i64.wrap (j : Int) = (j : Int) := by rw [IntKind.wrap_i64]; omega
        have e3 : (i : Int) < 16 := by omega
        have e3' : i < 16 := by omega
        have e4 : IntKind.u64.wrap ((word (layB all (n + 1) k) i : Int) + (pow2 j : Int)) = (word (layB all (n + 1) (k + 1)) i : Int) := by rw [IntKind.wrap_u64]; omega
        have hb := (bx.cell (1 + i)).trans (winA_bits (n + 1) (layB all (n + 1) k) i e3')
        have hfz := bx.frozen (1 + i)
        have hj4 : j < 64 := by omega
        have HNX := Lib.hid (bx.set_to (1 + i) (.int .u64 (word (layB all (n + 1) (k + 1)) i : Int)) hset)
        have HNZ := Lib.hid (bz.far (p := ⟨g1, 1 + i, none⟩) lzx' (.int .u64 (word (layB all (n + 1) (k + 1)) i : Int)))
        have HG := Lib.hid (show wr.grownBy (wr.setCell ⟨g1, 1 + i, none⟩ (.int .u64 (word (layB all (n + 1) (k + 1)) i : Int))) (some g1) from ⟨rfl, rfl, rfl, by simp, fun q hq hne => Below.heap_setCell wr ⟨g1, 1 + i, none⟩ _ q (fun e => hne (by rw [e]))⟩)
        have HO := Lib.hid (own_grown oo bx (by decide) HG.out)
        have HNB := Lib.hid (HBL.out.setCell (p := ⟨g1, 1 + i, none⟩) (by omega : w.heap.size ≤ g1) (.int .u64 (word (layB all (n + 1) (k + 1)) i : Int)))
        clear hp hi hj hyes hfree hadd hset hq
        go_wp2_with fail
        refine still_tail 13 (by kernel_rfl) (by kernel_rfl) ?_
        simp only [List.take_succ_cons, List.take_zero, List.drop_succ_cons, List.drop_zero]
        repeat still_step
        still_call (power_nat j _ hj4)
        repeat still_step
        try refine wpStill_nil ?_
        go_wp2
        exact ⟨⟨k + 1, by omega, by go_num, HNX.out.drew, HNZ.out.drew, HO.out.drew, HNB.out.drew⟩, by simp [intOf]; omega⟩
      · have d5 : decide (n + 1 - 1024 ≤ (X : Int)) = false := by simp; omega
        have hno := layB_no all (n + 1) X k HXX.out (by omega)
        rw [← hno] at bx
        clear hno
        go_wp2
        exact ⟨⟨k + 1, by omega, by go_num, bx, bz, oo, HBL.out⟩, by simp [intOf]; omega⟩
    · obtain rfl : k = all.length := by omega
      rw [HLAY.out] at bx
      go_wp2_with (first | (refine load_blk (ty := 25) rfl rfl rfl Try.underlying25 rfl (info25' (n + 1) G) bx ?_) | (refine store_blk' (ty := 25) rfl rfl rfl rfl (info25' (n + 1) G) (winA_one _ _) (old := winA 0 noBits) (by simp only [winA_size]) bz ?_; intro w5 hW5 hG5 hz5) | fail)
      refine bodyPost_ret (v := .tuple #[.agg (winA (n + 1) G), .int .i64 0]) (results_cell_tmp rfl _ _ _ 25 _ _ rfl rfl hW5 Try.underlying25 rfl (info25' _ _)) rfl ?_
      exact ⟨rfl, HBL.out.grown hG5 HBL.out.size (by simp)⟩

set_option maxRecDepth 100000 in
set_option maxHeartbeats 8000000 in
theorem rMark_behind (t : Int) (f : Nat → Bool) (n : Int) (w : World) (hR : RightP t f) (hf : freshB t f n = true) (hT : n < t) :
    Calls Try.prog 16 #[.agg (winA t f), .int .i64 n] w fun e w' => e = .returned (.tuple #[.agg (winA (t) (markG t f n)), .int .i64 0]) ∧ Below w.heap.size w w' := by
  have hR0 := hR.1
  have hR1 := hR.2.1
  obtain ⟨hn0, hn1, _⟩ := fresh_range hf
  obtain ⟨s, hs⟩ : ∃ s : Nat, t.toNat - 1024 = s := ⟨_, rfl⟩
  have hlay := lay_all t f n s hs hR hf
  have hmem := allL_mem t f n s hR0 hn0
  have hnd := allL_nodup t f n s hR0 hf
  rw [show max t (n + 1) = t by omega] at hlay hmem
  have hml := tkL_length f s (t.toNat - s)
  have hms : t.toNat - s ≤ 1024 := by omega
  have HA := Lib.hid (allL_vals t f n s); have HAL := Lib.hid (allL_len t f n s)
  have HLAY := Lib.hid (show winA (t) (layB (allL t f n s) (t) (allL t f n s).length) = winA (t) (markG t f n) from winA_congr _ hlay)
  have htk := fun W => taken_any t f s hs W hR0 hR1
  have HTK := Lib.hid htk; have HMEM := Lib.hid hmem; have HND := Lib.hid hnd; have HF := Lib.hid hf; have HS := Lib.hid hs
  clear htk hmem hnd hf hlay hs hR
  generalize markG t f n = G at *
  generalize hall : allL t f n s = all at *
  clear hall
  obtain ⟨i0, hi3, hz0, hz1, hz2⟩ := info_parts infoInt
  have d0 : decide (n < 0) = false := by simp; omega
  have d1 : decide (4611686018427387904 < n) = false := by simp; omega
  have HTOP := Lib.hid (winA_top t f)
  have bw_0 := (Blk.new w 25 (winA t f)).alloc (.cells (winA 0 noBits) 25)
  have bz_0 : Blk ((w.alloc (.cells (winA t f) 25)).alloc (.cells (winA 0 noBits) 25)) (w.heap.size + 1) 25 (winA 0 noBits) := by
    have := Blk.new (w.alloc (.cells (winA t f) 25)) 25 (winA 0 noBits)
    rwa [World.size_alloc] at this
  have HB0 := Lib.hid (((Below.refl w.heap.size w).alloc (Nat.le_refl _) (Obj.cells (winA t f) 25)).alloc (by simp) (Obj.cells (winA 0 noBits) 25))
  go_enter Try.func16, Try.ntmps16
  go_wp2_with (first | (refine load_blk (ty := 25) rfl rfl rfl Try.underlying25 rfl (info25' (t) (f)) bw_0 ?_) | (refine load_blk_g (ty := 25) rfl rfl rfl Try.underlying25 rfl (info25' (t) (f)) bw_0 ?_) | (refine load_blk (ty := 25) rfl rfl rfl Try.underlying25 rfl (info25' (0) (noBits)) bz_0 ?_) | (refine load_blk_g (ty := 25) rfl rfl rfl Try.underlying25 rfl (info25' (0) (noBits)) bz_0 ?_) | fail)
  refine (rFresh_any t f n _ hR0 hR1).mono ?_
  rintro e w1 ⟨rfl, hb1⟩
  rw [HF.out]
  have bw_1 := bw_0.belowSelf hb1
  have bz_1 := bz_0.belowSelf hb1
  have HB1 := Lib.hid (HB0.out.trans (hb1.mono HB0.out.size))
  clear hb1 bw_0 bz_0 HB0
  have cw_1 := (bw_1.cell 0).trans (winA_top (t) (f))
  have lwx := bw_1.lt
  have lzx := bz_1.lt
  go_wp2_with (first | (refine store_blk' (ty := 25) rfl rfl rfl rfl (info25' (t) (noBits)) (winA_one _ _) (old := winA 0 noBits) (by simp only [winA_size]) (Blk.new w1 25 (winA 0 noBits)) ?_; intro w2 bx_2 hG2 hz2; have HB2 := Lib.hid ((HB1.out.alloc HB1.out.size _).grown hG2 (by have := HB1.out.size; simp; omega) (by have := HB1.out.size; simp; omega)); have bw_2 := (bw_1.alloc (.cells (winA 0 noBits) 25)).grown hG2 (by simp; omega); have bz_2 := (bz_1.alloc (.cells (winA 0 noBits) 25)).grown hG2 (by simp; omega); clear hG2 hz2) | (refine load_blk (ty := 25) rfl rfl rfl Try.underlying25 rfl (info25' (t) (f)) bw_2 ?_) | (refine load_blk_g (ty := 25) rfl rfl rfl Try.underlying25 rfl (info25' (t) (f)) bw_2 ?_) | (refine load_blk (ty := 25) rfl rfl rfl Try.underlying25 rfl (info25' (0) (noBits)) bz_2 ?_) | (refine load_blk_g (ty := 25) rfl rfl rfl Try.underlying25 rfl (info25' (0) (noBits)) bz_2 ?_) | (refine load_blk (ty := 25) rfl rfl rfl Try.underlying25 rfl (info25' (t) (noBits)) bx_2 ?_) | (refine load_blk_g (ty := 25) rfl rfl rfl Try.underlying25 rfl (info25' (t) (noBits)) bx_2 ?_) | fail)
  refine (HTK.out _).mono ?_
  rintro e w3 ⟨v3, rfl, oo_3, hb3⟩
  have bw_3 := bw_2.belowSelf hb3
  have bz_3 := bz_2.belowSelf hb3
  have bx_3 := bx_2.belowSelf hb3
  have hz32 := hb3.size
  have HB3 := Lib.hid (HB2.out.trans (hb3.mono HB2.out.size))
  have hz3 := HB3.out.size
  have hz2' := HB2.out.size
  clear hb3 HB2 bw_2 bz_2 bx_2 bw_3
  go_wp2_with (first | (at_builtin; refine wpList_append_own _ rfl _ _ 34 rfl w2.heap.size 3 i0 (.int .i64 0) 1 8 Try.underlying34 hi3 hz0 hz1 hz2 rfl (by decide) _ _ _ rfl (oo_3.alloc (.cells #[.int .i64 n] 3)) ⟨w3.heap.size, 0, none⟩ 1 1 [.int .i64 n] rfl rfl ?c1 ?c2 ?c3 ?c4 ?c5 ?_) | fail)
  case c1 =>
    intro j u hj
    match j, hj with
    | 0, hj => simp at hj; subst hj; simp [Addr.add]
  case c2 => intro u hu; simp at hu; subst hu; rfl
  case c3 => unfold maxLen; omega
  case c4 => omega
  case c5 => simp; omega
  intro v4 w4 oo_4 hG4 hnn
  clear hnn
  rw [HA.out, HAL.out] at oo_4
  have bz_4 := (bz_3.alloc (.cells #[.int .i64 n] 3)).appended (oo_3.alloc (.cells #[.int .i64 n] 3)) (by decide) hG4
  have bx_4 := (bx_3.alloc (.cells #[.int .i64 n] 3)).appended (oo_3.alloc (.cells #[.int .i64 n] 3)) (by decide) hG4
  have hlow := oo_3.lt
  have HB4 := Lib.hid ((HB3.out.alloc HB3.out.size (.cells #[.int .i64 n] 3)).grown hG4 (by simp; omega) (fun q hq => by have := (hlow q hq).1; omega))
  have hall1 : 1 ≤ all.length := by have := HAL.out; omega
  have hallm : all.length ≤ 1025 := by have := HAL.out; omega
  clear hG4 hlow oo_3 bz_3 bx_3 HB3 HAL HA hml
  obtain ⟨g4, cap4, rfl, _⟩ := own_read oo_4 (k := 0) (by omega)
  go_wp2_with fail
  have lzx' : w.heap.size + 1 ≠ w1.heap.size := by omega
  generalize w1.heap.size = g1 at *
  go_loopw [10] (fun i wr => ∃ k : Nat, k ≤ all.length ∧ i = .int .i64 k ∧ Blk wr g1 25 (winA (t) (layB all (t) k)) ∧ Blk wr (w.heap.size + 1) 25 (winA 0 noBits) ∧ wr.ownsRow w2.heap.size 3 1 (.slice (some ⟨g4, 0, none⟩) all.length cap4) all.length (all.map (Value.int .i64)) ∧ Below w.heap.size w wr) (fun i _ => all.length - (intOf i).toNat)
  case atStart => exact ⟨0, Nat.zero_le _, rfl, by rw [layB_zero]; exact bx_4, bz_4, oo_4, HB4.out⟩
  case round =>
    obtain ⟨k, hk, rfl, bx, bz, oo, hbel⟩ := hrel
    have HBL := Lib.hid hbel; clear hbel
    by_cases hlt : k < all.length
    · obtain ⟨x, hx⟩ : ∃ x, all[k]? = some x := ⟨_, List.getElem?_eq_getElem hlt⟩
      have hmx := HMEM.out x (List.mem_of_getElem? hx)
      obtain ⟨X, rfl⟩ := Int.eq_ofNat_of_zero_le hmx.1
      have hX : (X : Int) < t := hmx.2
      have hcell : wr.cell? ⟨g4, k, none⟩ = some (.int .i64 (X : Int)) := by rw [oo.cellAt k (by omega), List.getElem?_map, hx]; rfl
      have HXX := Lib.hid hx; clear hx hmx
      by_cases hq : t - 1024 ≤ (X : Int)
      · have d5 : decide (t - 1024 ≤ (X : Int)) = true := by simp; omega
        have hfree := layB_free all (t) X k HXX.out hq HND.out HMEM.out
        have hyes := layB_yes all (t) X k HXX.out hq
        rw [Int.toNat_natCast] at hfree hyes
        obtain ⟨p, hp⟩ : ∃ p, X % 1024 = p := ⟨_, rfl⟩
        rw [hp] at hfree hyes
        have e0 : (X : Int) % 1024 = (p : Int) := by omega
        have hp1 : p < 1024 := by omega
        have hadd := word_add (layB all (t) k) p hfree
        have hset := winA_setBits (t) (layB all (t) k) p true hp1
        rw [← hyes] at hadd hset
        have hw1 := word_lt (layB all (t) (k + 1)) (p / 64)
        obtain ⟨i, hi⟩ : ∃ i, p / 64 = i := ⟨_, rfl⟩
        obtain ⟨j, hj⟩ : ∃ j, p % 64 = j := ⟨_, rfl⟩
        rw [hi, hj] at hadd
        rw [hi] at hset hw1
        have e1 : IntKind.i64.wrap ((p : Int) / 64) = (i : Int) := by rw [IntKind.wrap_i64]; omega
        have e1' : (p : Int) / 64 = (i : Int) := by omega
        have e2 : (p : Int).tmod 64 = (j : Int) := by rw [Int.tmod_eq_emod_of_nonneg (by omega)]; omega
        have e2' : (p : Int) % 64 = (j : Int) := by omega
        have e1w : IntKind.i64.wrap (i : Int) = (i : Int) := by rw [IntKind.wrap_i64]; omega
        have e2w : IntKind.i64.wrap (j : Int) = (j : Int) := by rw [IntKind.wrap_i64]; omega
        have e3 : (i : Int) < 16 := by omega
        have e3' : i < 16 := by omega
        have e4 : IntKind.u64.wrap ((word (layB all (t) k) i : Int) + (pow2 j : Int)) = (word (layB all (t) (k + 1)) i : Int) := by rw [IntKind.wrap_u64]; omega
        have hb := (bx.cell (1 + i)).trans (winA_bits (t) (layB all (t) k) i e3')
        have hfz := bx.frozen (1 + i)
        have hj4 : j < 64 := by omega
        have HNX := Lib.hid (bx.set_to (1 + i) (.int .u64 (word (layB all (t) (k + 1)) i : Int)) hset)
        have HNZ := Lib.hid (bz.far (p := ⟨g1, 1 + i, none⟩) lzx' (.int .u64 (word (layB all (t) (k + 1)) i : Int)))
        have HG := Lib.hid (show wr.grownBy (wr.setCell ⟨g1, 1 + i, none⟩ (.int .u64 (word (layB all (t) (k + 1)) i : Int))) (some g1) from ⟨rfl, rfl, rfl, by simp, fun q hq hne => Below.heap_setCell wr ⟨g1, 1 + i, none⟩ _ q (fun e => hne (by rw [e]))⟩)
        have HO := Lib.hid (own_grown oo bx (by decide) HG.out)
        have HNB := Lib.hid (HBL.out.setCell (p := ⟨g1, 1 + i, none⟩) (by omega : w.heap.size ≤ g1) (.int .u64 (word (layB all (t) (k + 1)) i : Int)))
        clear hp hi hj hyes hfree hadd hset hq
        go_wp2_with fail
        refine still_tail 13 (by kernel_rfl) (by kernel_rfl) ?_
        simp only [List.take_succ_cons, List.take_zero, List.drop_succ_cons, List.drop_zero]
        repeat still_step
        still_call (power_nat j _ hj4)
        repeat still_step
        try refine wpStill_nil ?_
        go_wp2
        exact ⟨⟨k + 1, by omega, by go_num, HNX.out.drew, HNZ.out.drew, HO.out.drew, HNB.out.drew⟩, by simp [intOf]; omega⟩
      · have d5 : decide (t - 1024 ≤ (X : Int)) = false := by simp; omega
        have hno := layB_no all (t) X k HXX.out (by omega)
        rw [← hno] at bx
        clear hno
        go_wp2
        exact ⟨⟨k + 1, by omega, by go_num, bx, bz, oo, HBL.out⟩, by simp [intOf]; omega⟩
    · obtain rfl : k = all.length := by omega
      rw [HLAY.out] at bx
      go_wp2_with (first | (refine load_blk (ty := 25) rfl rfl rfl Try.underlying25 rfl (info25' (t) G) bx ?_) | (refine store_blk' (ty := 25) rfl rfl rfl rfl (info25' (t) G) (winA_one _ _) (old := winA 0 noBits) (by simp only [winA_size]) bz ?_; intro w5 hW5 hG5 hz5) | fail)
      refine bodyPost_ret (v := .tuple #[.agg (winA (t) G), .int .i64 0]) (results_cell_tmp rfl _ _ _ 25 _ _ rfl rfl hW5 Try.underlying25 rfl (info25' _ _)) rfl ?_
      exact ⟨rfl, HBL.out.grown hG5 HBL.out.size (by simp)⟩

set_option maxRecDepth 100000 in
set_option maxHeartbeats 8000000 in
theorem rMark_old (t : Int) (f : Nat → Bool) (n : Int) (w : World) (hR : RightP t f) (hn0 : 0 ≤ n) (hn1 : n ≤ 4611686018427387904) (hf : freshB t f n = false) :
    Calls Try.prog 16 #[.agg (winA t f), .int .i64 n] w fun e w' => e = .returned (.tuple #[.agg (winA t f), .int .i64 6]) ∧ Below w.heap.size w w' := by
  have hR0 := hR.1
  have hR1 := hR.2.1
  have HF := Lib.hid hf; clear hf
  have d0 : decide (n < 0) = false := by simp; omega
  have d1 : decide (4611686018427387904 < n) = false := by simp; omega
  have bw_0 := (Blk.new w 25 (winA t f)).alloc (.cells (winA 0 noBits) 25)
  have bz_0 : Blk ((w.alloc (.cells (winA t f) 25)).alloc (.cells (winA 0 noBits) 25)) (w.heap.size + 1) 25 (winA 0 noBits) := by
    have := Blk.new (w.alloc (.cells (winA t f) 25)) 25 (winA 0 noBits)
    rwa [World.size_alloc] at this
  have HB0 := Lib.hid (((Below.refl w.heap.size w).alloc (Nat.le_refl _) (Obj.cells (winA t f) 25)).alloc (by simp) (Obj.cells (winA 0 noBits) 25))
  go_enter Try.func16, Try.ntmps16
  go_wp2_with (first | (refine load_blk (ty := 25) rfl rfl rfl Try.underlying25 rfl (info25' (t) (f)) bw_0 ?_) | (refine load_blk_g (ty := 25) rfl rfl rfl Try.underlying25 rfl (info25' (t) (f)) bw_0 ?_) | (refine load_blk (ty := 25) rfl rfl rfl Try.underlying25 rfl (info25' (0) (noBits)) bz_0 ?_) | (refine load_blk_g (ty := 25) rfl rfl rfl Try.underlying25 rfl (info25' (0) (noBits)) bz_0 ?_) | fail)
  refine (rFresh_any t f n _ hR0 hR1).mono ?_
  rintro e w1 ⟨rfl, hb1⟩
  rw [HF.out]
  have bw_1 := bw_0.belowSelf hb1
  have bz_1 := bz_0.belowSelf hb1
  have HB1 := Lib.hid (HB0.out.trans (hb1.mono HB0.out.size))
  clear hb1 bw_0 bz_0 HB0
  go_wp2_with (first | (refine load_blk (ty := 25) rfl rfl rfl Try.underlying25 rfl (info25' t f) bw_1 ?_) | (refine store_blk' (ty := 25) rfl rfl rfl rfl (info25' t f) (winA_one _ _) (old := winA 0 noBits) (by simp only [winA_size]) bz_1 ?_; intro w5 hW5 hG5 hz5) | fail)
  refine bodyPost_ret (v := .tuple #[.agg (winA t f), .int .i64 6]) (results_cell_tmp rfl _ _ _ 25 _ _ rfl rfl hW5 Try.underlying25 rfl (info25' _ _)) rfl ?_
  exact ⟨rfl, HB1.out.grown hG5 HB1.out.size (by simp)⟩

set_option maxRecDepth 100000 in
set_option maxHeartbeats 8000000 in
theorem rMark_neg (t : Int) (f : Nat → Bool) (n : Int) (w : World) (h : n < 0) :
    Calls Try.prog 16 #[.agg (winA t f), .int .i64 n] w fun e w' => e = .returned (.tuple #[.agg (winA t f), .int .i64 1]) ∧ Below w.heap.size w w' := by
  have bw_1 := (Blk.new w 25 (winA t f)).alloc (.cells (winA 0 noBits) 25)
  have bz_1 : Blk ((w.alloc (.cells (winA t f) 25)).alloc (.cells (winA 0 noBits) 25)) (w.heap.size + 1) 25 (winA 0 noBits) := by
    have := Blk.new (w.alloc (.cells (winA t f) 25)) 25 (winA 0 noBits)
    rwa [World.size_alloc] at this
  have HB1 := Lib.hid (((Below.refl w.heap.size w).alloc (Nat.le_refl _) (Obj.cells (winA t f) 25)).alloc (by simp) (Obj.cells (winA 0 noBits) 25))
  have d0 : decide (n < 0) = true := by simp; omega
  go_enter Try.func16, Try.ntmps16
  go_wp2_with (first | (refine load_blk (ty := 25) rfl rfl rfl Try.underlying25 rfl (info25' t f) bw_1 ?_) | (refine store_blk' (ty := 25) rfl rfl rfl rfl (info25' t f) (winA_one _ _) (old := winA 0 noBits) (by simp only [winA_size]) bz_1 ?_; intro w5 hW5 hG5 hz5) | fail)
  refine bodyPost_ret (v := .tuple #[.agg (winA t f), .int .i64 1]) (results_cell_tmp rfl _ _ _ 25 _ _ rfl rfl hW5 Try.underlying25 rfl (info25' _ _)) rfl ?_
  exact ⟨rfl, HB1.out.grown hG5 HB1.out.size (by simp)⟩

set_option maxRecDepth 100000 in
set_option maxHeartbeats 8000000 in
theorem rMark_big (t : Int) (f : Nat → Bool) (n : Int) (w : World) (h : 4611686018427387904 < n) :
    Calls Try.prog 16 #[.agg (winA t f), .int .i64 n] w fun e w' => e = .returned (.tuple #[.agg (winA t f), .int .i64 1]) ∧ Below w.heap.size w w' := by
  have bw_1 := (Blk.new w 25 (winA t f)).alloc (.cells (winA 0 noBits) 25)
  have bz_1 : Blk ((w.alloc (.cells (winA t f) 25)).alloc (.cells (winA 0 noBits) 25)) (w.heap.size + 1) 25 (winA 0 noBits) := by
    have := Blk.new (w.alloc (.cells (winA t f) 25)) 25 (winA 0 noBits)
    rwa [World.size_alloc] at this
  have HB1 := Lib.hid (((Below.refl w.heap.size w).alloc (Nat.le_refl _) (Obj.cells (winA t f) 25)).alloc (by simp) (Obj.cells (winA 0 noBits) 25))
  have d0 : decide (n < 0) = false := by simp; omega
  have d1 : decide (4611686018427387904 < n) = true := by simp; omega
  go_enter Try.func16, Try.ntmps16
  go_wp2_with (first | (refine load_blk (ty := 25) rfl rfl rfl Try.underlying25 rfl (info25' t f) bw_1 ?_) | (refine store_blk' (ty := 25) rfl rfl rfl rfl (info25' t f) (winA_one _ _) (old := winA 0 noBits) (by simp only [winA_size]) bz_1 ?_; intro w5 hW5 hG5 hz5) | fail)
  refine bodyPost_ret (v := .tuple #[.agg (winA t f), .int .i64 1]) (results_cell_tmp rfl _ _ _ 25 _ _ rfl rfl hW5 Try.underlying25 rfl (info25' _ _)) rfl ?_
  exact ⟨rfl, HB1.out.grown hG5 HB1.out.size (by simp)⟩

theorem rMark_ok (t : Int) (f : Nat → Bool) (n : Int) (w : World) (hR : RightP t f) (hf : freshB t f n = true) :
    Calls Try.prog 16 #[.agg (winA t f), .int .i64 n] w fun e w' => e = .returned (.tuple #[.agg (winA (max t (n + 1)) (markG t f n)), .int .i64 0]) ∧ Below w.heap.size w w' := by
  by_cases h : n < t
  · rw [show max t (n + 1) = t by omega]; exact rMark_behind t f n w hR hf h
  · rw [show max t (n + 1) = n + 1 by omega]; exact rMark_ahead t f n w hR hf (by omega)
theorem rMark_no (t : Int) (f : Nat → Bool) (n : Int) (w : World) (hR : RightP t f) (hf : freshB t f n = false) :
    Calls Try.prog 16 #[.agg (winA t f), .int .i64 n] w fun e w' => e = .returned (.tuple #[.agg (winA t f), .int .i64 (if n < 0 ∨ 4611686018427387904 < n then 1 else 6)]) ∧ Below w.heap.size w w' := by
  by_cases a : n < 0 ∨ 4611686018427387904 < n
  · rw [if_pos a]
    rcases a with a | a
    · exact rMark_neg t f n w a
    · exact rMark_big t f n w a
  · rw [if_neg a]; exact rMark_old t f n w hR (by omega) (by omega) hf
end Go.Proofs.Ytkmmfobnpapceaa
