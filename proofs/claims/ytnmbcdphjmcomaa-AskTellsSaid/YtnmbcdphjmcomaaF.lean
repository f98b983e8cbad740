/- The reference's Tick. -/
import Derived.Test.YtnmbcdphjmcomaaE
namespace Go.Proofs.Ytnmbcdphjmcomaa
open Go.RowKit

set_option maxRecDepth 100000 in
set_option maxHeartbeats 4000000 in
theorem rtick_none (c s d l : Int) (A : Option Addr) (xs : List Int) (cp : Nat) (w : World) (hx : Rb w A xs) (hn : noneB c s d l xs.length = true) :
    Calls Try.prog 22 #[askV c s d l A xs.length cp] w fun e w' => e = .returned (.tuple #[askV c s d l A xs.length cp, .bool false, .bool false]) ∧ Below w.heap.size w w' := by
  have HS := Lib.hid (tick_start c s d l A xs cp w hx)
  have HN := Lib.hid hn
  have HL := Lib.hid hx.len
  clear hn hx
  go_enter Try.func22, Try.ntmps22
  go_wp2_with fail
  refine (rnone_any c s d l A xs cp _ HL.out).mono ?_
  rintro e w1 ⟨rfl, hb⟩
  rw [HN.out]
  have b1 := HS.out.2.1.belowSelf hb
  have z1 := HS.out.2.2.1.belowSelf hb
  have HB1 := Lib.hid (HS.out.2.2.2.trans (hb.mono HS.out.2.2.2.size)); clear hb
  go_wp2_with (first | (refine load_blk (ty := 24) rfl rfl rfl Try.underlying24 rfl (info24 c s d l A xs.length cp) b1 ?_) | (refine store_blk' (ty := 24) rfl rfl rfl rfl (info24 c s d l A xs.length cp) (askA_one _ _ _ _ _ _ _) (old := askA 0 0 0 0 none 0 0) rfl z1 ?_; intro w2 hW2 hG2 hz2) | fail)
  refine bodyPost_ret (v := .tuple #[askV c s d l A xs.length cp, .bool false, .bool false]) (results_cell_tmp2 rfl _ _ _ 24 _ _ rfl rfl rfl hW2 Try.underlying24 rfl (info24 _ _ _ _ _ _ _)) rfl ?_
  exact ⟨rfl, HB1.out.grown hG2 HB1.out.size (by simp)⟩

set_option maxRecDepth 100000 in
set_option maxHeartbeats 4000000 in
theorem rtick_wait (c s d l : Int) (A : Option Addr) (xs : List Int) (cp : Nat) (w : World) (hx : Rb w A xs) (hn : noneB c s d l xs.length = false) (hd : 1 < d) (hd2 : d ≤ 1000) :
    Calls Try.prog 22 #[askV c s d l A xs.length cp] w fun e w' => e = .returned (.tuple #[askV c s (d - 1) l A xs.length cp, .bool false, .bool false]) ∧ Below w.heap.size w w' := by
  have HS := Lib.hid (tick_start c s d l A xs cp w hx)
  have HN := Lib.hid hn
  have HL := Lib.hid hx.len
  clear hn hx
  have d0 : decide (1 < d) = true := by simp; omega
  go_enter Try.func22, Try.ntmps22
  go_wp2_with fail
  refine (rnone_any c s d l A xs cp _ HL.out).mono ?_
  rintro e w1 ⟨rfl, hb⟩
  rw [HN.out]
  have b1 := HS.out.2.1.belowSelf hb
  have z1 := HS.out.2.2.1.belowSelf hb
  have HB1 := Lib.hid (HS.out.2.2.2.trans (hb.mono HS.out.2.2.2.size)); clear hb
  have q2 : w1.cell? ⟨w.heap.size, 2, none⟩ = some (.int .i64 d) := b1.cell 2
  have f2 := b1.frozen 2
  go_wp2_with (first | (refine load_blk (ty := 24) rfl rfl rfl Try.underlying24 rfl (info24 c s (d - 1) l A xs.length cp) (b1.set_to (cs' := askA c s (d - 1) l A xs.length cp) 2 _ rfl) ?_) | (refine store_blk' (ty := 24) rfl rfl rfl rfl (info24 c s (d - 1) l A xs.length cp) (askA_one _ _ _ _ _ _ _) (old := askA 0 0 0 0 none 0 0) rfl (z1.grown (grown_set w1 w.heap.size 2 (.int .i64 (d - 1))) (by simp)) ?_; intro w2 hW2 hG2 hz2) | fail)
  refine bodyPost_ret (v := .tuple #[askV c s (d - 1) l A xs.length cp, .bool false, .bool false]) (results_cell_tmp2 rfl _ _ _ 24 _ _ rfl rfl rfl hW2 Try.underlying24 rfl (info24 _ _ _ _ _ _ _)) rfl ?_
  exact ⟨rfl, (HB1.out.setCell (p := ⟨w.heap.size, 2, none⟩) (by simp) _).grown hG2 (by have := HB1.out.size; simp; omega) (by simp)⟩

set_option maxRecDepth 100000 in
set_option maxHeartbeats 4000000 in
theorem rtick_again (c s d l : Int) (A : Option Addr) (xs : List Int) (cp : Nat) (w : World) (hx : Rb w A xs) (hn : noneB c s d l xs.length = false) (hd : d ≤ 1) (hl : 1 ≤ l) (hl2 : l ≤ 1000) :
    Calls Try.prog 22 #[askV c s d l A xs.length cp] w fun e w' => e = .returned (.tuple #[askV c s 8 (l - 1) A xs.length cp, .bool true, .bool false]) ∧ Below w.heap.size w w' := by
  have HS := Lib.hid (tick_start c s d l A xs cp w hx)
  have HN := Lib.hid hn
  have HL := Lib.hid hx.len
  clear hn hx
  have d0 : decide (1 < d) = false := by simp; omega
  have d1 : decide (0 < l) = true := by simp; omega
  go_enter Try.func22, Try.ntmps22
  go_wp2_with fail
  refine (rnone_any c s d l A xs cp _ HL.out).mono ?_
  rintro e w1 ⟨rfl, hb⟩
  rw [HN.out]
  have b1 := HS.out.2.1.belowSelf hb
  have z1 := HS.out.2.2.1.belowSelf hb
  have HB1 := Lib.hid (HS.out.2.2.2.trans (hb.mono HS.out.2.2.2.size)); clear hb
  have q2 : w1.cell? ⟨w.heap.size, 2, none⟩ = some (.int .i64 d) := b1.cell 2
  have f2 := b1.frozen 2
  have q3 : w1.cell? ⟨w.heap.size, 3, none⟩ = some (.int .i64 l) := b1.cell 3
  have f3 := b1.frozen 3
  go_wp2_with (first | (refine load_blk (ty := 24) rfl rfl rfl Try.underlying24 rfl (info24 c s 8 (l - 1) A xs.length cp) ((b1.set_to (cs' := askA c s d (l - 1) A xs.length cp) 3 _ rfl).set_to (cs' := askA c s 8 (l - 1) A xs.length cp) 2 _ rfl) ?_) | (refine store_blk' (ty := 24) rfl rfl rfl rfl (info24 c s 8 (l - 1) A xs.length cp) (askA_one _ _ _ _ _ _ _) (old := askA 0 0 0 0 none 0 0) rfl (z1.grown (grown_trans (grown_set w1 w.heap.size 3 (.int .i64 (l - 1))) (grown_set _ w.heap.size 2 (.int .i64 8))) (by simp)) ?_; intro w2 hW2 hG2 hz2) | fail)
  refine bodyPost_ret (v := .tuple #[askV c s 8 (l - 1) A xs.length cp, .bool true, .bool false]) (results_cell_tmp2 rfl _ _ _ 24 _ _ rfl rfl rfl hW2 Try.underlying24 rfl (info24 _ _ _ _ _ _ _)) rfl ?_
  exact ⟨rfl, ((HB1.out.setCell (p := ⟨w.heap.size, 3, none⟩) (by simp) _).setCell (p := ⟨w.heap.size, 2, none⟩) (by simp) _).grown hG2 (by have := HB1.out.size; simp; omega) (by simp)⟩

set_option maxRecDepth 100000 in
set_option maxHeartbeats 4000000 in
theorem rtick_drop (c s d l : Int) (A : Option Addr) (xs : List Int) (cp : Nat) (w : World) (hx : Rb w A xs) (hn : noneB c s d l xs.length = false) (hd : d ≤ 1) (hl : l ≤ 0) :
    Calls Try.prog 22 #[askV c s d l A xs.length cp] w fun e w' => e = .returned (.tuple #[askV 0 0 0 0 none 0 0, .bool false, .bool true]) ∧ Below w.heap.size w w' := by
  have HS := Lib.hid (tick_start c s d l A xs cp w hx)
  have HN := Lib.hid hn
  have HL := Lib.hid hx.len
  clear hn hx
  have d0 : decide (1 < d) = false := by simp; omega
  have d1 : decide (0 < l) = false := by simp; omega
  go_enter Try.func22, Try.ntmps22
  go_wp2_with fail
  refine (rnone_any c s d l A xs cp _ HL.out).mono ?_
  rintro e w1 ⟨rfl, hb⟩
  rw [HN.out]
  have b1 := HS.out.2.1.belowSelf hb
  have z1 := HS.out.2.2.1.belowSelf hb
  have HB1 := Lib.hid (HS.out.2.2.2.trans (hb.mono HS.out.2.2.2.size)); clear hb
  have q2 : w1.cell? ⟨w.heap.size, 2, none⟩ = some (.int .i64 d) := b1.cell 2
  have q3 : w1.cell? ⟨w.heap.size, 3, none⟩ = some (.int .i64 l) := b1.cell 3
  go_wp2_with (first | (refine store_blk' (ty := 24) rfl rfl rfl rfl (info24 0 0 0 0 none 0 0) (askA_one _ _ _ _ _ _ _) (old := askA 0 0 0 0 none 0 0) rfl z1 ?_; intro w2 hW2 hG2 hz2) | fail)
  refine bodyPost_ret (v := .tuple #[askV 0 0 0 0 none 0 0, .bool false, .bool true]) (results_cell_tmp2 rfl _ _ _ 24 _ _ rfl rfl rfl hW2 Try.underlying24 rfl (info24 _ _ _ _ _ _ _)) rfl ?_
  exact ⟨rfl, HB1.out.grown hG2 HB1.out.size (by simp)⟩

end Go.Proofs.Ytnmbcdphjmcomaa
