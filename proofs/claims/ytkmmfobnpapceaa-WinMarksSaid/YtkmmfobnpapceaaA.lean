/- Contracts of win.at, win.has, win.set. -/
import Derived.Test.YtkmmfobnpapceaaRows
import Derived.Test.YtkmmfobnpapceaaB
import Derived.Test.YtkmmfobnpapceaaM
import Derived.WalkKit
import Derived.WalkLawsBesides
import Derived.WalkSpells
import Derived.Handy
import Derived.BigQuiet
import Derived.Deep.QuietTactic
import Derived.Lib.Hide
import Derived.Great.BuildSlice
namespace Go.Proofs.Ytkmmfobnpapceaa
open Go.RowKit

set_option maxHeartbeats 400000 in
theorem at_any (n : Int) (w : World) (h0 : 0 ≤ n) (h1 : n ≤ 9223372036854775807) :
    Calls Try.prog 22 #[.int .i64 n] w fun e w' => e = .returned (.tuple #[.int .i64 ((n.toNat % 1024 / 64 : Nat) : Int), .int .u64 ((pow2 (n.toNat % 1024 % 64) : Nat) : Int)]) ∧ ∃ k, w' = w.drewN k := by
  go_enter Try.func22, Try.ntmps22
  go_wp2
  go_quiet (fail)
  go_wp2
  go_ret2
  refine ⟨?_, _, rfl⟩
  rw [← ret_at n h0, show ((n.toNat % 1024 / 64 : Nat) : Int) = n % 1024 / 64 from by omega]
  simp

set_option maxHeartbeats 400000 in
theorem has_any (t : Int) (f : Nat → Bool) (n : Int) (w : World) (h0 : 0 ≤ n) (h1 : n ≤ 9223372036854775807) :
    Calls Try.prog 18 #[.agg (winA t f), .int .i64 n] w fun e w' => e = .returned (.bool (f (n.toNat % 1024))) ∧ Below w.heap.size w w' := by
  go_enter Try.func18, Try.ntmps18
  go_wp2_with fail
  refine (at_any _ _ (by omega) (by omega)).mono ?_
  rintro e w' ⟨rfl, k, rfl⟩
  have hp : n.toNat % 1024 < 1024 := by omega
  generalize hpp : n.toNat % 1024 = p at *
  have HP := Lib.hid hpp; clear hpp
  have hi : p / 64 < 16 := by omega
  have hb := winA_bits t f _ hi
  have ha := and_word f p
  have hj : 0 < pow2 (p % 64) := pow2_pos _
  generalize pow2 (p % 64) = b at *
  generalize p / 64 = i at *
  have hbel : Below w.heap.size w ((w.alloc (Obj.cells (winA t f) 25)).drewN k) := by
    have := (Below.refl w.heap.size w).alloc (Nat.le_refl _) (Obj.cells (winA t f) 25)
    exact ⟨this.os, this.tape, this.output, this.size, this.block⟩
  have HB := Lib.hid hbel
  clear hbel
  cases hfp : f p
  · rw [hfp, if_neg (by simp)] at ha
    have H := Lib.hid hfp; clear hfp
    go_wp2
    go_ret
    exact ⟨by rw [HP.out, H.out]; rfl, HB.out⟩
  · rw [hfp, if_pos rfl] at ha
    have H := Lib.hid hfp; clear hfp
    have hne : ((b : Int) != 0) = true := by rw [bne_iff_ne]; omega
    go_wp2
    go_ret
    exact ⟨by rw [HP.out, H.out]; rfl, HB.out⟩

theorem info25 : (Try.prog.info? 25).map (·.size) = some 17 := by kernel_rfl
theorem info25' (t : Int) (f : Nat → Bool) : (Try.prog.info? 25).map (·.size) = some (winA t f).size := by rw [winA_size]; exact info25

set_option maxHeartbeats 1000000 in
theorem set_true (t : Int) (f : Nat → Bool) (n : Int) (w : World) (h0 : 0 ≤ n) (h1 : n ≤ 9223372036854775807) :
    Calls Try.prog 19 #[.agg (winA t f), .int .i64 n, .bool true] w fun e w' => e = .returned (.agg (winA t (upd f (n.toNat % 1024) true))) ∧ Below w.heap.size w w' := by
  go_enter Try.func19, Try.ntmps19
  go_wp2_with fail
  refine (at_any _ _ (by omega) (by omega)).mono ?_
  rintro e w' ⟨rfl, k, rfl⟩
  have hp : n.toNat % 1024 < 1024 := by omega
  generalize hpp : n.toNat % 1024 = p at *
  have HP := Lib.hid hpp; clear hpp
  have hi : p / 64 < 16 := by omega
  have hb := winA_bits t f _ hi
  have ho := or_word f p
  have HS := Lib.hid (winA_setBits t f p true hp)
  generalize pow2 (p % 64) = b at *
  generalize p / 64 = i at *
  rw [winA_zero]
  go_wp2_with (first | (refine load_blk (ty := 25) rfl rfl rfl Try.underlying25 rfl (info25' t (upd f p true)) (t := 25) ?_ ?_) | (refine store_blk (ty := 25) rfl rfl rfl rfl (info25' t (upd f p true)) (winA_one _ _) (t := 25) (old := winA 0 (fun _ => false)) ?_ ?_ ?_))
  · refine Blk.set_to ?_ _ _ HS.out
    exact (((Blk.new w 25 _).alloc _).drewN k)
  · rw [winA_size, winA_size]
  · refine Blk.far ?_ (by simp) _
    have := (Blk.new (w.alloc (Obj.cells (winA t f) 25)) 25 (winA 0 (fun _ => false)))
    simp only [World.size_alloc] at this
    exact this.drewN k
  refine bodyPost_ret (v := .agg (winA t (upd f p true))) (results_cell_row rfl _ _ (w.heap.size + 1) 25 _ (0, 0) _ rfl ?_ Try.underlying25 rfl (info25' _ _)) rfl ?_
  · refine Blk.row (cs := winA 0 (fun _ => false)) ?_ _
    refine Blk.far ?_ (by simp) _
    have := (Blk.new (w.alloc (Obj.cells (winA t f) 25)) 25 (winA 0 (fun _ => false)))
    simp only [World.size_alloc] at this
    exact this.drewN k
  · refine ⟨by rw [HP.out], ?_⟩
    refine below_setRow' (Below.setCell (below_drewN (((Below.refl _ _).alloc (Nat.le_refl _) _).alloc (by simp) _) _) (by simp) _) (by simp) _

set_option maxHeartbeats 1000000 in
theorem set_false (t : Int) (f : Nat → Bool) (n : Int) (w : World) (h0 : 0 ≤ n) (h1 : n ≤ 9223372036854775807) :
    Calls Try.prog 19 #[.agg (winA t f), .int .i64 n, .bool false] w fun e w' => e = .returned (.agg (winA t (upd f (n.toNat % 1024) false))) ∧ Below w.heap.size w w' := by
  go_enter Try.func19, Try.ntmps19
  go_wp2_with fail
  refine (at_any _ _ (by omega) (by omega)).mono ?_
  rintro e w' ⟨rfl, k, rfl⟩
  have hp : n.toNat % 1024 < 1024 := by omega
  generalize hpp : n.toNat % 1024 = p at *
  have HP := Lib.hid hpp; clear hpp
  have hi : p / 64 < 16 := by omega
  have hb := winA_bits t f _ hi
  have ho := or_word f p
  have hx := xor_word f p
  have hs := winA_setBits t f p true hp
  have hs' := winA_setBits t (upd f p true) p false hp
  rw [upd_upd] at hs'
  have HS := Lib.hid hs; clear hs
  have HS' := Lib.hid hs'; clear hs'
  generalize pow2 (p % 64) = b at *
  generalize p / 64 = i at *
  rw [winA_zero]
  go_wp2_with (first | (refine load_blk (ty := 25) rfl rfl rfl Try.underlying25 rfl (info25' t (upd f p false)) (t := 25) ?_ ?_) | (refine store_blk (ty := 25) rfl rfl rfl rfl (info25' t (upd f p false)) (winA_one _ _) (t := 25) (old := winA 0 (fun _ => false)) ?_ ?_ ?_))
  · refine Blk.set_to (Blk.set_to ?_ _ _ HS.out) _ _ HS'.out
    exact (((Blk.new w 25 _).alloc _).drewN k)
  · rw [winA_size, winA_size]
  · refine Blk.far (Blk.far ?_ (by simp) _) (by simp) _
    have := (Blk.new (w.alloc (Obj.cells (winA t f) 25)) 25 (winA 0 (fun _ => false)))
    simp only [World.size_alloc] at this
    exact this.drewN k
  refine bodyPost_ret (v := .agg (winA t (upd f p false))) (results_cell_row rfl _ _ (w.heap.size + 1) 25 _ (0, 0) _ rfl ?_ Try.underlying25 rfl (info25' _ _)) rfl ?_
  · refine Blk.row (cs := winA 0 (fun _ => false)) ?_ _
    refine Blk.far (Blk.far ?_ (by simp) _) (by simp) _
    have := (Blk.new (w.alloc (Obj.cells (winA t f) 25)) 25 (winA 0 (fun _ => false)))
    simp only [World.size_alloc] at this
    exact this.drewN k
  · refine ⟨by rw [HP.out], ?_⟩
    refine below_setRow' (Below.setCell (Below.setCell (below_drewN (((Below.refl _ _).alloc (Nat.le_refl _) _).alloc (by simp) _) _) (by simp) _) (by simp) _) (by simp) _

theorem set_any (t : Int) (f : Nat → Bool) (n : Int) (b : Bool) (w : World) (h0 : 0 ≤ n) (h1 : n ≤ 9223372036854775807) :
    Calls Try.prog 19 #[.agg (winA t f), .int .i64 n, .bool b] w fun e w' => e = .returned (.agg (winA t (upd f (n.toNat % 1024) b))) ∧ Below w.heap.size w w' := by
  cases b
  · exact set_false t f n w h0 h1
  · exact set_true t f n w h0 h1
end Go.Proofs.Ytkmmfobnpapceaa
