/- Tick: asked again, given up. -/
import Derived.Test.YtnmbcdphjmcomaaC
import Derived.RegionTactic
namespace Go.Proofs.Ytnmbcdphjmcomaa
open Go.RowKit

theorem grown_set (w : World) (g i : Nat) (v : Value) : w.grownBy (w.setCell ⟨g, i, none⟩ v) (some g) :=
  ⟨rfl, rfl, rfl, by simp, fun k _ hne => Below.heap_setCell w ⟨g, i, none⟩ v k (fun e => hne (by rw [e]))⟩
theorem grown_trans {a b c : World} {r : Option Nat} (h : a.grownBy b r) (k : b.grownBy c r) : a.grownBy c r :=
  ⟨k.os.trans h.os, k.tape.trans h.tape, k.output.trans h.output, Nat.le_trans h.size k.size, fun i hi hne => (k.block i (Nat.lt_of_lt_of_le hi h.size) hne).trans (h.block i hi hne)⟩

/-- What a callee of Tick does to the clock. -/
def Clock (w : World) (g : Nat) (cs : Array Value) (w' : World) : Prop := Blk w' g 49 cs ∧ w.grownBy w' (some g) ∧ w'.heap.size = w.heap.size

set_option maxRecDepth 100000 in
set_option maxHeartbeats 1000000 in
theorem again_any (c s d l : Int) (A : Option Addr) (n cp g : Nat) (w : World) (hg : Blk w g 49 (askA c s d l A n cp)) (hl : 1 ≤ l) (hl2 : l ≤ 1000) :
    Calls Try.prog 30 #[.pointer (some ⟨g, 0, none⟩)] w fun e w' => e = .returned (.tuple #[]) ∧ Clock w g (askA c s 8 (l - 1) A n cp) w' := by
  have q3 : w.cell? ⟨g, 3, none⟩ = some (.int .i64 l) := hg.cell 3
  have q2 : w.cell? ⟨g, 2, none⟩ = some (.int .i64 d) := hg.cell 2
  have z3 := hg.frozen 3
  have z2 := hg.frozen 2
  have HG := Lib.hid hg
  clear hg
  go_enter Try.func30, Try.ntmps30
  go_wp2
  go_end0
  refine ⟨rfl, ?_, grown_trans (grown_set w g 3 _) (grown_set _ g 2 _), by simp⟩
  exact (HG.out.set_to (cs' := askA c s d (l - 1) A n cp) 3 _ rfl).set_to 2 _ rfl

set_option maxRecDepth 100000 in
set_option maxHeartbeats 1000000 in
theorem drop_any (c s d l : Int) (A : Option Addr) (n cp g : Nat) (w : World) (hg : Blk w g 49 (askA c s d l A n cp)) :
    Calls Try.prog 31 #[.pointer (some ⟨g, 0, none⟩)] w fun e w' => e = .returned (.tuple #[]) ∧ Clock w g (askA 0 0 0 0 none 0 0) w' := by
  go_enter Try.func31, Try.ntmps31
  go_wp2_with (first | (refine store_blk' (ty := 24) rfl rfl rfl rfl (info24 0 0 0 0 none 0 0) (askA_one _ _ _ _ _ _ _) (old := askA c s d l A n cp) rfl hg ?_; intro w2 hW2 hG2 hz2) | fail)
  go_end0
  exact ⟨rfl, hW2, hG2, hz2⟩

set_option maxRecDepth 100000 in
set_option maxHeartbeats 1000000 in
theorem act_first (c s d l : Int) (A : Option Addr) (n cp g gb : Nat) (w : World) (hg : Blk w g 49 (askA c s d l A n cp)) (hl : 1 ≤ l) (hl2 : l ≤ 1000) (hb : w.cell? ⟨gb, 0, none⟩ = some (.bool true)) :
    Calls Try.prog 29 #[.func (.func 30) #[.pointer (some ⟨g, 0, none⟩)] #[], .func (.func 31) #[.pointer (some ⟨g, 0, none⟩)] #[], .pointer (some ⟨gb, 0, none⟩)] w fun e w' => e = .returned (.tuple #[]) ∧ Clock w g (askA c s 8 (l - 1) A n cp) w' := by
  have HG := Lib.hid hg
  clear hg
  go_enter Try.func29, Try.ntmps29
  go_wp2_with fail
  refine (again_any c s d l A n cp g w HG.out hl hl2).mono ?_
  rintro e w' ⟨rfl, hc⟩
  have HC := Lib.hid hc
  clear hc
  go_wp2_with fail
  refine bodyPost_ret (results_none rfl _ _ _) rfl ?_
  exact ⟨rfl, HC.out⟩

set_option maxRecDepth 100000 in
set_option maxHeartbeats 1000000 in
theorem act_second (c s d l : Int) (A : Option Addr) (n cp g gb : Nat) (w : World) (hg : Blk w g 49 (askA c s d l A n cp)) (hb : w.cell? ⟨gb, 0, none⟩ = some (.bool false)) :
    Calls Try.prog 29 #[.func (.func 30) #[.pointer (some ⟨g, 0, none⟩)] #[], .func (.func 31) #[.pointer (some ⟨g, 0, none⟩)] #[], .pointer (some ⟨gb, 0, none⟩)] w fun e w' => e = .returned (.tuple #[]) ∧ Clock w g (askA 0 0 0 0 none 0 0) w' := by
  have HG := Lib.hid hg
  clear hg
  go_enter Try.func29, Try.ntmps29
  go_wp2_with fail
  refine (drop_any c s d l A n cp g w HG.out).mono ?_
  rintro e w' ⟨rfl, hc⟩
  have HC := Lib.hid hc
  clear hc
  go_wp2_with fail
  go_end0
  exact ⟨rfl, HC.out⟩

set_option maxRecDepth 100000 in
set_option maxHeartbeats 4000000 in
theorem tick_again (c s d l : Int) (A : Option Addr) (xs : List Int) (cp : Nat) (w : World) (hx : Rb w A xs) (hn : noneB c s d l xs.length = false) (hd : 0 ≤ d) (hd2 : d ≤ 1) (hl : 1 ≤ l) (hl2 : l ≤ 1000) :
    Calls Try.prog 21 #[askV c s d l A xs.length cp] w fun e w' => e = .returned (.tuple #[askV c s 8 (l - 1) A xs.length cp, .bool true, .bool false]) ∧ Below w.heap.size w w' := by
  have HS := Lib.hid (tick_start c s d l A xs cp w hx)
  have HN := Lib.hid hn
  clear hn hx
  have hmf : ∀ (fn : Fn) (first cap : Array Value) (w : World), (Instr.makeFunc fn first cap).run Try.prog w = .ok (.func fn first cap) w := fun _ _ _ _ => rfl
  have d0 : decide (0 < l) = true := by simp; omega
  go_enter Try.func21, Try.ntmps21
  go_wp2_with fail
  refine (none_any c s d l A xs cp _ HS.out.1).mono ?_
  rintro e w1 ⟨rfl, hb⟩
  rw [HN.out]
  have b1 := HS.out.2.1.belowSelf hb
  have z1 := HS.out.2.2.1.belowSelf hb
  have hz0 := b1.lt
  have hz1 := z1.lt
  have q3 : w1.cell? ⟨w.heap.size, 3, none⟩ = some (.int .i64 l) := b1.cell 3
  have HB1 := Lib.hid (HS.out.2.2.2.trans (hb.mono HS.out.2.2.2.size)); clear hb
  go_wp2_with (first | (refine load_blk (ty := 24) rfl rfl rfl Try.underlying24 rfl (info24 c s d l A xs.length cp) b1 ?_) | fail)
  have k1 := (Blk.new w1 49 (askA c s (d - 1) l A xs.length cp)).alloc (.cells #[.bool true] 4)
  have k2 : Blk ((w1.alloc (.cells (askA c s (d - 1) l A xs.length cp) 49)).alloc (.cells #[.bool true] 4)) (w1.heap.size + 1) 4 #[.bool true] := by
    have := Blk.new (w1.alloc (.cells (askA c s (d - 1) l A xs.length cp) 49)) 4 #[.bool true]
    rwa [World.size_alloc] at this
  have z2 := (z1.alloc (.cells (askA c s (d - 1) l A xs.length cp) 49)).alloc (.cells #[.bool true] 4)
  have HB2 := Lib.hid ((HB1.out.alloc HB1.out.size (.cells (askA c s (d - 1) l A xs.length cp) 49)).alloc (by have := HB1.out.size; simp; omega) (.cells #[.bool true] 4))
  refine (act_first c s (d - 1) l A xs.length cp _ _ _ k1 hl hl2 (k2.cell 0)).mono ?_
  rintro e w3 ⟨rfl, hc, hG, hz⟩
  have k3 := k2.grown hG (by simp)
  have z3 := z2.grown hG (by simp; omega)
  have HB3 := Lib.hid (HB2.out.grown hG HB2.out.size (by simp; omega))
  clear hG hz k1 k2 z2 HB2 b1 z1 q3
  go_wp2_with fail
  have q0 : w3.cell? ⟨w1.heap.size, 0, none⟩ = some (.int .i64 c) := hc.cell 0
  have q1 : w3.cell? ⟨w1.heap.size, 1, none⟩ = some (.int .i64 s) := hc.cell 1
  have q2 : w3.cell? ⟨w1.heap.size, 2, none⟩ = some (.int .i64 8) := hc.cell 2
  have q3 : w3.cell? ⟨w1.heap.size, 3, none⟩ = some (.int .i64 ((l - 1))) := hc.cell 3
  have q4 : w3.cell? ⟨w1.heap.size, 4, none⟩ = some (.slice A xs.length cp) := hc.cell 4
  have qb : w3.cell? ⟨w1.heap.size + 1, 0, none⟩ = some (.bool true) := k3.cell 0
  have p0 : w3.cell? ⟨w.heap.size + 1, 0, none⟩ = some (.int .i64 0) := z3.cell 0
  have p1 : w3.cell? ⟨w.heap.size + 1, 1, none⟩ = some (.int .i64 0) := z3.cell 1
  have p2 : w3.cell? ⟨w.heap.size + 1, 2, none⟩ = some (.int .i64 0) := z3.cell 2
  have p3 : w3.cell? ⟨w.heap.size + 1, 3, none⟩ = some (.int .i64 0) := z3.cell 3
  have p4 : w3.cell? ⟨w.heap.size + 1, 4, none⟩ = some (.slice none 0 0) := z3.cell 4
  have f0 := z3.frozen 0
  have f1 := z3.frozen 1
  have f2 := z3.frozen 2
  have f3 := z3.frozen 3
  have f4 := z3.frozen 4
  have HZ := Lib.hid (show Blk (((((w3.setCell ⟨w.heap.size + 1, 0, none⟩ (.int .i64 c)).setCell ⟨w.heap.size + 1, 1, none⟩ (.int .i64 s)).setCell ⟨w.heap.size + 1, 2, none⟩ (.int .i64 8)).setCell ⟨w.heap.size + 1, 3, none⟩ (.int .i64 (l - 1))).setCell ⟨w.heap.size + 1, 4, none⟩ (.slice A xs.length cp)).drew (w.heap.size + 1) 24 (askA c s 8 (l - 1) A xs.length cp) from
    (((((z3.set_ 0 (.int .i64 c)).set_ 1 (.int .i64 s)).set_ 2 (.int .i64 8)).set_ 3 (.int .i64 (l - 1))).set_to 4 (.slice A xs.length cp) rfl).drew)
  have HB4 := Lib.hid ((((((HB3.out.setCell (p := ⟨w.heap.size + 1, 0, none⟩) (by simp) (.int .i64 c)).setCell (p := ⟨w.heap.size + 1, 1, none⟩) (by simp) (.int .i64 s)).setCell (p := ⟨w.heap.size + 1, 2, none⟩) (by simp) (.int .i64 8)).setCell (p := ⟨w.heap.size + 1, 3, none⟩) (by simp) (.int .i64 (l - 1))).setCell (p := ⟨w.heap.size + 1, 4, none⟩) (by simp) (.slice A xs.length cp)).drew)
  clear z3 k3 hc
  go_region
  clear q0 q1 q2 q3 q4 qb p0 p1 p2 p3 p4 f0 f1 f2 f3 f4
  go_wp2_with fail
  refine bodyPost_ret (v := .tuple #[askV c s 8 (l - 1) A xs.length cp, .bool true, .bool false]) (results_cell_tmp2 rfl _ _ _ 24 _ _ rfl rfl rfl HZ.out Try.underlying24 rfl (info24 _ _ _ _ _ _ _)) rfl ?_
  exact ⟨rfl, HB4.out⟩

set_option maxRecDepth 100000 in
set_option maxHeartbeats 4000000 in
theorem tick_drop (c s d l : Int) (A : Option Addr) (xs : List Int) (cp : Nat) (w : World) (hx : Rb w A xs) (hn : noneB c s d l xs.length = false) (hd : 0 ≤ d) (hd2 : d ≤ 1) (hl : l ≤ 0) :
    Calls Try.prog 21 #[askV c s d l A xs.length cp] w fun e w' => e = .returned (.tuple #[askV 0 0 0 0 none 0 0, .bool false, .bool true]) ∧ Below w.heap.size w w' := by
  have HS := Lib.hid (tick_start c s d l A xs cp w hx)
  have HN := Lib.hid hn
  clear hn hx
  have hmf : ∀ (fn : Fn) (first cap : Array Value) (w : World), (Instr.makeFunc fn first cap).run Try.prog w = .ok (.func fn first cap) w := fun _ _ _ _ => rfl
  have d0 : decide (0 < l) = false := by simp; omega
  go_enter Try.func21, Try.ntmps21
  go_wp2_with fail
  refine (none_any c s d l A xs cp _ HS.out.1).mono ?_
  rintro e w1 ⟨rfl, hb⟩
  rw [HN.out]
  have b1 := HS.out.2.1.belowSelf hb
  have z1 := HS.out.2.2.1.belowSelf hb
  have hz0 := b1.lt
  have hz1 := z1.lt
  have q3 : w1.cell? ⟨w.heap.size, 3, none⟩ = some (.int .i64 l) := b1.cell 3
  have HB1 := Lib.hid (HS.out.2.2.2.trans (hb.mono HS.out.2.2.2.size)); clear hb
  go_wp2_with (first | (refine load_blk (ty := 24) rfl rfl rfl Try.underlying24 rfl (info24 c s d l A xs.length cp) b1 ?_) | fail)
  have k1 := (Blk.new w1 49 (askA c s (d - 1) l A xs.length cp)).alloc (.cells #[.bool false] 4)
  have k2 : Blk ((w1.alloc (.cells (askA c s (d - 1) l A xs.length cp) 49)).alloc (.cells #[.bool false] 4)) (w1.heap.size + 1) 4 #[.bool false] := by
    have := Blk.new (w1.alloc (.cells (askA c s (d - 1) l A xs.length cp) 49)) 4 #[.bool false]
    rwa [World.size_alloc] at this
  have z2 := (z1.alloc (.cells (askA c s (d - 1) l A xs.length cp) 49)).alloc (.cells #[.bool false] 4)
  have HB2 := Lib.hid ((HB1.out.alloc HB1.out.size (.cells (askA c s (d - 1) l A xs.length cp) 49)).alloc (by have := HB1.out.size; simp; omega) (.cells #[.bool false] 4))
  refine (act_second c s (d - 1) l A xs.length cp _ _ _ k1 (k2.cell 0)).mono ?_
  rintro e w3 ⟨rfl, hc, hG, hz⟩
  have k3 := k2.grown hG (by simp)
  have z3 := z2.grown hG (by simp; omega)
  have HB3 := Lib.hid (HB2.out.grown hG HB2.out.size (by simp; omega))
  clear hG hz k1 k2 z2 HB2 b1 z1 q3
  go_wp2_with fail
  have q0 : w3.cell? ⟨w1.heap.size, 0, none⟩ = some (.int .i64 0) := hc.cell 0
  have q1 : w3.cell? ⟨w1.heap.size, 1, none⟩ = some (.int .i64 0) := hc.cell 1
  have q2 : w3.cell? ⟨w1.heap.size, 2, none⟩ = some (.int .i64 0) := hc.cell 2
  have q3 : w3.cell? ⟨w1.heap.size, 3, none⟩ = some (.int .i64 (0)) := hc.cell 3
  have q4 : w3.cell? ⟨w1.heap.size, 4, none⟩ = some (.slice none 0 0) := hc.cell 4
  have qb : w3.cell? ⟨w1.heap.size + 1, 0, none⟩ = some (.bool false) := k3.cell 0
  have p0 : w3.cell? ⟨w.heap.size + 1, 0, none⟩ = some (.int .i64 0) := z3.cell 0
  have p1 : w3.cell? ⟨w.heap.size + 1, 1, none⟩ = some (.int .i64 0) := z3.cell 1
  have p2 : w3.cell? ⟨w.heap.size + 1, 2, none⟩ = some (.int .i64 0) := z3.cell 2
  have p3 : w3.cell? ⟨w.heap.size + 1, 3, none⟩ = some (.int .i64 0) := z3.cell 3
  have p4 : w3.cell? ⟨w.heap.size + 1, 4, none⟩ = some (.slice none 0 0) := z3.cell 4
  have f0 := z3.frozen 0
  have f1 := z3.frozen 1
  have f2 := z3.frozen 2
  have f3 := z3.frozen 3
  have f4 := z3.frozen 4
  have HZ := Lib.hid (show Blk (((((w3.setCell ⟨w.heap.size + 1, 0, none⟩ (.int .i64 0)).setCell ⟨w.heap.size + 1, 1, none⟩ (.int .i64 0)).setCell ⟨w.heap.size + 1, 2, none⟩ (.int .i64 0)).setCell ⟨w.heap.size + 1, 3, none⟩ (.int .i64 0)).setCell ⟨w.heap.size + 1, 4, none⟩ (.slice none 0 0)).drew (w.heap.size + 1) 24 (askA 0 0 0 0 none 0 0) from
    (((((z3.set_ 0 (.int .i64 0)).set_ 1 (.int .i64 0)).set_ 2 (.int .i64 0)).set_ 3 (.int .i64 0)).set_to 4 (.slice none 0 0) rfl).drew)
  have HB4 := Lib.hid ((((((HB3.out.setCell (p := ⟨w.heap.size + 1, 0, none⟩) (by simp) (.int .i64 0)).setCell (p := ⟨w.heap.size + 1, 1, none⟩) (by simp) (.int .i64 0)).setCell (p := ⟨w.heap.size + 1, 2, none⟩) (by simp) (.int .i64 0)).setCell (p := ⟨w.heap.size + 1, 3, none⟩) (by simp) (.int .i64 0)).setCell (p := ⟨w.heap.size + 1, 4, none⟩) (by simp) (.slice none 0 0)).drew)
  clear z3 k3 hc
  go_region
  clear q0 q1 q2 q3 q4 qb p0 p1 p2 p3 p4 f0 f1 f2 f3 f4
  go_wp2_with fail
  refine bodyPost_ret (v := .tuple #[askV 0 0 0 0 none 0 0, .bool false, .bool true]) (results_cell_tmp2 rfl _ _ _ 24 _ _ rfl rfl rfl HZ.out Try.underlying24 rfl (info24 _ _ _ _ _ _ _)) rfl ?_
  exact ⟨rfl, HB4.out⟩

end Go.Proofs.Ytnmbcdphjmcomaa
