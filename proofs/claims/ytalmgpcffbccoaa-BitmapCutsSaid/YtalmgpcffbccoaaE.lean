/- Contracts: Write. -/
import Derived.Test.YtalmgpcffbccoaaC
import Derived.Test.YtalmgpcffbccoaaD
import Derived.Test.YtalmgpcffbccoaaP
import Derived.Laws.MakeOwn
import Derived.Laws.OwnMore
namespace Go.Proofs.Ytalmgpcffbccoaa
open Go.RowKit

/-- A list of bytes comes back, and an error's number. -/
def GivesB (k : IntKind) (ys : List Int) (er : Int) (w : World) (e : Ending) (w' : World) : Prop := ∃ B cp, e = .returned (.tuple #[.slice B ys.length cp, .int k er]) ∧ ys.length ≤ cp ∧ Rb w' B ys ∧ Below w.heap.size w w'

theorem made8 : madeCells (Value.int .u8 0).cells (Int.toNat 8 * 1) = #[.int .u8 0, .int .u8 0, .int .u8 0, .int .u8 0, .int .u8 0, .int .u8 0, .int .u8 0, .int .u8 0] := by
  apply Array.toList_inj.1
  exact (toList_madeCells_one (.int .u8 0) 8).trans rfl
theorem made16 : madeCells (Value.int .u8 0).cells (Int.toNat 16 * 1) = #[.int .u8 0, .int .u8 0, .int .u8 0, .int .u8 0, .int .u8 0, .int .u8 0, .int .u8 0, .int .u8 0, .int .u8 0, .int .u8 0, .int .u8 0, .int .u8 0, .int .u8 0, .int .u8 0, .int .u8 0, .int .u8 0] := by
  apply Array.toList_inj.1
  exact (toList_madeCells_one (.int .u8 0) 16).trans rfl
theorem mk8 (w : World) : (Instr.makeSlice 24 (.int .i64 8) (.int .i64 8)).run Try.prog w = .ok (.slice (some ⟨w.heap.size, 0, none⟩) 8 8) (w.alloc (.cells #[.int .u8 0, .int .u8 0, .int .u8 0, .int .u8 0, .int .u8 0, .int .u8 0, .int .u8 0, .int .u8 0] 5)) := by
  obtain ⟨i0, hi0, hz0, hz1, hz2⟩ := info_parts info5
  have h := run_makeSlice (w := w) (P := Try.prog) 24 5 i0 (.int .u8 0) Try.underlying24 hi0 hz0 .i64 .i64 8 8 (by omega) (by omega) (by rw [hz1]; decide) (by rw [hz2]; decide) (by omega)
  rw [h, hz1, made8]
  rfl
theorem mk16 (w : World) : (Instr.makeSlice 24 (.int .i64 16) (.int .i64 16)).run Try.prog w = .ok (.slice (some ⟨w.heap.size, 0, none⟩) 16 16) (w.alloc (.cells #[.int .u8 0, .int .u8 0, .int .u8 0, .int .u8 0, .int .u8 0, .int .u8 0, .int .u8 0, .int .u8 0, .int .u8 0, .int .u8 0, .int .u8 0, .int .u8 0, .int .u8 0, .int .u8 0, .int .u8 0, .int .u8 0] 5)) := by
  obtain ⟨i0, hi0, hz0, hz1, hz2⟩ := info_parts info5
  have h := run_makeSlice (w := w) (P := Try.prog) 24 5 i0 (.int .u8 0) Try.underlying24 hi0 hz0 .i64 .i64 16 16 (by omega) (by omega) (by rw [hz1]; decide) (by rw [hz2]; decide) (by omega)
  rw [h, hz1, made16]
  rfl
theorem zeros8 : #[.int .u8 0, .int .u8 0, .int .u8 0, .int .u8 0, .int .u8 0, .int .u8 0, .int .u8 0, .int .u8 0] = bytesA (setK false []) 8 := by rw [bytesA_none]; rfl
theorem zeros16 : #[.int .u8 0, .int .u8 0, .int .u8 0, .int .u8 0, .int .u8 0, .int .u8 0, .int .u8 0, .int .u8 0, .int .u8 0, .int .u8 0, .int .u8 0, .int .u8 0, .int .u8 0, .int .u8 0, .int .u8 0, .int .u8 0] = bytesA (setK false []) 16 := by rw [bytesA_none]; rfl

set_option maxRecDepth 100000 in
set_option maxHeartbeats 4000000 in
theorem write_no (A : Option Addr) (l : List Int) (c : Nat) (w : World) (hx : Ri w A l) (hr : rightL l = false) : Calls Try.prog 10 #[.slice A l.length c] w fun e w' => e = .returned (.tuple #[.slice none 0 0, .int .i64 1]) ∧ w' = w := by
  have HX := Lib.hid hx
  have HR := Lib.hid hr
  clear hx hr
  go_enter Try.func10, Try.ntmps10
  go_wp2_with fail
  refine (right_any A l c _ HX.out).mono ?_
  rintro e w' ⟨rfl, rfl⟩
  rw [HR.out]
  go_wp2_with fail
  go_ret2
  exact ⟨rfl, rfl⟩

theorem rs_bytes {w : World} {g : Nat} {S : Nat → Bool} {m : Nat} (hm : m ≤ 16) (h : Blk w g 5 (bytesA S m)) : Rb w (some ⟨g, 0, none⟩) (bytesL S m) :=
  Rs.of_blk h (by rw [bytesL_len]; unfold maxLen; omega) (fun x hx => u8_wf (bytesL_mem hx).1 (bytesL_mem hx).2) (fun j hj => by
    rw [bytesL_len] at hj; rw [Nat.zero_add, bytesA_get S hj, bytesL_get S hj])
theorem place_room {l : List Int} {wide : Bool} (hr : rightL l = true) (hw : wideL l = wide) {k : Nat} (hk : k < l.length) :
    ∃ n : Nat, l.getD k 0 = (n : Int) ∧ 2 ≤ n ∧ n ≤ 128 ∧ (n - 1) / 8 < (if wide then 16 else 8) := by
  have h := right_get hr hk
  refine ⟨(l.getD k 0).toNat, by omega, by omega, by omega, ?_⟩
  cases wide
  · have := right_narrow hr hw hk
    show _ < 8
    omega
  · show _ < 16
    omega

set_option maxRecDepth 100000 in
set_option maxHeartbeats 4000000 in
theorem write_wide (A : Option Addr) (l : List Int) (c : Nat) (w : World) (hx : Ri w A l) (hr : rightL l = true) (hw : wideL l = true) : Calls Try.prog 10 #[.slice A l.length c] w (GivesB .i64 (outL l) 0 w) := by
  have HX := Lib.hid hx
  have HR := Lib.hid hr
  have HW := Lib.hid hw
  have hm := hx.len
  unfold maxLen at hm
  have h0 : 0 < l.length := by unfold wideL at hw; simp at hw; omega
  have h64 : 64 < l.getD (l.length - 1) 0 := by unfold wideL at hw; simp at hw; simpa using hw.2
  obtain ⟨b, off, rfl, hb, hc⟩ := hx.cells h0
  have hcl := hc (l.length - 1) (by omega)
  have d0 : decide (0 < l.length) = true := decide_eq_true h0
  have d1 : decide (64 < l.getD (l.length - 1) 0) = true := decide_eq_true h64
  have HC := Lib.hid hc
  generalize l.getD (l.length - 1) 0 = z at *
  clear hc h64
  clear hx hr hw
  have mk8 := mk8
  have mk16 := mk16
  go_enter Try.func10, Try.ntmps10
  go_wp2_with fail
  refine (right_any _ l c _ HX.out).mono ?_
  rintro e w' ⟨rfl, rfl⟩
  rw [HR.out]
  go_wp2_with fail
  have kb0 : Blk ((w'.alloc (.cells #[.int .u8 0, .int .u8 0, .int .u8 0, .int .u8 0, .int .u8 0, .int .u8 0, .int .u8 0, .int .u8 0] 5)).alloc (.cells #[.int .u8 128, .int .u8 0, .int .u8 0, .int .u8 0, .int .u8 0, .int .u8 0, .int .u8 0, .int .u8 0, .int .u8 0, .int .u8 0, .int .u8 0, .int .u8 0, .int .u8 0, .int .u8 0, .int .u8 0, .int .u8 0] 5)) (w'.heap.size + 1) 5 (bytesA (setK true (l.take 0)) 16) := by
    have := Blk.new (w'.alloc (.cells #[.int .u8 0, .int .u8 0, .int .u8 0, .int .u8 0, .int .u8 0, .int .u8 0, .int .u8 0, .int .u8 0] 5)) 5 #[.int .u8 128, .int .u8 0, .int .u8 0, .int .u8 0, .int .u8 0, .int .u8 0, .int .u8 0, .int .u8 0, .int .u8 0, .int .u8 0, .int .u8 0, .int .u8 0, .int .u8 0, .int .u8 0, .int .u8 0, .int .u8 0]
    rw [World.size_alloc] at this
    exact this.trans (by rw [List.take_zero, bytesA_one])
  have HB0 : Hid (Below w'.heap.size w' ((w'.alloc (.cells #[.int .u8 0, .int .u8 0, .int .u8 0, .int .u8 0, .int .u8 0, .int .u8 0, .int .u8 0, .int .u8 0] 5)).alloc (.cells #[.int .u8 128, .int .u8 0, .int .u8 0, .int .u8 0, .int .u8 0, .int .u8 0, .int .u8 0, .int .u8 0, .int .u8 0, .int .u8 0, .int .u8 0, .int .u8 0, .int .u8 0, .int .u8 0, .int .u8 0, .int .u8 0] 5))) := Lib.hid (((Below.refl _ _).alloc (Nat.le_refl _) _).alloc (by simp) _)
  clear hcl d0 d1
  go_loopw [30] (fun i wr => ∃ k : Nat, k ≤ l.length ∧ i = .int .i64 k ∧ Below w'.heap.size w' wr ∧ Blk wr (w'.heap.size + 1) 5 (bytesA (setK true (l.take k)) 16)) (fun i _ => l.length - (intOf i).toNat)
  case atStart => exact ⟨0, by omega, rfl, HB0.out, kb0⟩
  case round =>
    clear kb0 HB0
    obtain ⟨k, hk, rfl, hbl, kb⟩ := hrel
    by_cases hlt : k < l.length
    · obtain ⟨n, hn, hn2, hn128, hjm⟩ := place_room HR.out HW.out hlt
      obtain ⟨p1, p2⟩ := place_nat (n := n) (by omega) hn128
      have hc := HC.out
      have hck : wr.cell? ⟨b, off + k, none⟩ = some (.int .i64 (n : Int)) := by rw [← hn]; exact (hbl.cell (p := ⟨b, off + k, none⟩) hb).trans (hc k hlt)
      have HS := Lib.hid (setK_take (b := true) hlt hn)
      have hj16 : (n - 1) / 8 < 16 := by simpa using hjm
      have HU := Lib.hid (bytesA_upd (setK true (l.take k)) 16 n (by omega))
      have hO := or_byte (setK true (l.take k)) n (by omega)
      have HG := Lib.hid (bytesA_get (setK true (l.take k)) hj16)
      have HP : Hid (∀ W, Calls Try.prog 12 #[.int .i64 n] W fun e w' => e = .returned (.tuple #[.int .i64 (((n - 1) / 8 : Nat) : Int), .int .u8 ((2 ^ (7 - (n - 1) % 8) : Nat) : Int)]) ∧ Below W.heap.size W w') := Lib.hid fun W => by
        have h := place_any n W
        rwa [p1, p2] at h
      clear hc p1 p2 hn hjm
      generalize 2 ^ (7 - (n - 1) % 8) = q at *
      generalize (n - 1) / 8 = j at *
      have jl : (j : Int) < 16 := by omega
      have Hbl := Lib.hid hbl
      clear hbl
      go_wp2_with fail
      refine (HP.out _).mono ?_
      rintro e w2 ⟨rfl, hb2⟩
      have kb2 := kb.belowSelf hb2
      have hc2 : w2.cell? ⟨(w'.heap.size + 1), j, none⟩ = some (.int .u8 ((byteN (setK true (l.take k)) j : Nat) : Int)) := (kb2.cell j).trans HG.out
      have hf2 := kb2.frozen j
      have HB2 := Lib.hid (Hbl.out.trans (hb2.mono Hbl.out.size))
      clear hb2
      go_wp2_with fail
      go_roundw
      case rel => exact ⟨k + 1, by omega, by go_num, HB2.out.setCell (p := ⟨(w'.heap.size + 1), j, none⟩) (by simp) _, by rw [HS.out]; exact kb2.set_to j _ HU.out⟩
      case measure => simp [intOf]; omega
    · have HE : Hid (bytesL (setK true (l.take k)) 16 = outL l) := Lib.hid (by
        rw [List.take_of_length_le (by omega)]; unfold outL sizeL; rw [HW.out]; rfl)
      have HL : Hid ((outL l).length = 16) := Lib.hid (by rw [outL_len]; unfold sizeL; rw [HW.out]; rfl)
      go_wp2_with fail
      go_ret2
      refine ⟨some ⟨(w'.heap.size + 1), 0, none⟩, 16, by rw [HL.out]; rfl, by rw [HL.out]; omega, ?_, hbl⟩
      rw [← HE.out]
      exact rs_bytes (by omega) kb

set_option maxRecDepth 100000 in
set_option maxHeartbeats 4000000 in
theorem write_narrow (A : Option Addr) (l : List Int) (c : Nat) (w : World) (hx : Ri w A l) (hr : rightL l = true) (hw : wideL l = false) (hl : 0 < l.length) : Calls Try.prog 10 #[.slice A l.length c] w (GivesB .i64 (outL l) 0 w) := by
  have HX := Lib.hid hx
  have HR := Lib.hid hr
  have HW := Lib.hid hw
  have hm := hx.len
  unfold maxLen at hm
  have h0 : 0 < l.length := hl
  have h64 : ¬ 64 < l.getD (l.length - 1) 0 := by unfold wideL at hw; simp at hw; have := hw (by omega); simpa using this
  obtain ⟨b, off, rfl, hb, hc⟩ := hx.cells h0
  have hcl := hc (l.length - 1) (by omega)
  have d0 : decide (0 < l.length) = true := decide_eq_true h0
  have d1 : decide (64 < l.getD (l.length - 1) 0) = false := decide_eq_false h64
  have HC := Lib.hid hc
  generalize l.getD (l.length - 1) 0 = z at *
  clear hc h64 hl
  clear hx hr hw
  have mk8 := mk8
  have mk16 := mk16
  go_enter Try.func10, Try.ntmps10
  go_wp2_with fail
  refine (right_any _ l c _ HX.out).mono ?_
  rintro e w' ⟨rfl, rfl⟩
  rw [HR.out]
  go_wp2_with fail
  have kb0 : Blk (w'.alloc (.cells #[.int .u8 0, .int .u8 0, .int .u8 0, .int .u8 0, .int .u8 0, .int .u8 0, .int .u8 0, .int .u8 0] 5)) w'.heap.size 5 (bytesA (setK false (l.take 0)) 8) := (Blk.new w' 5 _).trans (by rw [zeros8, List.take_zero])
  have HB0 : Hid (Below w'.heap.size w' (w'.alloc (.cells #[.int .u8 0, .int .u8 0, .int .u8 0, .int .u8 0, .int .u8 0, .int .u8 0, .int .u8 0, .int .u8 0] 5))) := Lib.hid ((Below.refl _ _).alloc (Nat.le_refl _) _)
  clear hcl d0 d1
  go_loopw [30] (fun i wr => ∃ k : Nat, k ≤ l.length ∧ i = .int .i64 k ∧ Below w'.heap.size w' wr ∧ Blk wr w'.heap.size 5 (bytesA (setK false (l.take k)) 8)) (fun i _ => l.length - (intOf i).toNat)
  case atStart => exact ⟨0, by omega, rfl, HB0.out, kb0⟩
  case round =>
    clear kb0 HB0
    obtain ⟨k, hk, rfl, hbl, kb⟩ := hrel
    by_cases hlt : k < l.length
    · obtain ⟨n, hn, hn2, hn128, hjm⟩ := place_room HR.out HW.out hlt
      obtain ⟨p1, p2⟩ := place_nat (n := n) (by omega) hn128
      have hc := HC.out
      have hck : wr.cell? ⟨b, off + k, none⟩ = some (.int .i64 (n : Int)) := by rw [← hn]; exact (hbl.cell (p := ⟨b, off + k, none⟩) hb).trans (hc k hlt)
      have HS := Lib.hid (setK_take (b := false) hlt hn)
      have hj16 : (n - 1) / 8 < 8 := by simpa using hjm
      have HU := Lib.hid (bytesA_upd (setK false (l.take k)) 8 n (by omega))
      have hO := or_byte (setK false (l.take k)) n (by omega)
      have HG := Lib.hid (bytesA_get (setK false (l.take k)) hj16)
      have HP : Hid (∀ W, Calls Try.prog 12 #[.int .i64 n] W fun e w' => e = .returned (.tuple #[.int .i64 (((n - 1) / 8 : Nat) : Int), .int .u8 ((2 ^ (7 - (n - 1) % 8) : Nat) : Int)]) ∧ Below W.heap.size W w') := Lib.hid fun W => by
        have h := place_any n W
        rwa [p1, p2] at h
      clear hc p1 p2 hn hjm
      generalize 2 ^ (7 - (n - 1) % 8) = q at *
      generalize (n - 1) / 8 = j at *
      have jl : (j : Int) < 8 := by omega
      have Hbl := Lib.hid hbl
      clear hbl
      go_wp2_with fail
      refine (HP.out _).mono ?_
      rintro e w2 ⟨rfl, hb2⟩
      have kb2 := kb.belowSelf hb2
      have hc2 : w2.cell? ⟨w'.heap.size, j, none⟩ = some (.int .u8 ((byteN (setK false (l.take k)) j : Nat) : Int)) := (kb2.cell j).trans HG.out
      have hf2 := kb2.frozen j
      have HB2 := Lib.hid (Hbl.out.trans (hb2.mono Hbl.out.size))
      clear hb2
      go_wp2_with fail
      go_roundw
      case rel => exact ⟨k + 1, by omega, by go_num, HB2.out.setCell (p := ⟨w'.heap.size, j, none⟩) (by simp) _, by rw [HS.out]; exact kb2.set_to j _ HU.out⟩
      case measure => simp [intOf]; omega
    · have HE : Hid (bytesL (setK false (l.take k)) 8 = outL l) := Lib.hid (by
        rw [List.take_of_length_le (by omega)]; unfold outL sizeL; rw [HW.out]; rfl)
      have HL : Hid ((outL l).length = 8) := Lib.hid (by rw [outL_len]; unfold sizeL; rw [HW.out]; rfl)
      go_wp2_with fail
      go_ret2
      refine ⟨some ⟨w'.heap.size, 0, none⟩, 8, by rw [HL.out]; rfl, by rw [HL.out]; omega, ?_, hbl⟩
      rw [← HE.out]
      exact rs_bytes (by omega) kb

set_option maxRecDepth 100000 in
set_option maxHeartbeats 4000000 in
theorem write_empty (A : Option Addr) (l : List Int) (c : Nat) (w : World) (hx : Ri w A l) (hr : rightL l = true) (hw : wideL l = false) (hl : l.length = 0) : Calls Try.prog 10 #[.slice A l.length c] w (GivesB .i64 (outL l) 0 w) := by
  have HX := Lib.hid hx
  have HR := Lib.hid hr
  have HW := Lib.hid hw
  have hm := hx.len
  unfold maxLen at hm
  have d0 : decide (0 < l.length) = false := decide_eq_false (by omega)
  clear hl
  clear hx hr hw
  have mk8 := mk8
  have mk16 := mk16
  go_enter Try.func10, Try.ntmps10
  go_wp2_with fail
  refine (right_any _ l c _ HX.out).mono ?_
  rintro e w' ⟨rfl, rfl⟩
  rw [HR.out]
  go_wp2_with fail
  have kb0 : Blk (w'.alloc (.cells #[.int .u8 0, .int .u8 0, .int .u8 0, .int .u8 0, .int .u8 0, .int .u8 0, .int .u8 0, .int .u8 0] 5)) w'.heap.size 5 (bytesA (setK false (l.take 0)) 8) := (Blk.new w' 5 _).trans (by rw [zeros8, List.take_zero])
  have HB0 : Hid (Below w'.heap.size w' (w'.alloc (.cells #[.int .u8 0, .int .u8 0, .int .u8 0, .int .u8 0, .int .u8 0, .int .u8 0, .int .u8 0, .int .u8 0] 5))) := Lib.hid ((Below.refl _ _).alloc (Nat.le_refl _) _)
  clear d0
  go_loopw [30] (fun i wr => ∃ k : Nat, k ≤ l.length ∧ i = .int .i64 k ∧ Below w'.heap.size w' wr ∧ Blk wr w'.heap.size 5 (bytesA (setK false (l.take k)) 8)) (fun i _ => l.length - (intOf i).toNat)
  case atStart => exact ⟨0, by omega, rfl, HB0.out, kb0⟩
  case round =>
    clear kb0 HB0
    obtain ⟨k, hk, rfl, hbl, kb⟩ := hrel
    by_cases hlt : k < l.length
    · obtain ⟨n, hn, hn2, hn128, hjm⟩ := place_room HR.out HW.out hlt
      obtain ⟨p1, p2⟩ := place_nat (n := n) (by omega) hn128
      obtain ⟨b, off, rfl, hb, hc⟩ := HX.out.cells (by omega)
      have hck : wr.cell? ⟨b, off + k, none⟩ = some (.int .i64 (n : Int)) := by rw [← hn]; exact (hbl.cell (p := ⟨b, off + k, none⟩) hb).trans (hc k hlt)
      have HS := Lib.hid (setK_take (b := false) hlt hn)
      have hj16 : (n - 1) / 8 < 8 := by simpa using hjm
      have HU := Lib.hid (bytesA_upd (setK false (l.take k)) 8 n (by omega))
      have hO := or_byte (setK false (l.take k)) n (by omega)
      have HG := Lib.hid (bytesA_get (setK false (l.take k)) hj16)
      have HP : Hid (∀ W, Calls Try.prog 12 #[.int .i64 n] W fun e w' => e = .returned (.tuple #[.int .i64 (((n - 1) / 8 : Nat) : Int), .int .u8 ((2 ^ (7 - (n - 1) % 8) : Nat) : Int)]) ∧ Below W.heap.size W w') := Lib.hid fun W => by
        have h := place_any n W
        rwa [p1, p2] at h
      clear hc p1 p2 hn hjm
      generalize 2 ^ (7 - (n - 1) % 8) = q at *
      generalize (n - 1) / 8 = j at *
      have jl : (j : Int) < 8 := by omega
      have Hbl := Lib.hid hbl
      clear hbl
      go_wp2_with fail
      refine (HP.out _).mono ?_
      rintro e w2 ⟨rfl, hb2⟩
      have kb2 := kb.belowSelf hb2
      have hc2 : w2.cell? ⟨w'.heap.size, j, none⟩ = some (.int .u8 ((byteN (setK false (l.take k)) j : Nat) : Int)) := (kb2.cell j).trans HG.out
      have hf2 := kb2.frozen j
      have HB2 := Lib.hid (Hbl.out.trans (hb2.mono Hbl.out.size))
      clear hb2
      go_wp2_with fail
      go_roundw
      case rel => exact ⟨k + 1, by omega, by go_num, HB2.out.setCell (p := ⟨w'.heap.size, j, none⟩) (by simp) _, by rw [HS.out]; exact kb2.set_to j _ HU.out⟩
      case measure => simp [intOf]; omega
    · have HE : Hid (bytesL (setK false (l.take k)) 8 = outL l) := Lib.hid (by
        rw [List.take_of_length_le (by omega)]; unfold outL sizeL; rw [HW.out]; rfl)
      have HL : Hid ((outL l).length = 8) := Lib.hid (by rw [outL_len]; unfold sizeL; rw [HW.out]; rfl)
      go_wp2_with fail
      go_ret2
      refine ⟨some ⟨w'.heap.size, 0, none⟩, 8, by rw [HL.out]; rfl, by rw [HL.out]; omega, ?_, hbl⟩
      rw [← HE.out]
      exact rs_bytes (by omega) kb

theorem write_ok (A : Option Addr) (l : List Int) (c : Nat) (w : World) (hx : Ri w A l) (hr : rightL l = true) : Calls Try.prog 10 #[.slice A l.length c] w (GivesB .i64 (outL l) 0 w) := by
  cases hw : wideL l
  · by_cases hl : 0 < l.length
    · exact write_narrow A l c w hx hr hw hl
    · exact write_empty A l c w hx hr hw (by omega)
  · exact write_wide A l c w hx hr hw
end Go.Proofs.Ytalmgpcffbccoaa
