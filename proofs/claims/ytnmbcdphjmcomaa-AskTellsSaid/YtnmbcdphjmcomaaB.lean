/- Contracts: Same, none, Match, Right. -/
import Derived.Test.YtnmbcdphjmcomaaA
namespace Go.Proofs.Ytnmbcdphjmcomaa
open Go.RowKit

def sameB (c s d l : Int) (xs : List Int) (c' s' d' l' : Int) (ys : List Int) : Bool := c == c' && s == s' && d == d' && l == l' && sameL xs ys
def noneB (c s d l : Int) (n : Nat) : Bool := c == 0 && s == 0 && d == 0 && l == 0 && n == 0
theorem sameB_none (c s d l : Int) (xs : List Int) : sameB c s d l xs 0 0 0 0 [] = noneB c s d l xs.length := by unfold sameB noneB; rw [sameL_nil]
def rightB (c s d l : Int) (n : Nat) : Bool := noneB c s d l n || (fitsB c s n && decide (1 ≤ d) && decide (d ≤ 8) && decide (0 ≤ l) && decide (l ≤ 3))
def matchB (c s d l : Int) (n : Nat) (code stan : Int) : Bool := !noneB c s d l n && c == code && s == stan

set_option maxRecDepth 100000 in
set_option maxHeartbeats 2000000 in
theorem same_any (c s d l : Int) (A : Option Addr) (xs : List Int) (cp : Nat) (c' s' d' l' : Int) (A' : Option Addr) (ys : List Int) (cp' : Nat) (w : World) (hx : Rb w A xs) (hy : Rb w A' ys) :
    Calls Try.prog 18 #[askV c s d l A xs.length cp, askV c' s' d' l' A' ys.length cp'] w fun e w' => e = .returned (.bool (sameB c s d l xs c' s' d' l' ys)) ∧ Below w.heap.size w w' := by
  have HB := Lib.hid (((Below.refl w.heap.size w).alloc (Nat.le_refl _) (Obj.cells #[.int .i64 c, .int .i64 s, .int .i64 d, .int .i64 l, .slice A xs.length cp] 24)).alloc (by simp) (Obj.cells #[.int .i64 c', .int .i64 s', .int .i64 d', .int .i64 l', .slice A' ys.length cp'] 24))
  have HX := Lib.hid ((hx.alloc (Obj.cells #[.int .i64 c, .int .i64 s, .int .i64 d, .int .i64 l, .slice A xs.length cp] 24)).alloc (Obj.cells #[.int .i64 c', .int .i64 s', .int .i64 d', .int .i64 l', .slice A' ys.length cp'] 24))
  have HY := Lib.hid ((hy.alloc (Obj.cells #[.int .i64 c, .int .i64 s, .int .i64 d, .int .i64 l, .slice A xs.length cp] 24)).alloc (Obj.cells #[.int .i64 c', .int .i64 s', .int .i64 d', .int .i64 l', .slice A' ys.length cp'] 24))
  clear hx hy
  cases e0 : (c == c')
  · have HV : Hid (sameB c s d l xs c' s' d' l' ys = false) := by show _ = _; unfold sameB; simp [e0]
    go_enter Try.func18, Try.ntmps18
    go_wp2_with fail
    go_ret
    exact ⟨by rw [HV.out]; rfl, HB.out⟩
  cases e1 : (s == s')
  · have HV : Hid (sameB c s d l xs c' s' d' l' ys = false) := by show _ = _; unfold sameB; simp [e0, e1]
    go_enter Try.func18, Try.ntmps18
    go_wp2_with fail
    go_ret
    exact ⟨by rw [HV.out]; rfl, HB.out⟩
  cases e2 : (d == d')
  · have HV : Hid (sameB c s d l xs c' s' d' l' ys = false) := by show _ = _; unfold sameB; simp [e0, e1, e2]
    go_enter Try.func18, Try.ntmps18
    go_wp2_with fail
    go_ret
    exact ⟨by rw [HV.out]; rfl, HB.out⟩
  cases e3 : (l == l')
  · have HV : Hid (sameB c s d l xs c' s' d' l' ys = false) := by show _ = _; unfold sameB; simp [e0, e1, e2, e3]
    go_enter Try.func18, Try.ntmps18
    go_wp2_with fail
    go_ret
    exact ⟨by rw [HV.out]; rfl, HB.out⟩
  have HV : Hid (sameB c s d l xs c' s' d' l' ys = sameL xs ys) := by show _ = _; unfold sameB; simp [e0, e1, e2, e3]
  go_enter Try.func18, Try.ntmps18
  go_wp2_with fail
  refine (equal_any _ _ _ _ _ _ _ HX.out HY.out).mono ?_
  rintro e w' ⟨rfl, rfl⟩
  go_wp2_with fail
  go_ret
  exact ⟨by rw [HV.out]; rfl, HB.out⟩

set_option maxRecDepth 100000 in
set_option maxHeartbeats 2000000 in
theorem rsameA_any (c s d l : Int) (A : Option Addr) (xs : List Int) (cp : Nat) (c' s' d' l' : Int) (A' : Option Addr) (ys : List Int) (cp' : Nat) (w : World) (hx : Rb w A xs) (hy : Rb w A' ys) :
    Calls Try.prog 12 #[askV c s d l A xs.length cp, askV c' s' d' l' A' ys.length cp'] w fun e w' => e = .returned (.bool (sameB c s d l xs c' s' d' l' ys)) ∧ Below w.heap.size w w' := by
  have HB := Lib.hid (((Below.refl w.heap.size w).alloc (Nat.le_refl _) (Obj.cells #[.int .i64 c, .int .i64 s, .int .i64 d, .int .i64 l, .slice A xs.length cp] 24)).alloc (by simp) (Obj.cells #[.int .i64 c', .int .i64 s', .int .i64 d', .int .i64 l', .slice A' ys.length cp'] 24))
  have HX := Lib.hid ((hx.alloc (Obj.cells #[.int .i64 c, .int .i64 s, .int .i64 d, .int .i64 l, .slice A xs.length cp] 24)).alloc (Obj.cells #[.int .i64 c', .int .i64 s', .int .i64 d', .int .i64 l', .slice A' ys.length cp'] 24))
  have HY := Lib.hid ((hy.alloc (Obj.cells #[.int .i64 c, .int .i64 s, .int .i64 d, .int .i64 l, .slice A xs.length cp] 24)).alloc (Obj.cells #[.int .i64 c', .int .i64 s', .int .i64 d', .int .i64 l', .slice A' ys.length cp'] 24))
  clear hx hy
  cases e0 : (c == c')
  · have HV : Hid (sameB c s d l xs c' s' d' l' ys = false) := by show _ = _; unfold sameB; simp [e0]
    go_enter Try.func12, Try.ntmps12
    go_wp2_with fail
    go_ret
    exact ⟨by rw [HV.out]; rfl, HB.out⟩
  cases e1 : (s == s')
  · have HV : Hid (sameB c s d l xs c' s' d' l' ys = false) := by show _ = _; unfold sameB; simp [e0, e1]
    go_enter Try.func12, Try.ntmps12
    go_wp2_with fail
    go_ret
    exact ⟨by rw [HV.out]; rfl, HB.out⟩
  cases e2 : (d == d')
  · have HV : Hid (sameB c s d l xs c' s' d' l' ys = false) := by show _ = _; unfold sameB; simp [e0, e1, e2]
    go_enter Try.func12, Try.ntmps12
    go_wp2_with fail
    go_ret
    exact ⟨by rw [HV.out]; rfl, HB.out⟩
  cases e3 : (l == l')
  · have HV : Hid (sameB c s d l xs c' s' d' l' ys = false) := by show _ = _; unfold sameB; simp [e0, e1, e2, e3]
    go_enter Try.func12, Try.ntmps12
    go_wp2_with fail
    go_ret
    exact ⟨by rw [HV.out]; rfl, HB.out⟩
  have HV : Hid (sameB c s d l xs c' s' d' l' ys = sameL xs ys) := by show _ = _; unfold sameB; simp [e0, e1, e2, e3]
  go_enter Try.func12, Try.ntmps12
  go_wp2_with fail
  refine (rsame_any _ _ _ _ _ _ _ HX.out HY.out).mono ?_
  rintro e w' ⟨rfl, rfl⟩
  go_wp2_with fail
  go_ret
  exact ⟨by rw [HV.out]; rfl, HB.out⟩

set_option maxRecDepth 100000 in
set_option maxHeartbeats 2000000 in
theorem none_any (c s d l : Int) (A : Option Addr) (xs : List Int) (cp : Nat) (w : World) (hx : Rb w A xs) :
    Calls Try.prog 27 #[askV c s d l A xs.length cp] w fun e w' => e = .returned (.bool (noneB c s d l xs.length)) ∧ Below w.heap.size w w' := by
  have HB := Lib.hid ((Below.refl w.heap.size w).alloc (Nat.le_refl _) (Obj.cells #[.int .i64 c, .int .i64 s, .int .i64 d, .int .i64 l, .slice A xs.length cp] 24))
  have HX := Lib.hid (hx.alloc (Obj.cells #[.int .i64 c, .int .i64 s, .int .i64 d, .int .i64 l, .slice A xs.length cp] 24))
  clear hx
  go_enter Try.func27, Try.ntmps27
  go_wp2_with fail
  refine (same_any c s d l A xs cp 0 0 0 0 none [] 0 _ HX.out (Rb.nil _ _)).mono ?_
  rintro e w' ⟨rfl, hb⟩
  rw [sameB_none]
  have HB2 := Lib.hid (HB.out.trans (hb.mono (by simp))); clear hb
  go_wp2_with fail
  go_ret
  exact ⟨rfl, HB2.out⟩

set_option maxRecDepth 100000 in
set_option maxHeartbeats 2000000 in
theorem rnone_any (c s d l : Int) (A : Option Addr) (xs : List Int) (cp : Nat) (w : World) (_hn : xs.length ≤ maxLen) :
    Calls Try.prog 23 #[askV c s d l A xs.length cp] w fun e w' => e = .returned (.bool (noneB c s d l xs.length)) ∧ Below w.heap.size w w' := by
  have HB := Lib.hid ((Below.refl w.heap.size w).alloc (Nat.le_refl _) (Obj.cells #[.int .i64 c, .int .i64 s, .int .i64 d, .int .i64 l, .slice A xs.length cp] 24))
  generalize xs.length = n at *
  cases e0 : (c == 0)
  · have HV : Hid (noneB c s d l n = false) := by show _ = _; unfold noneB; simp [e0]
    go_enter Try.func23, Try.ntmps23
    go_wp2_with fail
    go_ret
    exact ⟨by rw [HV.out]; rfl, HB.out⟩
  cases e1 : (s == 0)
  · have HV : Hid (noneB c s d l n = false) := by show _ = _; unfold noneB; simp [e0, e1]
    go_enter Try.func23, Try.ntmps23
    go_wp2_with fail
    go_ret
    exact ⟨by rw [HV.out]; rfl, HB.out⟩
  cases e2 : (d == 0)
  · have HV : Hid (noneB c s d l n = false) := by show _ = _; unfold noneB; simp [e0, e1, e2]
    go_enter Try.func23, Try.ntmps23
    go_wp2_with fail
    go_ret
    exact ⟨by rw [HV.out]; rfl, HB.out⟩
  cases e3 : (l == 0)
  · have HV : Hid (noneB c s d l n = false) := by show _ = _; unfold noneB; simp [e0, e1, e2, e3]
    go_enter Try.func23, Try.ntmps23
    go_wp2_with fail
    go_ret
    exact ⟨by rw [HV.out]; rfl, HB.out⟩
  have HV : Hid (noneB c s d l n = (n == 0)) := by show _ = _; unfold noneB; simp [e0, e1, e2, e3]
  cases e4 : (n == 0)
  · rw [e4] at HV
    have e5 : ((n : Int) == 0) = false := by simpa using e4
    have e6 : decide (n = 0) = false := by simpa using e4
    go_enter Try.func23, Try.ntmps23
    go_wp2_with fail
    go_ret
    exact ⟨by rw [HV.out]; rfl, HB.out⟩
  · rw [e4] at HV
    have e5 : ((n : Int) == 0) = true := by simpa using e4
    have e6 : decide (n = 0) = true := by simpa using e4
    go_enter Try.func23, Try.ntmps23
    go_wp2_with fail
    go_ret
    exact ⟨by rw [HV.out]; rfl, HB.out⟩

set_option maxRecDepth 100000 in
set_option maxHeartbeats 2000000 in
theorem match_any (c s d l : Int) (A : Option Addr) (xs : List Int) (cp : Nat) (code stan : Int) (w : World) (hx : Rb w A xs) :
    Calls Try.prog 19 #[askV c s d l A xs.length cp, .int .i64 code, .int .i64 stan] w fun e w' => e = .returned (.bool (matchB c s d l xs.length code stan)) ∧ Below w.heap.size w w' := by
  have HB := Lib.hid ((Below.refl w.heap.size w).alloc (Nat.le_refl _) (Obj.cells #[.int .i64 c, .int .i64 s, .int .i64 d, .int .i64 l, .slice A xs.length cp] 24))
  have HX := Lib.hid (hx.alloc (Obj.cells #[.int .i64 c, .int .i64 s, .int .i64 d, .int .i64 l, .slice A xs.length cp] 24))
  have b0 := Blk.new w 24 #[.int .i64 c, .int .i64 s, .int .i64 d, .int .i64 l, .slice A xs.length cp]
  clear hx
  cases hn : noneB c s d l xs.length
  rotate_left
  · have HV : Hid (matchB c s d l xs.length code stan = false) := by show _ = _; unfold matchB; simp [*]
    have HN := Lib.hid hn
    clear hn
    go_enter Try.func19, Try.ntmps19
    go_wp2_with fail
    refine (none_any c s d l A xs cp _ HX.out).mono ?_
    rintro e w1 ⟨rfl, hb⟩
    rw [HN.out]
    have b1 := b0.belowSelf hb
    have q0 : w1.cell? ⟨w.heap.size, 0, none⟩ = some (.int .i64 c) := b1.cell 0
    have q1 : w1.cell? ⟨w.heap.size, 1, none⟩ = some (.int .i64 s) := b1.cell 1
    have HB2 := Lib.hid (HB.out.trans (hb.mono (by simp))); clear hb
    go_wp2_with fail
    go_ret
    exact ⟨by rw [HV.out]; rfl, HB2.out⟩
  cases e0 : (c == code)
  · have HV : Hid (matchB c s d l xs.length code stan = false) := by show _ = _; unfold matchB; simp [*]
    have HN := Lib.hid hn
    clear hn
    go_enter Try.func19, Try.ntmps19
    go_wp2_with fail
    refine (none_any c s d l A xs cp _ HX.out).mono ?_
    rintro e w1 ⟨rfl, hb⟩
    rw [HN.out]
    have b1 := b0.belowSelf hb
    have q0 : w1.cell? ⟨w.heap.size, 0, none⟩ = some (.int .i64 c) := b1.cell 0
    have q1 : w1.cell? ⟨w.heap.size, 1, none⟩ = some (.int .i64 s) := b1.cell 1
    have HB2 := Lib.hid (HB.out.trans (hb.mono (by simp))); clear hb
    go_wp2_with fail
    go_ret
    exact ⟨by rw [HV.out]; rfl, HB2.out⟩
  cases e1 : (s == stan)
  · have HV : Hid (matchB c s d l xs.length code stan = false) := by show _ = _; unfold matchB; simp [*]
    have HN := Lib.hid hn
    clear hn
    go_enter Try.func19, Try.ntmps19
    go_wp2_with fail
    refine (none_any c s d l A xs cp _ HX.out).mono ?_
    rintro e w1 ⟨rfl, hb⟩
    rw [HN.out]
    have b1 := b0.belowSelf hb
    have q0 : w1.cell? ⟨w.heap.size, 0, none⟩ = some (.int .i64 c) := b1.cell 0
    have q1 : w1.cell? ⟨w.heap.size, 1, none⟩ = some (.int .i64 s) := b1.cell 1
    have HB2 := Lib.hid (HB.out.trans (hb.mono (by simp))); clear hb
    go_wp2_with fail
    go_ret
    exact ⟨by rw [HV.out]; rfl, HB2.out⟩
  · have HV : Hid (matchB c s d l xs.length code stan = true) := by show _ = _; unfold matchB; simp [*]
    have HN := Lib.hid hn
    clear hn
    go_enter Try.func19, Try.ntmps19
    go_wp2_with fail
    refine (none_any c s d l A xs cp _ HX.out).mono ?_
    rintro e w1 ⟨rfl, hb⟩
    rw [HN.out]
    have b1 := b0.belowSelf hb
    have q0 : w1.cell? ⟨w.heap.size, 0, none⟩ = some (.int .i64 c) := b1.cell 0
    have q1 : w1.cell? ⟨w.heap.size, 1, none⟩ = some (.int .i64 s) := b1.cell 1
    have HB2 := Lib.hid (HB.out.trans (hb.mono (by simp))); clear hb
    go_wp2_with fail
    go_ret
    exact ⟨by rw [HV.out]; rfl, HB2.out⟩

set_option maxRecDepth 100000 in
set_option maxHeartbeats 2000000 in
theorem rmatch_any (c s d l : Int) (A : Option Addr) (xs : List Int) (cp : Nat) (code stan : Int) (w : World) (hx : Rb w A xs) :
    Calls Try.prog 20 #[askV c s d l A xs.length cp, .int .i64 code, .int .i64 stan] w fun e w' => e = .returned (.bool (matchB c s d l xs.length code stan)) ∧ Below w.heap.size w w' := by
  have HB := Lib.hid ((Below.refl w.heap.size w).alloc (Nat.le_refl _) (Obj.cells #[.int .i64 c, .int .i64 s, .int .i64 d, .int .i64 l, .slice A xs.length cp] 24))
  have HX := Lib.hid (hx.alloc (Obj.cells #[.int .i64 c, .int .i64 s, .int .i64 d, .int .i64 l, .slice A xs.length cp] 24))
  have b0 := Blk.new w 24 #[.int .i64 c, .int .i64 s, .int .i64 d, .int .i64 l, .slice A xs.length cp]
  clear hx
  cases hn : noneB c s d l xs.length
  rotate_left
  · have HV : Hid (matchB c s d l xs.length code stan = false) := by show _ = _; unfold matchB; simp [*]
    have HN := Lib.hid hn
    clear hn
    go_enter Try.func20, Try.ntmps20
    go_wp2_with fail
    refine (rnone_any c s d l A xs cp _ HX.out.len).mono ?_
    rintro e w1 ⟨rfl, hb⟩
    rw [HN.out]
    have b1 := b0.belowSelf hb
    have q0 : w1.cell? ⟨w.heap.size, 0, none⟩ = some (.int .i64 c) := b1.cell 0
    have q1 : w1.cell? ⟨w.heap.size, 1, none⟩ = some (.int .i64 s) := b1.cell 1
    have HB2 := Lib.hid (HB.out.trans (hb.mono (by simp))); clear hb
    go_wp2_with fail
    go_ret
    exact ⟨by rw [HV.out]; rfl, HB2.out⟩
  cases e0 : (c == code)
  · have HV : Hid (matchB c s d l xs.length code stan = false) := by show _ = _; unfold matchB; simp [*]
    have HN := Lib.hid hn
    clear hn
    go_enter Try.func20, Try.ntmps20
    go_wp2_with fail
    refine (rnone_any c s d l A xs cp _ HX.out.len).mono ?_
    rintro e w1 ⟨rfl, hb⟩
    rw [HN.out]
    have b1 := b0.belowSelf hb
    have q0 : w1.cell? ⟨w.heap.size, 0, none⟩ = some (.int .i64 c) := b1.cell 0
    have q1 : w1.cell? ⟨w.heap.size, 1, none⟩ = some (.int .i64 s) := b1.cell 1
    have HB2 := Lib.hid (HB.out.trans (hb.mono (by simp))); clear hb
    go_wp2_with fail
    go_ret
    exact ⟨by rw [HV.out]; rfl, HB2.out⟩
  cases e1 : (s == stan)
  · have HV : Hid (matchB c s d l xs.length code stan = false) := by show _ = _; unfold matchB; simp [*]
    have HN := Lib.hid hn
    clear hn
    go_enter Try.func20, Try.ntmps20
    go_wp2_with fail
    refine (rnone_any c s d l A xs cp _ HX.out.len).mono ?_
    rintro e w1 ⟨rfl, hb⟩
    rw [HN.out]
    have b1 := b0.belowSelf hb
    have q0 : w1.cell? ⟨w.heap.size, 0, none⟩ = some (.int .i64 c) := b1.cell 0
    have q1 : w1.cell? ⟨w.heap.size, 1, none⟩ = some (.int .i64 s) := b1.cell 1
    have HB2 := Lib.hid (HB.out.trans (hb.mono (by simp))); clear hb
    go_wp2_with fail
    go_ret
    exact ⟨by rw [HV.out]; rfl, HB2.out⟩
  · have HV : Hid (matchB c s d l xs.length code stan = true) := by show _ = _; unfold matchB; simp [*]
    have HN := Lib.hid hn
    clear hn
    go_enter Try.func20, Try.ntmps20
    go_wp2_with fail
    refine (rnone_any c s d l A xs cp _ HX.out.len).mono ?_
    rintro e w1 ⟨rfl, hb⟩
    rw [HN.out]
    have b1 := b0.belowSelf hb
    have q0 : w1.cell? ⟨w.heap.size, 0, none⟩ = some (.int .i64 c) := b1.cell 0
    have q1 : w1.cell? ⟨w.heap.size, 1, none⟩ = some (.int .i64 s) := b1.cell 1
    have HB2 := Lib.hid (HB.out.trans (hb.mono (by simp))); clear hb
    go_wp2_with fail
    go_ret
    exact ⟨by rw [HV.out]; rfl, HB2.out⟩

set_option maxRecDepth 100000 in
set_option maxHeartbeats 2000000 in
theorem right_any (c s d l : Int) (A : Option Addr) (xs : List Int) (cp : Nat) (w : World) (hx : Rb w A xs) :
    Calls Try.prog 17 #[askV c s d l A xs.length cp] w fun e w' => e = .returned (.bool (rightB c s d l xs.length)) ∧ Below w.heap.size w w' := by
  have HB := Lib.hid ((Below.refl w.heap.size w).alloc (Nat.le_refl _) (Obj.cells #[.int .i64 c, .int .i64 s, .int .i64 d, .int .i64 l, .slice A xs.length cp] 24))
  have HX := Lib.hid (hx.alloc (Obj.cells #[.int .i64 c, .int .i64 s, .int .i64 d, .int .i64 l, .slice A xs.length cp] 24))
  have b0 := Blk.new w 24 #[.int .i64 c, .int .i64 s, .int .i64 d, .int .i64 l, .slice A xs.length cp]
  clear hx
  cases hn : noneB c s d l xs.length
  rotate_left
  · have HV : Hid (rightB c s d l xs.length = true) := by show _ = _; unfold rightB; simp [*]
    have HN := Lib.hid hn
    clear hn
    go_enter Try.func17, Try.ntmps17
    go_wp2_with fail
    refine (none_any c s d l A xs cp _ HX.out).mono ?_
    rintro e w1 ⟨rfl, hb⟩
    rw [HN.out]
    have b1 := b0.belowSelf hb
    have q0 : w1.cell? ⟨w.heap.size, 0, none⟩ = some ((.int .i64 c)) := b1.cell 0
    have q1 : w1.cell? ⟨w.heap.size, 1, none⟩ = some ((.int .i64 s)) := b1.cell 1
    have q2 : w1.cell? ⟨w.heap.size, 2, none⟩ = some ((.int .i64 d)) := b1.cell 2
    have q3 : w1.cell? ⟨w.heap.size, 3, none⟩ = some ((.int .i64 l)) := b1.cell 3
    have q4 : w1.cell? ⟨w.heap.size, 4, none⟩ = some (.slice A xs.length cp) := b1.cell 4
    have HB2 := Lib.hid (HB.out.trans (hb.mono (by simp))); clear hb
    go_wp2_with fail
    go_ret
    exact ⟨by rw [HV.out]; rfl, HB2.out⟩
  cases hf : fitsB c s xs.length
  · have HV : Hid (rightB c s d l xs.length = false) := by show _ = _; unfold rightB; simp [*]
    have HN := Lib.hid hn
    have HF := Lib.hid hf
    clear hf
    clear hn
    go_enter Try.func17, Try.ntmps17
    go_wp2_with fail
    refine (none_any c s d l A xs cp _ HX.out).mono ?_
    rintro e w1 ⟨rfl, hb⟩
    rw [HN.out]
    have b1 := b0.belowSelf hb
    have q0 : w1.cell? ⟨w.heap.size, 0, none⟩ = some ((.int .i64 c)) := b1.cell 0
    have q1 : w1.cell? ⟨w.heap.size, 1, none⟩ = some ((.int .i64 s)) := b1.cell 1
    have q2 : w1.cell? ⟨w.heap.size, 2, none⟩ = some ((.int .i64 d)) := b1.cell 2
    have q3 : w1.cell? ⟨w.heap.size, 3, none⟩ = some ((.int .i64 l)) := b1.cell 3
    have q4 : w1.cell? ⟨w.heap.size, 4, none⟩ = some (.slice A xs.length cp) := b1.cell 4
    have HB2 := Lib.hid (HB.out.trans (hb.mono (by simp))); clear hb
    go_wp2_with fail
    refine (fits_any c s A xs.length cp _ HX.out.len).mono ?_
    rintro e w2 ⟨rfl, rfl⟩
    rw [HF.out]
    go_wp2_with fail
    go_ret
    exact ⟨by rw [HV.out]; rfl, HB2.out⟩
  cases e0 : decide (1 ≤ d)
  · have HV : Hid (rightB c s d l xs.length = false) := by show _ = _; unfold rightB; simp [*]
    have HN := Lib.hid hn
    have HF := Lib.hid hf
    clear hf
    clear hn
    go_enter Try.func17, Try.ntmps17
    go_wp2_with fail
    refine (none_any c s d l A xs cp _ HX.out).mono ?_
    rintro e w1 ⟨rfl, hb⟩
    rw [HN.out]
    have b1 := b0.belowSelf hb
    have q0 : w1.cell? ⟨w.heap.size, 0, none⟩ = some ((.int .i64 c)) := b1.cell 0
    have q1 : w1.cell? ⟨w.heap.size, 1, none⟩ = some ((.int .i64 s)) := b1.cell 1
    have q2 : w1.cell? ⟨w.heap.size, 2, none⟩ = some ((.int .i64 d)) := b1.cell 2
    have q3 : w1.cell? ⟨w.heap.size, 3, none⟩ = some ((.int .i64 l)) := b1.cell 3
    have q4 : w1.cell? ⟨w.heap.size, 4, none⟩ = some (.slice A xs.length cp) := b1.cell 4
    have HB2 := Lib.hid (HB.out.trans (hb.mono (by simp))); clear hb
    go_wp2_with fail
    refine (fits_any c s A xs.length cp _ HX.out.len).mono ?_
    rintro e w2 ⟨rfl, rfl⟩
    rw [HF.out]
    go_wp2_with fail
    go_ret
    exact ⟨by rw [HV.out]; rfl, HB2.out⟩
  cases e1 : decide (d ≤ 8)
  · have HV : Hid (rightB c s d l xs.length = false) := by show _ = _; unfold rightB; simp [*]
    have HN := Lib.hid hn
    have HF := Lib.hid hf
    clear hf
    clear hn
    go_enter Try.func17, Try.ntmps17
    go_wp2_with fail
    refine (none_any c s d l A xs cp _ HX.out).mono ?_
    rintro e w1 ⟨rfl, hb⟩
    rw [HN.out]
    have b1 := b0.belowSelf hb
    have q0 : w1.cell? ⟨w.heap.size, 0, none⟩ = some ((.int .i64 c)) := b1.cell 0
    have q1 : w1.cell? ⟨w.heap.size, 1, none⟩ = some ((.int .i64 s)) := b1.cell 1
    have q2 : w1.cell? ⟨w.heap.size, 2, none⟩ = some ((.int .i64 d)) := b1.cell 2
    have q3 : w1.cell? ⟨w.heap.size, 3, none⟩ = some ((.int .i64 l)) := b1.cell 3
    have q4 : w1.cell? ⟨w.heap.size, 4, none⟩ = some (.slice A xs.length cp) := b1.cell 4
    have HB2 := Lib.hid (HB.out.trans (hb.mono (by simp))); clear hb
    go_wp2_with fail
    refine (fits_any c s A xs.length cp _ HX.out.len).mono ?_
    rintro e w2 ⟨rfl, rfl⟩
    rw [HF.out]
    go_wp2_with fail
    go_ret
    exact ⟨by rw [HV.out]; rfl, HB2.out⟩
  cases e2 : decide (0 ≤ l)
  · have HV : Hid (rightB c s d l xs.length = false) := by show _ = _; unfold rightB; simp [*]
    have HN := Lib.hid hn
    have HF := Lib.hid hf
    clear hf
    clear hn
    go_enter Try.func17, Try.ntmps17
    go_wp2_with fail
    refine (none_any c s d l A xs cp _ HX.out).mono ?_
    rintro e w1 ⟨rfl, hb⟩
    rw [HN.out]
    have b1 := b0.belowSelf hb
    have q0 : w1.cell? ⟨w.heap.size, 0, none⟩ = some ((.int .i64 c)) := b1.cell 0
    have q1 : w1.cell? ⟨w.heap.size, 1, none⟩ = some ((.int .i64 s)) := b1.cell 1
    have q2 : w1.cell? ⟨w.heap.size, 2, none⟩ = some ((.int .i64 d)) := b1.cell 2
    have q3 : w1.cell? ⟨w.heap.size, 3, none⟩ = some ((.int .i64 l)) := b1.cell 3
    have q4 : w1.cell? ⟨w.heap.size, 4, none⟩ = some (.slice A xs.length cp) := b1.cell 4
    have HB2 := Lib.hid (HB.out.trans (hb.mono (by simp))); clear hb
    go_wp2_with fail
    refine (fits_any c s A xs.length cp _ HX.out.len).mono ?_
    rintro e w2 ⟨rfl, rfl⟩
    rw [HF.out]
    go_wp2_with fail
    go_ret
    exact ⟨by rw [HV.out]; rfl, HB2.out⟩
  cases e3 : decide (l ≤ 3)
  · have HV : Hid (rightB c s d l xs.length = false) := by show _ = _; unfold rightB; simp [*]
    have HN := Lib.hid hn
    have HF := Lib.hid hf
    clear hf
    clear hn
    go_enter Try.func17, Try.ntmps17
    go_wp2_with fail
    refine (none_any c s d l A xs cp _ HX.out).mono ?_
    rintro e w1 ⟨rfl, hb⟩
    rw [HN.out]
    have b1 := b0.belowSelf hb
    have q0 : w1.cell? ⟨w.heap.size, 0, none⟩ = some ((.int .i64 c)) := b1.cell 0
    have q1 : w1.cell? ⟨w.heap.size, 1, none⟩ = some ((.int .i64 s)) := b1.cell 1
    have q2 : w1.cell? ⟨w.heap.size, 2, none⟩ = some ((.int .i64 d)) := b1.cell 2
    have q3 : w1.cell? ⟨w.heap.size, 3, none⟩ = some ((.int .i64 l)) := b1.cell 3
    have q4 : w1.cell? ⟨w.heap.size, 4, none⟩ = some (.slice A xs.length cp) := b1.cell 4
    have HB2 := Lib.hid (HB.out.trans (hb.mono (by simp))); clear hb
    go_wp2_with fail
    refine (fits_any c s A xs.length cp _ HX.out.len).mono ?_
    rintro e w2 ⟨rfl, rfl⟩
    rw [HF.out]
    go_wp2_with fail
    go_ret
    exact ⟨by rw [HV.out]; rfl, HB2.out⟩
  have HV : Hid (rightB c s d l xs.length = true) := by show _ = _; unfold rightB; simp [*]
  have HN := Lib.hid hn
  have HF := Lib.hid hf
  clear hf
  clear hn
  go_enter Try.func17, Try.ntmps17
  go_wp2_with fail
  refine (none_any c s d l A xs cp _ HX.out).mono ?_
  rintro e w1 ⟨rfl, hb⟩
  rw [HN.out]
  have b1 := b0.belowSelf hb
  have q0 : w1.cell? ⟨w.heap.size, 0, none⟩ = some ((.int .i64 c)) := b1.cell 0
  have q1 : w1.cell? ⟨w.heap.size, 1, none⟩ = some ((.int .i64 s)) := b1.cell 1
  have q2 : w1.cell? ⟨w.heap.size, 2, none⟩ = some ((.int .i64 d)) := b1.cell 2
  have q3 : w1.cell? ⟨w.heap.size, 3, none⟩ = some ((.int .i64 l)) := b1.cell 3
  have q4 : w1.cell? ⟨w.heap.size, 4, none⟩ = some (.slice A xs.length cp) := b1.cell 4
  have HB2 := Lib.hid (HB.out.trans (hb.mono (by simp))); clear hb
  go_wp2_with fail
  refine (fits_any c s A xs.length cp _ HX.out.len).mono ?_
  rintro e w2 ⟨rfl, rfl⟩
  rw [HF.out]
  go_wp2_with fail
  go_ret
  exact ⟨by rw [HV.out]; rfl, HB2.out⟩

set_option maxRecDepth 100000 in
set_option maxHeartbeats 2000000 in
theorem rright_any (c s d l : Int) (A : Option Addr) (xs : List Int) (cp : Nat) (w : World) (hx : Rb w A xs) :
    Calls Try.prog 11 #[askV c s d l A xs.length cp] w fun e w' => e = .returned (.bool (rightB c s d l xs.length)) ∧ Below w.heap.size w w' := by
  have HB := Lib.hid ((Below.refl w.heap.size w).alloc (Nat.le_refl _) (Obj.cells #[.int .i64 c, .int .i64 s, .int .i64 d, .int .i64 l, .slice A xs.length cp] 24))
  have HX := Lib.hid (hx.alloc (Obj.cells #[.int .i64 c, .int .i64 s, .int .i64 d, .int .i64 l, .slice A xs.length cp] 24))
  have b0 := Blk.new w 24 #[.int .i64 c, .int .i64 s, .int .i64 d, .int .i64 l, .slice A xs.length cp]
  clear hx
  cases hn : noneB c s d l xs.length
  rotate_left
  · have HV : Hid (rightB c s d l xs.length = true) := by show _ = _; unfold rightB; simp [*]
    have HN := Lib.hid hn
    clear hn
    go_enter Try.func11, Try.ntmps11
    go_wp2_with fail
    refine (rnone_any c s d l A xs cp _ HX.out.len).mono ?_
    rintro e w1 ⟨rfl, hb⟩
    rw [HN.out]
    have b1 := b0.belowSelf hb
    have q0 : w1.cell? ⟨w.heap.size, 0, none⟩ = some ((.int .i64 c)) := b1.cell 0
    have q1 : w1.cell? ⟨w.heap.size, 1, none⟩ = some ((.int .i64 s)) := b1.cell 1
    have q2 : w1.cell? ⟨w.heap.size, 2, none⟩ = some ((.int .i64 d)) := b1.cell 2
    have q3 : w1.cell? ⟨w.heap.size, 3, none⟩ = some ((.int .i64 l)) := b1.cell 3
    have q4 : w1.cell? ⟨w.heap.size, 4, none⟩ = some (.slice A xs.length cp) := b1.cell 4
    have HB2 := Lib.hid (HB.out.trans (hb.mono (by simp))); clear hb
    go_wp2_with fail
    refine (rfits_any c s A xs.length cp _ HX.out.len).mono ?_
    rintro e w2 ⟨rfl, rfl⟩
    go_wp2_with fail
    go_ret
    exact ⟨by rw [HV.out]; rfl, HB2.out⟩
  cases hf : fitsB c s xs.length
  · have HV : Hid (rightB c s d l xs.length = false) := by show _ = _; unfold rightB; simp [*]
    have HN := Lib.hid hn
    have HF := Lib.hid hf
    clear hf
    clear hn
    go_enter Try.func11, Try.ntmps11
    go_wp2_with fail
    refine (rnone_any c s d l A xs cp _ HX.out.len).mono ?_
    rintro e w1 ⟨rfl, hb⟩
    rw [HN.out]
    have b1 := b0.belowSelf hb
    have q0 : w1.cell? ⟨w.heap.size, 0, none⟩ = some ((.int .i64 c)) := b1.cell 0
    have q1 : w1.cell? ⟨w.heap.size, 1, none⟩ = some ((.int .i64 s)) := b1.cell 1
    have q2 : w1.cell? ⟨w.heap.size, 2, none⟩ = some ((.int .i64 d)) := b1.cell 2
    have q3 : w1.cell? ⟨w.heap.size, 3, none⟩ = some ((.int .i64 l)) := b1.cell 3
    have q4 : w1.cell? ⟨w.heap.size, 4, none⟩ = some (.slice A xs.length cp) := b1.cell 4
    have HB2 := Lib.hid (HB.out.trans (hb.mono (by simp))); clear hb
    go_wp2_with fail
    refine (rfits_any c s A xs.length cp _ HX.out.len).mono ?_
    rintro e w2 ⟨rfl, rfl⟩
    rw [HF.out]
    go_wp2_with fail
    go_ret
    exact ⟨by rw [HV.out]; rfl, HB2.out⟩
  cases e0 : decide (1 ≤ d)
  · have HV : Hid (rightB c s d l xs.length = false) := by show _ = _; unfold rightB; simp [*]
    have HN := Lib.hid hn
    have HF := Lib.hid hf
    clear hf
    clear hn
    go_enter Try.func11, Try.ntmps11
    go_wp2_with fail
    refine (rnone_any c s d l A xs cp _ HX.out.len).mono ?_
    rintro e w1 ⟨rfl, hb⟩
    rw [HN.out]
    have b1 := b0.belowSelf hb
    have q0 : w1.cell? ⟨w.heap.size, 0, none⟩ = some ((.int .i64 c)) := b1.cell 0
    have q1 : w1.cell? ⟨w.heap.size, 1, none⟩ = some ((.int .i64 s)) := b1.cell 1
    have q2 : w1.cell? ⟨w.heap.size, 2, none⟩ = some ((.int .i64 d)) := b1.cell 2
    have q3 : w1.cell? ⟨w.heap.size, 3, none⟩ = some ((.int .i64 l)) := b1.cell 3
    have q4 : w1.cell? ⟨w.heap.size, 4, none⟩ = some (.slice A xs.length cp) := b1.cell 4
    have HB2 := Lib.hid (HB.out.trans (hb.mono (by simp))); clear hb
    go_wp2_with fail
    refine (rfits_any c s A xs.length cp _ HX.out.len).mono ?_
    rintro e w2 ⟨rfl, rfl⟩
    rw [HF.out]
    go_wp2_with fail
    go_ret
    exact ⟨by rw [HV.out]; rfl, HB2.out⟩
  cases e1 : decide (d ≤ 8)
  · have HV : Hid (rightB c s d l xs.length = false) := by show _ = _; unfold rightB; simp [*]
    have HN := Lib.hid hn
    have HF := Lib.hid hf
    clear hf
    clear hn
    go_enter Try.func11, Try.ntmps11
    go_wp2_with fail
    refine (rnone_any c s d l A xs cp _ HX.out.len).mono ?_
    rintro e w1 ⟨rfl, hb⟩
    rw [HN.out]
    have b1 := b0.belowSelf hb
    have q0 : w1.cell? ⟨w.heap.size, 0, none⟩ = some ((.int .i64 c)) := b1.cell 0
    have q1 : w1.cell? ⟨w.heap.size, 1, none⟩ = some ((.int .i64 s)) := b1.cell 1
    have q2 : w1.cell? ⟨w.heap.size, 2, none⟩ = some ((.int .i64 d)) := b1.cell 2
    have q3 : w1.cell? ⟨w.heap.size, 3, none⟩ = some ((.int .i64 l)) := b1.cell 3
    have q4 : w1.cell? ⟨w.heap.size, 4, none⟩ = some (.slice A xs.length cp) := b1.cell 4
    have HB2 := Lib.hid (HB.out.trans (hb.mono (by simp))); clear hb
    go_wp2_with fail
    refine (rfits_any c s A xs.length cp _ HX.out.len).mono ?_
    rintro e w2 ⟨rfl, rfl⟩
    rw [HF.out]
    go_wp2_with fail
    go_ret
    exact ⟨by rw [HV.out]; rfl, HB2.out⟩
  cases e2 : decide (0 ≤ l)
  · have HV : Hid (rightB c s d l xs.length = false) := by show _ = _; unfold rightB; simp [*]
    have HN := Lib.hid hn
    have HF := Lib.hid hf
    clear hf
    clear hn
    go_enter Try.func11, Try.ntmps11
    go_wp2_with fail
    refine (rnone_any c s d l A xs cp _ HX.out.len).mono ?_
    rintro e w1 ⟨rfl, hb⟩
    rw [HN.out]
    have b1 := b0.belowSelf hb
    have q0 : w1.cell? ⟨w.heap.size, 0, none⟩ = some ((.int .i64 c)) := b1.cell 0
    have q1 : w1.cell? ⟨w.heap.size, 1, none⟩ = some ((.int .i64 s)) := b1.cell 1
    have q2 : w1.cell? ⟨w.heap.size, 2, none⟩ = some ((.int .i64 d)) := b1.cell 2
    have q3 : w1.cell? ⟨w.heap.size, 3, none⟩ = some ((.int .i64 l)) := b1.cell 3
    have q4 : w1.cell? ⟨w.heap.size, 4, none⟩ = some (.slice A xs.length cp) := b1.cell 4
    have HB2 := Lib.hid (HB.out.trans (hb.mono (by simp))); clear hb
    go_wp2_with fail
    refine (rfits_any c s A xs.length cp _ HX.out.len).mono ?_
    rintro e w2 ⟨rfl, rfl⟩
    rw [HF.out]
    go_wp2_with fail
    go_ret
    exact ⟨by rw [HV.out]; rfl, HB2.out⟩
  cases e3 : decide (l ≤ 3)
  · have HV : Hid (rightB c s d l xs.length = false) := by show _ = _; unfold rightB; simp [*]
    have HN := Lib.hid hn
    have HF := Lib.hid hf
    clear hf
    clear hn
    go_enter Try.func11, Try.ntmps11
    go_wp2_with fail
    refine (rnone_any c s d l A xs cp _ HX.out.len).mono ?_
    rintro e w1 ⟨rfl, hb⟩
    rw [HN.out]
    have b1 := b0.belowSelf hb
    have q0 : w1.cell? ⟨w.heap.size, 0, none⟩ = some ((.int .i64 c)) := b1.cell 0
    have q1 : w1.cell? ⟨w.heap.size, 1, none⟩ = some ((.int .i64 s)) := b1.cell 1
    have q2 : w1.cell? ⟨w.heap.size, 2, none⟩ = some ((.int .i64 d)) := b1.cell 2
    have q3 : w1.cell? ⟨w.heap.size, 3, none⟩ = some ((.int .i64 l)) := b1.cell 3
    have q4 : w1.cell? ⟨w.heap.size, 4, none⟩ = some (.slice A xs.length cp) := b1.cell 4
    have HB2 := Lib.hid (HB.out.trans (hb.mono (by simp))); clear hb
    go_wp2_with fail
    refine (rfits_any c s A xs.length cp _ HX.out.len).mono ?_
    rintro e w2 ⟨rfl, rfl⟩
    rw [HF.out]
    go_wp2_with fail
    go_ret
    exact ⟨by rw [HV.out]; rfl, HB2.out⟩
  have HV : Hid (rightB c s d l xs.length = true) := by show _ = _; unfold rightB; simp [*]
  have HN := Lib.hid hn
  have HF := Lib.hid hf
  clear hf
  clear hn
  go_enter Try.func11, Try.ntmps11
  go_wp2_with fail
  refine (rnone_any c s d l A xs cp _ HX.out.len).mono ?_
  rintro e w1 ⟨rfl, hb⟩
  rw [HN.out]
  have b1 := b0.belowSelf hb
  have q0 : w1.cell? ⟨w.heap.size, 0, none⟩ = some ((.int .i64 c)) := b1.cell 0
  have q1 : w1.cell? ⟨w.heap.size, 1, none⟩ = some ((.int .i64 s)) := b1.cell 1
  have q2 : w1.cell? ⟨w.heap.size, 2, none⟩ = some ((.int .i64 d)) := b1.cell 2
  have q3 : w1.cell? ⟨w.heap.size, 3, none⟩ = some ((.int .i64 l)) := b1.cell 3
  have q4 : w1.cell? ⟨w.heap.size, 4, none⟩ = some (.slice A xs.length cp) := b1.cell 4
  have HB2 := Lib.hid (HB.out.trans (hb.mono (by simp))); clear hb
  go_wp2_with fail
  refine (rfits_any c s A xs.length cp _ HX.out.len).mono ?_
  rintro e w2 ⟨rfl, rfl⟩
  rw [HF.out]
  go_wp2_with fail
  go_ret
  exact ⟨by rw [HV.out]; rfl, HB2.out⟩

end Go.Proofs.Ytnmbcdphjmcomaa
