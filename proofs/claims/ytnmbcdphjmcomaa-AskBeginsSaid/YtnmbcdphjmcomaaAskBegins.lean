/- AskBegins: what begins is right, matches its own code and trace number alone, and is given up in the 32nd tick. -/
import Derived.Test.YtnmbcdphjmcomaaAskEnds
import Derived.Test.YtnmbcdphjmcomaaN
import Derived.Test.YtnmbcdphjmcomaaO
namespace Go.Proofs.Ytnmbcdphjmcomaa
open Go.ChangeShapes Go.WideShapes Go.ChangeAt Go.RowKit
namespace askBegins
open askTicks askEnds

set_option maxRecDepth 100000 in
set_option maxHeartbeats 8000000 in
theorem walk_long (c s o : Int) (A : Option Addr) (xs : List Int) (cp : Nat) (w : World) (hx : Rb w A xs) (hl : 1000 < xs.length) :
    Calls Try.prog 6 #[.agg #[.int .i64 c, .int .i64 s, .slice A xs.length cp, .int .i64 o]] w fun e w' => e = .returned (.bool true) ∧ Below w.heap.size w w' := by
  have HX0 := Lib.hid (hx.alloc (.cells #[.int .i64 c, .int .i64 s, .slice A xs.length cp, .int .i64 o] 43))
  have HB0 := Lib.hid ((Below.refl w.heap.size w).alloc (Nat.le_refl _) (Obj.cells #[.int .i64 c, .int .i64 s, .slice A xs.length cp, .int .i64 o] 43))
  have d0 : decide (1000 < xs.length) = true := by simp; omega
  have d1 : decide ((1000 : Int) < xs.length) = true := by simp; omega
  have HLn := Lib.hid hx.len
  clear hx hl
  go_enter Try.func6, Try.ntmps6
  go_wp2_with fail
  refine (shown_ok _).mono ?_
  rintro e w1 ⟨rfl, hb⟩
  have HX1 := Lib.hid (HX0.out.below hb)
  have HB1 := Lib.hid (HB0.out.trans (hb.mono HB0.out.size))
  clear hb HX0 HB0 
  go_wp2_with fail
  go_ret
  exact ⟨rfl, HB1.out⟩

set_option maxRecDepth 100000 in
set_option maxHeartbeats 8000000 in
theorem walk_unknown (c s o : Int) (A : Option Addr) (xs : List Int) (cp : Nat) (w : World) (hx : Rb w A xs) (hl : xs.length ≤ 1000) (hf : fitsB c s xs.length = false) (hk : knownB c = false)  :
    Calls Try.prog 6 #[.agg #[.int .i64 c, .int .i64 s, .slice A xs.length cp, .int .i64 o]] w fun e w' => e = .returned (.bool true) ∧ Below w.heap.size w w' := by
  have HX0 := Lib.hid (hx.alloc (.cells #[.int .i64 c, .int .i64 s, .slice A xs.length cp, .int .i64 o] 43))
  have HB0 := Lib.hid ((Below.refl w.heap.size w).alloc (Nat.le_refl _) (Obj.cells #[.int .i64 c, .int .i64 s, .slice A xs.length cp, .int .i64 o] 43))
  have d0 : decide (1000 < xs.length) = false := by simp; omega
  have d1 : decide ((1000 : Int) < xs.length) = false := by simp; omega
  have HF := Lib.hid hf; have HK := Lib.hid hk
  have HLn := Lib.hid hx.len
  clear hx hf hk
  go_enter Try.func6, Try.ntmps6
  go_wp2_with fail
  refine (shown_ok _).mono ?_
  rintro e w1 ⟨rfl, hb⟩
  have HX1 := Lib.hid (HX0.out.below hb)
  have HB1 := Lib.hid (HB0.out.trans (hb.mono HB0.out.size))
  clear hb HX0 HB0 
  go_wp2_with fail
  refine (begin_no c s A xs.length cp _ HLn.out HF.out).mono ?_
  rintro e w2 ⟨rfl, hb⟩
  have HX2 := Lib.hid (HX1.out.below hb)
  have HB2 := Lib.hid (HB1.out.trans (hb.mono HB1.out.size))
  clear hb HX1 HB1 
  have HX2' := Lib.hid (HX2.out.alloc (.cells (askA 0 0 0 0 none 0 0) 24))
  have HB2' := Lib.hid (HB2.out.alloc HB2.out.size (.cells (askA 0 0 0 0 none 0 0) 24))
  have a2' := Blk.new w2 24 (askA 0 0 0 0 none 0 0)
  clear HX2 HB2 
  go_wp2_with (first | ((with_reducible refine at_dst 40 ?_); refine load_at (ty := 24) rfl rfl rfl Try.underlying24 rfl (info24 0 0 0 0 none 0 0) a2' ?_) | fail)
  refine (match_any 0 0 0 0 none [] 0 c s _ (Rb.nil _ none)).mono ?_
  rintro e w3 ⟨rfl, hb⟩
  rw [show matchB 0 0 0 0 ([] : List Int).length c s = false by unfold matchB noneB; simp]
  have HX3 := Lib.hid (HX2'.out.below hb)
  have HB3 := Lib.hid (HB2'.out.trans (hb.mono HB2'.out.size))
  have a3 := a2'.belowSelf hb
  clear hb HX2' HB2' a2'
  go_wp2_with fail
  refine (known_any c _).mono ?_
  rintro e w4 ⟨rfl, rfl⟩
  rw [HK.out]
  go_wp2_with fail
  go_ret
  exact ⟨rfl, HB3.out⟩

set_option maxRecDepth 100000 in
set_option maxHeartbeats 8000000 in
theorem walk_s1 (c s o : Int) (A : Option Addr) (xs : List Int) (cp : Nat) (w : World) (hx : Rb w A xs) (hl : xs.length ≤ 1000) (hf : fitsB c s xs.length = false) (hk : knownB c = true) (h1 : s < 1) :
    Calls Try.prog 6 #[.agg #[.int .i64 c, .int .i64 s, .slice A xs.length cp, .int .i64 o]] w fun e w' => e = .returned (.bool true) ∧ Below w.heap.size w w' := by
  have HX0 := Lib.hid (hx.alloc (.cells #[.int .i64 c, .int .i64 s, .slice A xs.length cp, .int .i64 o] 43))
  have HB0 := Lib.hid ((Below.refl w.heap.size w).alloc (Nat.le_refl _) (Obj.cells #[.int .i64 c, .int .i64 s, .slice A xs.length cp, .int .i64 o] 43))
  have d0 : decide (1000 < xs.length) = false := by simp; omega
  have d1 : decide ((1000 : Int) < xs.length) = false := by simp; omega
  have HF := Lib.hid hf; have HK := Lib.hid hk
  have HLn := Lib.hid hx.len
  have f1 : decide (s < 1) = true := decide_eq_true (by omega)
  clear hx hf hk
  go_enter Try.func6, Try.ntmps6
  go_wp2_with fail
  refine (shown_ok _).mono ?_
  rintro e w1 ⟨rfl, hb⟩
  have HX1 := Lib.hid (HX0.out.below hb)
  have HB1 := Lib.hid (HB0.out.trans (hb.mono HB0.out.size))
  clear hb HX0 HB0 
  go_wp2_with fail
  refine (begin_no c s A xs.length cp _ HLn.out HF.out).mono ?_
  rintro e w2 ⟨rfl, hb⟩
  have HX2 := Lib.hid (HX1.out.below hb)
  have HB2 := Lib.hid (HB1.out.trans (hb.mono HB1.out.size))
  clear hb HX1 HB1 
  have HX2' := Lib.hid (HX2.out.alloc (.cells (askA 0 0 0 0 none 0 0) 24))
  have HB2' := Lib.hid (HB2.out.alloc HB2.out.size (.cells (askA 0 0 0 0 none 0 0) 24))
  have a2' := Blk.new w2 24 (askA 0 0 0 0 none 0 0)
  clear HX2 HB2 
  go_wp2_with (first | ((with_reducible refine at_dst 40 ?_); refine load_at (ty := 24) rfl rfl rfl Try.underlying24 rfl (info24 0 0 0 0 none 0 0) a2' ?_) | fail)
  refine (match_any 0 0 0 0 none [] 0 c s _ (Rb.nil _ none)).mono ?_
  rintro e w3 ⟨rfl, hb⟩
  rw [show matchB 0 0 0 0 ([] : List Int).length c s = false by unfold matchB noneB; simp]
  have HX3 := Lib.hid (HX2'.out.below hb)
  have HB3 := Lib.hid (HB2'.out.trans (hb.mono HB2'.out.size))
  have a3 := a2'.belowSelf hb
  clear hb HX2' HB2' a2'
  go_wp2_with fail
  refine (known_any c _).mono ?_
  rintro e w4 ⟨rfl, rfl⟩
  rw [HK.out]
  go_wp2_with fail
  go_ret
  exact ⟨rfl, HB3.out⟩

set_option maxRecDepth 100000 in
set_option maxHeartbeats 8000000 in
theorem walk_s2 (c s o : Int) (A : Option Addr) (xs : List Int) (cp : Nat) (w : World) (hx : Rb w A xs) (hl : xs.length ≤ 1000) (hf : fitsB c s xs.length = false) (hk : knownB c = true) (_h1 : 1 ≤ s) (h2 : 999999 < s) :
    Calls Try.prog 6 #[.agg #[.int .i64 c, .int .i64 s, .slice A xs.length cp, .int .i64 o]] w fun e w' => e = .returned (.bool true) ∧ Below w.heap.size w w' := by
  have HX0 := Lib.hid (hx.alloc (.cells #[.int .i64 c, .int .i64 s, .slice A xs.length cp, .int .i64 o] 43))
  have HB0 := Lib.hid ((Below.refl w.heap.size w).alloc (Nat.le_refl _) (Obj.cells #[.int .i64 c, .int .i64 s, .slice A xs.length cp, .int .i64 o] 43))
  have d0 : decide (1000 < xs.length) = false := by simp; omega
  have d1 : decide ((1000 : Int) < xs.length) = false := by simp; omega
  have HF := Lib.hid hf; have HK := Lib.hid hk
  have HLn := Lib.hid hx.len
  have f1 : decide (s < 1) = false := decide_eq_false (by omega)
  have f2 : decide (999999 < s) = true := decide_eq_true (by omega)
  clear hx hf hk
  go_enter Try.func6, Try.ntmps6
  go_wp2_with fail
  refine (shown_ok _).mono ?_
  rintro e w1 ⟨rfl, hb⟩
  have HX1 := Lib.hid (HX0.out.below hb)
  have HB1 := Lib.hid (HB0.out.trans (hb.mono HB0.out.size))
  clear hb HX0 HB0 
  go_wp2_with fail
  refine (begin_no c s A xs.length cp _ HLn.out HF.out).mono ?_
  rintro e w2 ⟨rfl, hb⟩
  have HX2 := Lib.hid (HX1.out.below hb)
  have HB2 := Lib.hid (HB1.out.trans (hb.mono HB1.out.size))
  clear hb HX1 HB1 
  have HX2' := Lib.hid (HX2.out.alloc (.cells (askA 0 0 0 0 none 0 0) 24))
  have HB2' := Lib.hid (HB2.out.alloc HB2.out.size (.cells (askA 0 0 0 0 none 0 0) 24))
  have a2' := Blk.new w2 24 (askA 0 0 0 0 none 0 0)
  clear HX2 HB2 
  go_wp2_with (first | ((with_reducible refine at_dst 40 ?_); refine load_at (ty := 24) rfl rfl rfl Try.underlying24 rfl (info24 0 0 0 0 none 0 0) a2' ?_) | fail)
  refine (match_any 0 0 0 0 none [] 0 c s _ (Rb.nil _ none)).mono ?_
  rintro e w3 ⟨rfl, hb⟩
  rw [show matchB 0 0 0 0 ([] : List Int).length c s = false by unfold matchB noneB; simp]
  have HX3 := Lib.hid (HX2'.out.below hb)
  have HB3 := Lib.hid (HB2'.out.trans (hb.mono HB2'.out.size))
  have a3 := a2'.belowSelf hb
  clear hb HX2' HB2' a2'
  go_wp2_with fail
  refine (known_any c _).mono ?_
  rintro e w4 ⟨rfl, rfl⟩
  rw [HK.out]
  go_wp2_with fail
  go_ret
  exact ⟨rfl, HB3.out⟩

set_option maxRecDepth 100000 in
set_option maxHeartbeats 8000000 in
theorem walk_n1 (c s o : Int) (A : Option Addr) (xs : List Int) (cp : Nat) (w : World) (hx : Rb w A xs) (hl : xs.length ≤ 1000) (hf : fitsB c s xs.length = false) (hk : knownB c = true) (h1 : 1 ≤ s) (h2 : s ≤ 999999) (h3 : xs.length < 1) :
    Calls Try.prog 6 #[.agg #[.int .i64 c, .int .i64 s, .slice A xs.length cp, .int .i64 o]] w fun e w' => e = .returned (.bool true) ∧ Below w.heap.size w w' := by
  have HX0 := Lib.hid (hx.alloc (.cells #[.int .i64 c, .int .i64 s, .slice A xs.length cp, .int .i64 o] 43))
  have HB0 := Lib.hid ((Below.refl w.heap.size w).alloc (Nat.le_refl _) (Obj.cells #[.int .i64 c, .int .i64 s, .slice A xs.length cp, .int .i64 o] 43))
  have d0 : decide (1000 < xs.length) = false := by simp; omega
  have d1 : decide ((1000 : Int) < xs.length) = false := by simp; omega
  have HF := Lib.hid hf; have HK := Lib.hid hk
  have HLn := Lib.hid hx.len
  have f1 : decide (s < 1) = false := decide_eq_false (by omega)
  have f2 : decide (999999 < s) = false := decide_eq_false (by omega)
  have f3 : decide (xs.length < 1) = true := decide_eq_true (by omega)
  have f4 : decide ((xs.length : Int) < 1) = true := decide_eq_true (by omega)
  clear hx hf hk
  go_enter Try.func6, Try.ntmps6
  go_wp2_with fail
  refine (shown_ok _).mono ?_
  rintro e w1 ⟨rfl, hb⟩
  have HX1 := Lib.hid (HX0.out.below hb)
  have HB1 := Lib.hid (HB0.out.trans (hb.mono HB0.out.size))
  clear hb HX0 HB0 
  go_wp2_with fail
  refine (begin_no c s A xs.length cp _ HLn.out HF.out).mono ?_
  rintro e w2 ⟨rfl, hb⟩
  have HX2 := Lib.hid (HX1.out.below hb)
  have HB2 := Lib.hid (HB1.out.trans (hb.mono HB1.out.size))
  clear hb HX1 HB1 
  have HX2' := Lib.hid (HX2.out.alloc (.cells (askA 0 0 0 0 none 0 0) 24))
  have HB2' := Lib.hid (HB2.out.alloc HB2.out.size (.cells (askA 0 0 0 0 none 0 0) 24))
  have a2' := Blk.new w2 24 (askA 0 0 0 0 none 0 0)
  clear HX2 HB2 
  go_wp2_with (first | ((with_reducible refine at_dst 40 ?_); refine load_at (ty := 24) rfl rfl rfl Try.underlying24 rfl (info24 0 0 0 0 none 0 0) a2' ?_) | fail)
  refine (match_any 0 0 0 0 none [] 0 c s _ (Rb.nil _ none)).mono ?_
  rintro e w3 ⟨rfl, hb⟩
  rw [show matchB 0 0 0 0 ([] : List Int).length c s = false by unfold matchB noneB; simp]
  have HX3 := Lib.hid (HX2'.out.below hb)
  have HB3 := Lib.hid (HB2'.out.trans (hb.mono HB2'.out.size))
  have a3 := a2'.belowSelf hb
  clear hb HX2' HB2' a2'
  go_wp2_with fail
  refine (known_any c _).mono ?_
  rintro e w4 ⟨rfl, rfl⟩
  rw [HK.out]
  go_wp2_with fail
  go_ret
  exact ⟨rfl, HB3.out⟩

set_option maxRecDepth 100000 in
set_option maxHeartbeats 8000000 in
theorem walk_n2 (c s o : Int) (A : Option Addr) (xs : List Int) (cp : Nat) (w : World) (hx : Rb w A xs) (hl : xs.length ≤ 1000) (hf : fitsB c s xs.length = false) (hk : knownB c = true) (h1 : 1 ≤ s) (h2 : s ≤ 999999) (h3 : 1 ≤ xs.length) (h4 : 900 < xs.length) :
    Calls Try.prog 6 #[.agg #[.int .i64 c, .int .i64 s, .slice A xs.length cp, .int .i64 o]] w fun e w' => e = .returned (.bool true) ∧ Below w.heap.size w w' := by
  have HX0 := Lib.hid (hx.alloc (.cells #[.int .i64 c, .int .i64 s, .slice A xs.length cp, .int .i64 o] 43))
  have HB0 := Lib.hid ((Below.refl w.heap.size w).alloc (Nat.le_refl _) (Obj.cells #[.int .i64 c, .int .i64 s, .slice A xs.length cp, .int .i64 o] 43))
  have d0 : decide (1000 < xs.length) = false := by simp; omega
  have d1 : decide ((1000 : Int) < xs.length) = false := by simp; omega
  have HF := Lib.hid hf; have HK := Lib.hid hk
  have HLn := Lib.hid hx.len
  have f1 : decide (s < 1) = false := decide_eq_false (by omega)
  have f2 : decide (999999 < s) = false := decide_eq_false (by omega)
  have f3 : decide (xs.length < 1) = false := decide_eq_false (by omega)
  have f4 : decide ((xs.length : Int) < 1) = false := decide_eq_false (by omega)
  have f5 : decide (900 < xs.length) = true := decide_eq_true (by omega)
  have f6 : decide ((900 : Int) < xs.length) = true := decide_eq_true (by omega)
  clear hx hf hk
  go_enter Try.func6, Try.ntmps6
  go_wp2_with fail
  refine (shown_ok _).mono ?_
  rintro e w1 ⟨rfl, hb⟩
  have HX1 := Lib.hid (HX0.out.below hb)
  have HB1 := Lib.hid (HB0.out.trans (hb.mono HB0.out.size))
  clear hb HX0 HB0 
  go_wp2_with fail
  refine (begin_no c s A xs.length cp _ HLn.out HF.out).mono ?_
  rintro e w2 ⟨rfl, hb⟩
  have HX2 := Lib.hid (HX1.out.below hb)
  have HB2 := Lib.hid (HB1.out.trans (hb.mono HB1.out.size))
  clear hb HX1 HB1 
  have HX2' := Lib.hid (HX2.out.alloc (.cells (askA 0 0 0 0 none 0 0) 24))
  have HB2' := Lib.hid (HB2.out.alloc HB2.out.size (.cells (askA 0 0 0 0 none 0 0) 24))
  have a2' := Blk.new w2 24 (askA 0 0 0 0 none 0 0)
  clear HX2 HB2 
  go_wp2_with (first | ((with_reducible refine at_dst 40 ?_); refine load_at (ty := 24) rfl rfl rfl Try.underlying24 rfl (info24 0 0 0 0 none 0 0) a2' ?_) | fail)
  refine (match_any 0 0 0 0 none [] 0 c s _ (Rb.nil _ none)).mono ?_
  rintro e w3 ⟨rfl, hb⟩
  rw [show matchB 0 0 0 0 ([] : List Int).length c s = false by unfold matchB noneB; simp]
  have HX3 := Lib.hid (HX2'.out.below hb)
  have HB3 := Lib.hid (HB2'.out.trans (hb.mono HB2'.out.size))
  have a3 := a2'.belowSelf hb
  clear hb HX2' HB2' a2'
  go_wp2_with fail
  refine (known_any c _).mono ?_
  rintro e w4 ⟨rfl, rfl⟩
  rw [HK.out]
  go_wp2_with fail
  go_ret
  exact ⟨rfl, HB3.out⟩

theorem int_beq_comm (a b : Int) : (a == b) = (b == a) := by rw [Bool.eq_iff_iff, beq_iff_eq, beq_iff_eq]; exact eq_comm

theorem match_other1 {c s o : Int} {n : Nat} (hf : fitsB c s n = true) : matchB c s 8 3 n o s = (o == c) := by
  unfold matchB; rw [none_fits hf, int_beq_comm o]; simp
theorem match_other2 {c s o : Int} {n : Nat} (hf : fitsB c s n = true) : matchB c s 8 3 n c o = (o == s) := by
  unfold matchB; rw [none_fits hf, int_beq_comm o]; simp
theorem plus_one (L : Int) : Value.int .i64 (3 - L + 1) = Value.int .i64 (3 - (L - 1)) := by congr 1; omega

set_option maxRecDepth 100000 in
set_option maxHeartbeats 8000000 in
theorem walk_yes (c s o : Int) (A : Option Addr) (xs : List Int) (cp : Nat) (w : World) (hx : Rb w A xs) (hl : xs.length ≤ 1000) (hf : fitsB c s xs.length = true) :
    Calls Try.prog 6 #[.agg #[.int .i64 c, .int .i64 s, .slice A xs.length cp, .int .i64 o]] w fun e w' => e = .returned (.bool true) ∧ Below w.heap.size w w' := by
  have HX0 := Lib.hid (hx.alloc (.cells #[.int .i64 c, .int .i64 s, .slice A xs.length cp, .int .i64 o] 43))
  have HB0 := Lib.hid ((Below.refl w.heap.size w).alloc (Nat.le_refl _) (Obj.cells #[.int .i64 c, .int .i64 s, .slice A xs.length cp, .int .i64 o] 43))
  have d0 : decide (1000 < xs.length) = false := by simp; omega
  have d1 : decide ((1000 : Int) < xs.length) = false := by simp; omega
  have HF := Lib.hid hf
  have HLn := Lib.hid hx.len
  have HAL : Hid (∀ b off, A = some ⟨b, off, none⟩ → b < w.heap.size) := Lib.hid fun b off e => by
    obtain ⟨b', off', e', hb', _⟩ := hx.cells (fits_len hf)
    rw [e] at e'; cases e'; exact hb'
  clear hx hf
  go_enter Try.func6, Try.ntmps6
  go_wp2_with fail
  refine (shown_ok _).mono ?_
  rintro e w1 ⟨rfl, hb⟩
  have HX1 := Lib.hid (HX0.out.below hb)
  have HB1 := Lib.hid (HB0.out.trans (hb.mono HB0.out.size))
  clear hb HX0 HB0 
  go_wp2_with fail
  refine (begin_yes c s A xs.length cp _ HLn.out HF.out).mono ?_
  rintro e w2 ⟨rfl, hb⟩
  have HX2 := Lib.hid (HX1.out.below hb)
  have HB2 := Lib.hid (HB1.out.trans (hb.mono HB1.out.size))
  clear hb HX1 HB1 
  have HB2 := Lib.hid HB2.out
  have HX3 := Lib.hid ((HX2.out.alloc (.cells (askA c s 8 3 A xs.length cp) 24)).alloc (.cells (askA c s 8 3 A xs.length cp) 24))
  have HB3 := Lib.hid ((HB2.out.alloc HB2.out.size (.cells (askA c s 8 3 A xs.length cp) 24)).alloc (by have := HB2.out.size; simp; omega) (.cells (askA c s 8 3 A xs.length cp) 24))
  have a2 := Blk.new w2 24 (askA c s 8 3 A xs.length cp)
  have a3 := a2.alloc (.cells (askA c s 8 3 A xs.length cp) 24)
  have x3 := Blk.new (w2.alloc (.cells (askA c s 8 3 A xs.length cp) 24)) 24 (askA c s 8 3 A xs.length cp)
  go_wp2_with (first | ((with_reducible refine at_dst 69 ?_); refine load_at (ty := 24) rfl rfl rfl Try.underlying24 rfl (info24 c s 8 3 A xs.length cp) a2 ?_) | fail)
  have HNE : Hid (∀ b off, A = some ⟨b, off, none⟩ → some b ≠ some (w2.heap.size + 1)) := Lib.hid (fun b off e => by have h1 := HAL.out b off e; have := HB2.out.size; simp; omega)
  clear a2 HX2
  have x3 : Blk ((w2.alloc (.cells (askA c s 8 3 A xs.length cp) 24)).alloc (.cells (askA c s 8 3 A xs.length cp) 24)) (w2.heap.size + 1) 24 (askA c s 8 3 A xs.length cp) := by simpa using x3
  go_loopw [11, 12] (fun ak i wr => ∃ m : Int, i = .int .i64 m ∧ 1 ≤ m ∧ m ≤ 33 ∧ Blk wr w2.heap.size 24 (askA c s 8 3 A xs.length cp) ∧ Rb wr A xs ∧ Below w.heap.size w wr ∧
    ((∃ D L : Int, 1 ≤ D ∧ D ≤ 8 ∧ 0 ≤ L ∧ L ≤ 3 ∧ D + 8 * L + m = 33 ∧ ak = .int .i64 (3 - L) ∧ Blk wr (w2.heap.size + 1) 24 (askA c s D L A xs.length cp)) ∨ (m = 33 ∧ ak = .int .i64 3 ∧ Blk wr (w2.heap.size + 1) 24 (askA 0 0 0 0 none 0 0)))) (fun _ i _ => (33 - intOf i).toNat)
  case atStart => exact ⟨1, rfl, by omega, by omega, a3, HX3.out, HB3.out, Or.inl ⟨8, 3, by omega, by omega, by omega, by omega, by omega, rfl, x3⟩⟩
  case round =>
    clear a3 x3 HX3 HB3
    obtain ⟨m, rfl, hm1, hm2, ak, hxk, hbk, hk⟩ := hrel
    have HXk := Lib.hid hxk; have HBk := Lib.hid hbk; clear hxk hbk
    rcases hk with ⟨D, L, hD1, hD2, hL1, hL2, hE, rfl, xk⟩ | ⟨hE, rfl, xk⟩
    · have t0 : decide (m ≤ 32) = true := by simp; omega
      by_cases hD : 1 < D
      · have t3 : (m == 32) = false := by simp; omega
        have HT := Lib.hid (tick_wait c s D L A xs cp _ HXk.out (none_fits HF.out) hD (by omega))
        go_wp2_with (first | ((with_reducible refine at_dst 75 ?_); refine load_at (ty := 24) rfl rfl rfl Try.underlying24 rfl (info24 c s D L A xs.length cp) xk ?_) | fail)
        refine HT.out.mono ?_
        rintro e w5 ⟨rfl, hb⟩
        clear HT
        have HX6 := Lib.hid ((HXk.out.below hb).alloc (.cells (askA c s (D - 1) L A xs.length cp) 24))
        have HB6 := (HBk.out.trans (hb.mono HBk.out.size)).alloc (Nat.le_trans HBk.out.size hb.size) (.cells (askA c s (D - 1) L A xs.length cp) 24)
        have a6 := (ak.belowSelf hb).alloc (.cells (askA c s (D - 1) L A xs.length cp) 24)
        have x6 := (xk.belowSelf hb).alloc (.cells (askA c s (D - 1) L A xs.length cp) 24)
        have y6 := Blk.new w5 24 (askA c s (D - 1) L A xs.length cp)
        have xlt := Nat.lt_of_lt_of_le xk.lt hb.size
        have HB6 := Lib.hid HB6
        clear hb HXk HBk ak xk
        go_wp2_with (first | ((with_reducible refine at_dst 87 ?_); refine load_at (ty := 24) rfl rfl rfl Try.underlying24 rfl (info24 c s (D - 1) L A xs.length cp) y6 ?_) | ((with_reducible refine at_store 24 10 ?_); refine store_blk' (ty := 24) rfl rfl rfl rfl (info24 c s (D - 1) L A xs.length cp) (askA_one _ _ _ _ _ _ _) (old := askA c s D L A xs.length cp) rfl x6 ?_; intro w8 x8 hG8 hz8) | fail)
        have HB8 := HB6.out.grown hG8 HB6.out.size (by have := HB2.out.size; simp; omega)
        have a8 := a6.grown hG8 (by simp)
        have HX8 := HX6.out.grown hG8 (by intro b off hbo; exact HNE.out b off hbo)
        exact ⟨⟨m + 1, rfl, by omega, by omega, a8, HX8, HB8, Or.inl ⟨D - 1, L, by omega, by omega, hL1, hL2, by omega, rfl, x8⟩⟩, by simp [intOf]; omega⟩
      · by_cases hL : 1 ≤ L
        · have t3 : (m == 32) = false := by simp; omega
          have HT := Lib.hid (tick_again c s D L A xs cp _ HXk.out (none_fits HF.out) (by omega) (by omega) hL (by omega))
          go_wp2_with (first | ((with_reducible refine at_dst 75 ?_); refine load_at (ty := 24) rfl rfl rfl Try.underlying24 rfl (info24 c s D L A xs.length cp) xk ?_) | fail)
          refine HT.out.mono ?_
          rintro e w5 ⟨rfl, hb⟩
          clear HT
          have HX6 := Lib.hid ((HXk.out.below hb).alloc (.cells (askA c s 8 (L - 1) A xs.length cp) 24))
          have HB6 := (HBk.out.trans (hb.mono HBk.out.size)).alloc (Nat.le_trans HBk.out.size hb.size) (.cells (askA c s 8 (L - 1) A xs.length cp) 24)
          have a6 := (ak.belowSelf hb).alloc (.cells (askA c s 8 (L - 1) A xs.length cp) 24)
          have x6 := (xk.belowSelf hb).alloc (.cells (askA c s 8 (L - 1) A xs.length cp) 24)
          have y6 := Blk.new w5 24 (askA c s 8 (L - 1) A xs.length cp)
          have xlt := Nat.lt_of_lt_of_le xk.lt hb.size
          have HB6 := Lib.hid HB6
          clear hb HXk HBk ak xk
          go_wp2_with (first | ((with_reducible refine at_dst 87 ?_); refine load_at (ty := 24) rfl rfl rfl Try.underlying24 rfl (info24 c s 8 (L - 1) A xs.length cp) y6 ?_) | ((with_reducible refine at_store 24 10 ?_); refine store_blk' (ty := 24) rfl rfl rfl rfl (info24 c s 8 (L - 1) A xs.length cp) (askA_one _ _ _ _ _ _ _) (old := askA c s D L A xs.length cp) rfl x6 ?_; intro w8 x8 hG8 hz8) | fail)
          have HB8 := HB6.out.grown hG8 HB6.out.size (by have := HB2.out.size; simp; omega)
          have a8 := a6.grown hG8 (by simp)
          have HX8 := HX6.out.grown hG8 (by intro b off hbo; exact HNE.out b off hbo)
          exact ⟨⟨m + 1, rfl, by omega, by omega, a8, HX8, HB8, Or.inl ⟨8, L - 1, by omega, by omega, by omega, by omega, by omega, plus_one L, x8⟩⟩, by simp [intOf]; omega⟩
        · obtain rfl : L = 0 := by omega
          obtain rfl : D = 1 := by omega
          obtain rfl : m = 32 := by omega
          clear t0 hD1 hD2 hL1 hL2 hm1 hm2
          have HT := Lib.hid (tick_drop c s 1 0 A xs cp _ HXk.out (none_fits HF.out) (by omega) (by omega) (by omega))
          go_wp2_with (first | ((with_reducible refine at_dst 75 ?_); refine load_at (ty := 24) rfl rfl rfl Try.underlying24 rfl (info24 c s 1 0 A xs.length cp) xk ?_) | fail)
          refine HT.out.mono ?_
          rintro e w5 ⟨rfl, hb⟩
          clear HT
          have HX6 := Lib.hid ((HXk.out.below hb).alloc (.cells (askA 0 0 0 0 none 0 0) 24))
          have HB6 := (HBk.out.trans (hb.mono HBk.out.size)).alloc (Nat.le_trans HBk.out.size hb.size) (.cells (askA 0 0 0 0 none 0 0) 24)
          have a6 := (ak.belowSelf hb).alloc (.cells (askA 0 0 0 0 none 0 0) 24)
          have x6 := (xk.belowSelf hb).alloc (.cells (askA 0 0 0 0 none 0 0) 24)
          have y6 := Blk.new w5 24 (askA 0 0 0 0 none 0 0)
          have xlt := Nat.lt_of_lt_of_le xk.lt hb.size
          have HB6 := Lib.hid HB6
          clear hb HXk HBk ak xk
          go_wp2_with (first | ((with_reducible refine at_dst 87 ?_); refine load_at (ty := 24) rfl rfl rfl Try.underlying24 rfl (info24 0 0 0 0 none 0 0) y6 ?_) | ((with_reducible refine at_store 24 10 ?_); refine store_blk' (ty := 24) rfl rfl rfl rfl (info24 0 0 0 0 none 0 0) (askA_one _ _ _ _ _ _ _) (old := askA c s 1 0 A xs.length cp) rfl x6 ?_; intro w8 x8 hG8 hz8) | fail)
          have HB8 := HB6.out.grown hG8 HB6.out.size (by have := HB2.out.size; simp; omega)
          have a8 := a6.grown hG8 (by simp)
          have HX8 := HX6.out.grown hG8 (by intro b off hbo; exact HNE.out b off hbo)
          exact ⟨⟨33, rfl, by omega, by omega, a8, HX8, HB8, Or.inr ⟨rfl, rfl, x8⟩⟩, by simp [intOf]⟩
    · subst hE
      have ok := ak
      have HX9 := HXk; have HB9 := HBk; have a9 := ak; have x9 := xk
      clear HXk HBk ak xk ok
      have M1 := match_own (D := 8) (L := 3) HF.out
      have RR : Hid (rightB c s 8 3 xs.length = true) := Lib.hid (right_of HF.out (by omega) (by omega) (by omega) (by omega))
      have M1 := Lib.hid M1
      have M2 := Lib.hid (match_other1 (o := o) (n := xs.length) HF.out)
      have M3 := Lib.hid (match_other2 (o := o) (n := xs.length) HF.out)
      generalize h1 : (o == c) = e1 at M2 ⊢
      generalize h2 : (o == s) = e2 at M3 ⊢
      clear hm1 hm2
      cases e1 <;> cases e2
      all_goals
        go_wp2_with (first | ((with_reducible refine at_dst 90 ?_); refine load_at (ty := 24) rfl rfl rfl Try.underlying24 rfl (info24 c s 8 3 A xs.length cp) a9 ?_) | fail)
        refine (right_any c s 8 3 A xs cp _ HX9.out).mono ?_
        rintro e w10 ⟨rfl, hb⟩
        rw [RR.out]
        have HX10 := Lib.hid (HX9.out.below hb)
        have HB10 := Lib.hid (HB9.out.trans (hb.mono HB9.out.size))
        have a10 := a9.belowSelf hb
        have x10 := x9.belowSelf hb
        clear hb HX9 HB9 a9 x9
        go_wp2_with (first | ((with_reducible refine at_dst 94 ?_); refine load_at (ty := 24) rfl rfl rfl Try.underlying24 rfl (info24 c s 8 3 A xs.length cp) a10 ?_) | fail)
        refine (match_any c s 8 3 A xs cp c s _ HX10.out).mono ?_
        rintro e w11 ⟨rfl, hb⟩
        rw [M1.out]
        have HX11 := Lib.hid (HX10.out.below hb)
        have HB11 := Lib.hid (HB10.out.trans (hb.mono HB10.out.size))
        have a11 := a10.belowSelf hb
        have x11 := x10.belowSelf hb
        clear hb HX10 HB10 a10 x10
        go_wp2_with (first | ((with_reducible refine at_dst 100 ?_); refine load_at (ty := 24) rfl rfl rfl Try.underlying24 rfl (info24 c s 8 3 A xs.length cp) a11 ?_) | fail)
        refine (match_any c s 8 3 A xs cp o s _ HX11.out).mono ?_
        rintro e w12 ⟨rfl, hb⟩
        rw [M2.out]
        have HX12 := Lib.hid (HX11.out.below hb)
        have HB12 := Lib.hid (HB11.out.trans (hb.mono HB11.out.size))
        have a12 := a11.belowSelf hb
        have x12 := x11.belowSelf hb
        clear hb HX11 HB11 a11 x11
        go_wp2_with (first | ((with_reducible refine at_dst 110 ?_); refine load_at (ty := 24) rfl rfl rfl Try.underlying24 rfl (info24 c s 8 3 A xs.length cp) a12 ?_) | fail)
        refine (match_any c s 8 3 A xs cp c o _ HX12.out).mono ?_
        rintro e w13 ⟨rfl, hb⟩
        rw [M3.out]
        have HX13 := Lib.hid (HX12.out.below hb)
        have HB13 := Lib.hid (HB12.out.trans (hb.mono HB12.out.size))
        have a13 := a12.belowSelf hb
        have x13 := x12.belowSelf hb
        clear hb HX12 HB12 a12 x12
        go_wp2_with (first | ((with_reducible refine at_dst 124 ?_); refine load_at (ty := 24) rfl rfl rfl Try.underlying24 rfl (info24 0 0 0 0 none 0 0) x13 ?_) | fail)
        refine (match_any 0 0 0 0 none [] 0 c s _ (Rb.nil _ none)).mono ?_
        rintro e w14 ⟨rfl, hb⟩
        rw [show matchB 0 0 0 0 ([] : List Int).length c s = false by unfold matchB noneB; simp]
        have HX14 := Lib.hid (HX13.out.below hb)
        have HB14 := Lib.hid (HB13.out.trans (hb.mono HB13.out.size))
        have a14 := a13.belowSelf hb
        have x14 := x13.belowSelf hb
        clear hb HX13 HB13 a13 x13
        go_wp2_with fail
        go_ret
        exact ⟨rfl, HB14.out⟩

theorem walk (c s o : Int) (A : Option Addr) (xs : List Int) (cp : Nat) (w : World) (hx : Rb w A xs) :
    Calls Try.prog 6 #[.agg #[.int .i64 c, .int .i64 s, .slice A xs.length cp, .int .i64 o]] w fun e w' => e = .returned (.bool true) ∧ Below w.heap.size w w' := by
  by_cases hl : xs.length ≤ 1000
  · cases hf : fitsB c s xs.length
    · cases hk : knownB c
      · exact walk_unknown c s o A xs cp w hx hl hf hk
      · by_cases h1 : s < 1
        · exact walk_s1 c s o A xs cp w hx hl hf hk h1
        · by_cases h2 : 999999 < s
          · exact walk_s2 c s o A xs cp w hx hl hf hk (by omega) h2
          · by_cases h3 : xs.length < 1
            · exact walk_n1 c s o A xs cp w hx hl hf hk (by omega) (by omega) h3
            · by_cases h4 : 900 < xs.length
              · exact walk_n2 c s o A xs cp w hx hl hf hk (by omega) (by omega) (by omega) h4
              · exfalso
                have : fitsB c s xs.length = true := by
                  unfold fitsB; rw [hk]
                  simp only [Bool.and_eq_true, decide_eq_true_eq]
                  exact ⟨⟨⟨⟨trivial, by omega⟩, by omega⟩, by omega⟩, by omega⟩
                rw [this] at hf; cases hf
    · exact walk_yes c s o A xs cp w hx hl hf
  · exact walk_long c s o A xs cp w hx (by omega)

set_option maxRecDepth 100000 in
theorem lifted (os : Os) (started : os.Started) (H : Type) (enc : TypeId × Value → H) :
    ReturnsInHanded {} Try.checked os 6 .any (Rows.askBeginsSpec.pre6 enc Try.prog Try.f6 Rows.askBeginsRow.domain false) (Rows.askBeginsSpec.post enc Try.prog Try.f6 false true false false) := by
  refine returnsInHanded_of_change (C := Try.checked) own started (by kernel_rfl) Try.func6
    (ChangeSpec.witness6 (enc := enc) (C := Try.checked) false ⟨#[], #[.agg #[.int .i64 0, .int .i64 0, .slice none 0 0, .int .i64 0]], []⟩ 8 (by kernel_rfl) (by kernel_rfl) (by kernel_rfl) (by kernel_rfl)) ?_
  intro W base args ds gs before hval0 hW _ _
  have hval : ∀ (j : Nat) t v, Try.f6.params[j]? = some t → args[j]? = some v → Value.okWide Try.prog W .any base t v := hval0
  have hW' := hW
  obtain ⟨p, q, hA0, hV, rfl, _, _⟩ := hW
  have hA : DataW.TrodAll enc Try.prog W 0 (fun _ => true) true Try.f6.params.toList args.toList ds p := hA0
  rw [Try.params6] at hA hval
  obtain ⟨v0, vs0, d0, ds0, p0, q0, hargs, rfl, rfl, h0, r0x⟩ := trodAll_cons hA
  obtain ⟨rfl, rfl, rfl⟩ := trodAll_nil r0x
  obtain rfl : args = #[v0] := by cases args; simp_all
  obtain ⟨c0, s0, o0, A0, xs0, cp0, rfl, hx0⟩ := open_begins (hval 0 43 v0 rfl rfl) h0
  clear hA0 hval0
  refine (walk c0 s0 o0 A0 xs0 cp0 W hx0).mono fun e W' ⟨he, hg⟩ => ?_
  subst he
  exact ⟨_, rfl, law_post hW' rfl rfl (fun h => by subst h; exact ⟨rfl, rfl, rfl⟩) (by rw [Try.params6]; intro t ht; simp at ht; rcases ht with rfl <;> exact ⟨by kernel_rfl, of_decide_eq_true (by kernel_rfl)⟩) hg⟩

theorem over : Rows.askBeginsRow.holds Try.pinned (OpenSpec.ofChange Rows.askBeginsSpec) :=
  OpenClaim.holds_of_wide 6 Try.f6 rfl rfl rfl rfl rfl rfl rfl ⟨rfl, rfl, rfl, rfl, rfl⟩ rfl rfl rfl rfl rfl (by kernel_rfl) Try.func6 (by kernel_rfl)
    (of_decide_eq_true (by kernel_rfl)) (by unfold Func.isWrapper; first | (rw [if_pos (by decide +kernel)]; kernel_rfl) | (rw [if_neg (by decide +kernel)]; exact ⟨rfl, rfl⟩))
    (fun os started H enc _ => lifted os started H enc)

theorem proved : Rows.AskBeginsSaid :=
  over
#print axioms proved
end askBegins
end Go.Proofs.Ytnmbcdphjmcomaa
