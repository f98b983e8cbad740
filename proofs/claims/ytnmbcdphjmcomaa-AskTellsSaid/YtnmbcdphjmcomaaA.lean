/- Contracts of the small functions: Equal, Stan, Known, fits. -/
import Derived.Test.YtnmbcdphjmcomaaZ
import Derived.WalkLawsBesides
import Derived.WalkSpells
import Derived.Laws.BytesArg
namespace Go.Proofs.Ytnmbcdphjmcomaa
open Go.RowKit

def sameL (xs ys : List Int) : Bool := xs == ys
theorem sameL_true {xs ys : List Int} (h : xs = ys) : sameL xs ys = true := by unfold sameL; rw [beq_iff_eq]; exact h
theorem sameL_self (xs : List Int) : sameL xs xs = true := sameL_true rfl
theorem sameL_nil (xs : List Int) : sameL xs [] = (xs.length == 0) := by cases xs <;> rfl

theorem run_convert_zero (w : World) (src e : TypeId) (hs : Try.prog.underlying src = some (.slice e)) (he : Try.prog.underlying e = some (.int .u8)) (p : Option Addr) (c : Nat) :
    ∀ dst, Try.prog.underlying dst = some .string → (convert src dst (.slice p 0 c)).run Try.prog w = .ok (.string ByteArray.empty) w := by
  intro dst hd
  rw [run_convert_bytes_string w src dst e _ 0 c hs he hd]
  cases p <;> simp [Conv.bytesToString, loadCells]
  all_goals rfl

theorem Rb.convert {w : World} {A : Option Addr} {xs : List Int} (h : Rb w A xs) (c : Nat) : (convert 22 9 (.slice A xs.length c)).run Try.prog w = .ok (.string (strOfNums xs)) w := by
  rcases Nat.eq_zero_or_pos xs.length with h0 | h0
  · obtain rfl : xs = [] := List.eq_nil_of_length_eq_zero h0
    exact run_convert_zero w 22 5 Try.underlying22 Try.underlying5 A c 9 Try.underlying9
  · obtain ⟨b, off, rfl, _, hc⟩ := h.cells h0
    exact run_convert_bytes_arg (P := Try.prog) w 22 5 Try.underlying22 Try.underlying5 b off xs.length c xs rfl hc 9 Try.underlying9

theorem str_inj {xs ys : List Int} (hx : ∀ x ∈ xs, 0 ≤ x ∧ x ≤ 255) (hy : ∀ x ∈ ys, 0 ≤ x ∧ x ≤ 255) (h : xs.map (fun n => UInt8.ofNat n.toNat) = ys.map fun n => UInt8.ofNat n.toNat) : xs = ys := by
  induction xs generalizing ys with
  | nil => cases ys with
    | nil => rfl
    | cons y ys => simp at h
  | cons x xs ih => cases ys with
    | nil => simp at h
    | cons y ys =>
      simp only [List.map_cons, List.cons.injEq] at h
      have h1 := congrArg UInt8.toNat h.1
      have hx0 := hx x (by simp)
      have hy0 := hy y (by simp)
      simp only [UInt8.toNat_ofNat'] at h1
      have hxy : x = y := by omega
      rw [hxy, ih (fun z hz => hx z (by simp [hz])) (fun z hz => hy z (by simp [hz])) h.2]

theorem str_beq {xs ys : List Int} (hx : ∀ x ∈ xs, 0 ≤ x ∧ x ≤ 255) (hy : ∀ x ∈ ys, 0 ≤ x ∧ x ≤ 255) : ((strOfNums xs).toList == (strOfNums ys).toList) = sameL xs ys := by
  have e : ∀ zs : List Int, (strOfNums zs).toList = zs.map fun n => UInt8.ofNat n.toNat := fun zs => by rw [ByteArray.toList_eq]; rfl
  rw [e, e]
  unfold sameL
  rw [Bool.eq_iff_iff, beq_iff_eq, beq_iff_eq]
  exact ⟨str_inj hx hy, fun h => by rw [h]⟩

set_option maxRecDepth 100000 in
set_option maxHeartbeats 2000000 in
theorem equal_any (A A' : Option Addr) (xs ys : List Int) (c c' : Nat) (w : World) (hx : Rb w A xs) (hy : Rb w A' ys) :
    Calls Try.prog 28 #[.slice A xs.length c, .slice A' ys.length c'] w fun e w' => e = .returned (.bool (sameL xs ys)) ∧ w' = w := by
  have h1 := hx.convert c
  have h2 := hy.convert c'
  have HS := Lib.hid (str_beq hx.byte hy.byte)
  generalize strOfNums xs = s1 at *
  generalize strOfNums ys = s2 at *
  clear hx hy
  go_enter Try.func28, Try.ntmps28
  go_wp2
  go_ret
  exact ⟨by rw [← HS.out]; rfl, rfl⟩

set_option maxRecDepth 100000 in
set_option maxHeartbeats 2000000 in
theorem rsame_any (A A' : Option Addr) (xs ys : List Int) (c c' : Nat) (w : World) (hx : Rb w A xs) (hy : Rb w A' ys) :
    Calls Try.prog 24 #[.slice A xs.length c, .slice A' ys.length c'] w fun e w' => e = .returned (.bool (sameL xs ys)) ∧ w' = w := by
  have h1 := hx.convert c
  have h2 := hy.convert c'
  have HS := Lib.hid (str_beq hx.byte hy.byte)
  generalize strOfNums xs = s1 at *
  generalize strOfNums ys = s2 at *
  clear hx hy
  go_enter Try.func24, Try.ntmps24
  go_wp2
  go_ret
  exact ⟨by rw [← HS.out]; rfl, rfl⟩

def stanF (n : Int) : Int := if n < 0 ∨ 999999 ≤ n then 1 else n + 1
theorem stanF_range (n : Int) : 1 ≤ stanF n ∧ stanF n ≤ 999999 := by unfold stanF; split <;> omega
set_option maxRecDepth 100000 in
set_option maxHeartbeats 2000000 in
theorem stan_any (n : Int) (w : World) : Calls Try.prog 13 #[.int .i64 n] w fun e w' => e = .returned (.int .i64 (stanF n)) ∧ w' = w := by
  by_cases h0 : n < 0
  · have hv : Hid (stanF n = 1) := if_pos (Or.inl h0)
    have d0 : decide (n < 0) = true := by simp; omega
    go_enter Try.func13, Try.ntmps13
    go_wp2
    go_ret
    exact ⟨by rw [hv.out]; rfl, rfl⟩
  · have d0 : decide (n < 0) = false := by simp; omega
    by_cases h1 : 999999 ≤ n
    · have hv : Hid (stanF n = 1) := if_pos (Or.inr h1)
      have d1 : decide (999999 ≤ n) = true := by simp; omega
      have d2 : decide (999998 < n) = true := by simp; omega
      go_enter Try.func13, Try.ntmps13
      go_wp2
      go_ret
      exact ⟨by rw [hv.out]; rfl, rfl⟩
    · have hv : Hid (stanF n = n + 1) := if_neg (by omega)
      have d1 : decide (999999 ≤ n) = false := by simp; omega
      have d2 : decide (999998 < n) = false := by simp; omega
      go_enter Try.func13, Try.ntmps13
      go_wp2
      go_ret
      exact ⟨by rw [hv.out]; rfl, rfl⟩

set_option maxRecDepth 100000 in
set_option maxHeartbeats 2000000 in
theorem rstan_any (n : Int) (w : World) : Calls Try.prog 14 #[.int .i64 n] w fun e w' => e = .returned (.int .i64 (stanF n)) ∧ w' = w := by
  by_cases h0 : n < 0
  · have hv : Hid (stanF n = 1) := if_pos (Or.inl h0)
    have d0 : decide (n < 0) = true := by simp; omega
    go_enter Try.func14, Try.ntmps14
    go_wp2
    go_ret
    exact ⟨by rw [hv.out]; rfl, rfl⟩
  · have d0 : decide (n < 0) = false := by simp; omega
    by_cases h1 : 999999 ≤ n
    · have hv : Hid (stanF n = 1) := if_pos (Or.inr h1)
      have d1 : decide (999999 ≤ n) = true := by simp; omega
      have d2 : decide (999998 < n) = true := by simp; omega
      go_enter Try.func14, Try.ntmps14
      go_wp2
      go_ret
      exact ⟨by rw [hv.out]; rfl, rfl⟩
    · have hv : Hid (stanF n = n + 1) := if_neg (by omega)
      have d1 : decide (999999 ≤ n) = false := by simp; omega
      have d2 : decide (999998 < n) = false := by simp; omega
      go_enter Try.func14, Try.ntmps14
      go_wp2
      go_ret
      exact ⟨by rw [hv.out]; rfl, rfl⟩

def knownB (c : Int) : Bool := c == 1 || c == 2 || c == 101 || c == 201 || c == 301
set_option maxRecDepth 100000 in
set_option maxHeartbeats 2000000 in
theorem known_any (c : Int) (w : World) : Calls Try.prog 15 #[.int .i64 c] w fun e w' => e = .returned (.bool (knownB c)) ∧ w' = w := by
  by_cases h0 : c = 1
  · subst h0
    go_enter Try.func15, Try.ntmps15
    go_wp2
    go_ret
    exact ⟨rfl, rfl⟩
  have e0 : (c == 1) = false := beq_eq_false_iff_ne.2 h0
  by_cases h1 : c = 2
  · subst h1
    go_enter Try.func15, Try.ntmps15
    go_wp2
    go_ret
    exact ⟨rfl, rfl⟩
  have e1 : (c == 2) = false := beq_eq_false_iff_ne.2 h1
  by_cases h2 : c = 101
  · subst h2
    go_enter Try.func15, Try.ntmps15
    go_wp2
    go_ret
    exact ⟨rfl, rfl⟩
  have e2 : (c == 101) = false := beq_eq_false_iff_ne.2 h2
  by_cases h3 : c = 201
  · subst h3
    go_enter Try.func15, Try.ntmps15
    go_wp2
    go_ret
    exact ⟨rfl, rfl⟩
  have e3 : (c == 201) = false := beq_eq_false_iff_ne.2 h3
  by_cases h4 : c = 301
  · subst h4
    go_enter Try.func15, Try.ntmps15
    go_wp2
    go_ret
    exact ⟨rfl, rfl⟩
  have e4 : (c == 301) = false := beq_eq_false_iff_ne.2 h4
  have hv : Hid (knownB c = false) := by show knownB c = false; unfold knownB; rw [e0, e1, e2, e3, e4]; rfl
  clear h0 h1 h2 h3 h4
  go_enter Try.func15, Try.ntmps15
  go_wp2
  go_ret
  exact ⟨by rw [hv.out]; rfl, rfl⟩

set_option maxRecDepth 100000 in
set_option maxHeartbeats 2000000 in
theorem rknown_any (c : Int) (w : World) : Calls Try.prog 16 #[.int .i64 c] w fun e w' => e = .returned (.bool (knownB c)) ∧ w' = w := by
  by_cases h0 : c = 1
  · subst h0
    go_enter Try.func16, Try.ntmps16
    go_wp2
    go_ret
    exact ⟨rfl, rfl⟩
  have e0 : (c == 1) = false := beq_eq_false_iff_ne.2 h0
  by_cases h1 : c = 2
  · subst h1
    go_enter Try.func16, Try.ntmps16
    go_wp2
    go_ret
    exact ⟨rfl, rfl⟩
  have e1 : (c == 2) = false := beq_eq_false_iff_ne.2 h1
  by_cases h2 : c = 101
  · subst h2
    go_enter Try.func16, Try.ntmps16
    go_wp2
    go_ret
    exact ⟨rfl, rfl⟩
  have e2 : (c == 101) = false := beq_eq_false_iff_ne.2 h2
  by_cases h3 : c = 201
  · subst h3
    go_enter Try.func16, Try.ntmps16
    go_wp2
    go_ret
    exact ⟨rfl, rfl⟩
  have e3 : (c == 201) = false := beq_eq_false_iff_ne.2 h3
  by_cases h4 : c = 301
  · subst h4
    go_enter Try.func16, Try.ntmps16
    go_wp2
    go_ret
    exact ⟨rfl, rfl⟩
  have e4 : (c == 301) = false := beq_eq_false_iff_ne.2 h4
  have hv : Hid (knownB c = false) := by show knownB c = false; unfold knownB; rw [e0, e1, e2, e3, e4]; rfl
  clear h0 h1 h2 h3 h4
  go_enter Try.func16, Try.ntmps16
  go_wp2
  go_ret
  exact ⟨by rw [hv.out]; rfl, rfl⟩

def fitsB (c s : Int) (n : Nat) : Bool := knownB c && decide (1 ≤ s) && decide (s ≤ 999999) && decide (1 ≤ n) && decide (n ≤ 900)
set_option maxRecDepth 100000 in
set_option maxHeartbeats 2000000 in
theorem fits_any (c s : Int) (A : Option Addr) (n cp : Nat) (w : World) (hn : n ≤ maxLen) :
    Calls Try.prog 25 #[.int .i64 c, .int .i64 s, .slice A n cp] w fun e w' => e = .returned (.bool (fitsB c s n)) ∧ w' = w := by
  unfold maxLen at hn
  cases hk : knownB c
  · have HV : Hid (fitsB c s n = false) := by show fitsB c s n = false; unfold fitsB; simp [hk]
    have HK := Lib.hid hk
    clear hk
    go_enter Try.func25, Try.ntmps25
    go_wp2_with fail
    refine (known_any c _).mono ?_
    rintro e w' ⟨rfl, rfl⟩
    rw [HK.out]
    go_wp2_with fail
    go_ret
    exact ⟨by rw [HV.out]; rfl, rfl⟩
  by_cases h1 : 1 ≤ s
  rotate_left
  · have f10 : decide (1 ≤ s) = false := by simp; omega
    have HV : Hid (fitsB c s n = false) := by show fitsB c s n = false; unfold fitsB; simp [hk, f10]
    have HK := Lib.hid hk
    clear hk
    go_enter Try.func25, Try.ntmps25
    go_wp2_with fail
    refine (known_any c _).mono ?_
    rintro e w' ⟨rfl, rfl⟩
    rw [HK.out]
    go_wp2_with fail
    go_ret
    exact ⟨by rw [HV.out]; rfl, rfl⟩
  have f10 : decide (1 ≤ s) = true := by simp; omega
  by_cases h2 : s ≤ 999999
  rotate_left
  · have f20 : decide (s ≤ 999999) = false := by simp; omega
    have HV : Hid (fitsB c s n = false) := by show fitsB c s n = false; unfold fitsB; simp [hk, f10, f20]
    have HK := Lib.hid hk
    clear hk
    go_enter Try.func25, Try.ntmps25
    go_wp2_with fail
    refine (known_any c _).mono ?_
    rintro e w' ⟨rfl, rfl⟩
    rw [HK.out]
    go_wp2_with fail
    go_ret
    exact ⟨by rw [HV.out]; rfl, rfl⟩
  have f20 : decide (s ≤ 999999) = true := by simp; omega
  by_cases h3 : 1 ≤ n
  rotate_left
  · have f30 : decide (1 ≤ n) = false := by simp; omega
    have f31 : decide ((1 : Int) ≤ (n : Int)) = false := by simp; omega
    have f32 : decide (0 < n) = false := by simp; omega
    have HV : Hid (fitsB c s n = false) := by show fitsB c s n = false; unfold fitsB; simp [hk, f10, f20, f30]
    have HK := Lib.hid hk
    clear hk
    go_enter Try.func25, Try.ntmps25
    go_wp2_with fail
    refine (known_any c _).mono ?_
    rintro e w' ⟨rfl, rfl⟩
    rw [HK.out]
    go_wp2_with fail
    go_ret
    exact ⟨by rw [HV.out]; rfl, rfl⟩
  have f30 : decide (1 ≤ n) = true := by simp; omega
  have f31 : decide ((1 : Int) ≤ (n : Int)) = true := by simp; omega
  have f32 : decide (0 < n) = true := by simp; omega
  by_cases h4 : n ≤ 900
  rotate_left
  · have f40 : decide (n ≤ 900) = false := by simp; omega
    have f41 : decide ((n : Int) ≤ 900) = false := by simp; omega
    have HV : Hid (fitsB c s n = false) := by show fitsB c s n = false; unfold fitsB; simp [hk, f10, f20, f30, f40]
    have HK := Lib.hid hk
    clear hk
    go_enter Try.func25, Try.ntmps25
    go_wp2_with fail
    refine (known_any c _).mono ?_
    rintro e w' ⟨rfl, rfl⟩
    rw [HK.out]
    go_wp2_with fail
    go_ret
    exact ⟨by rw [HV.out]; rfl, rfl⟩
  have f40 : decide (n ≤ 900) = true := by simp; omega
  have f41 : decide ((n : Int) ≤ 900) = true := by simp; omega
  have HV : Hid (fitsB c s n = true) := by show fitsB c s n = true; unfold fitsB; simp [hk, f10, f20, f30, f40]
  have HK := Lib.hid hk
  clear hk
  go_enter Try.func25, Try.ntmps25
  go_wp2_with fail
  refine (known_any c _).mono ?_
  rintro e w' ⟨rfl, rfl⟩
  rw [HK.out]
  go_wp2_with fail
  go_ret
  exact ⟨by rw [HV.out]; rfl, rfl⟩

set_option maxRecDepth 100000 in
set_option maxHeartbeats 2000000 in
theorem rfits_any (c s : Int) (A : Option Addr) (n cp : Nat) (w : World) (hn : n ≤ maxLen) :
    Calls Try.prog 26 #[.int .i64 c, .int .i64 s, .slice A n cp] w fun e w' => e = .returned (.bool (fitsB c s n)) ∧ w' = w := by
  unfold maxLen at hn
  cases hk : knownB c
  · have HV : Hid (fitsB c s n = false) := by show fitsB c s n = false; unfold fitsB; simp [hk]
    have HK := Lib.hid hk
    clear hk
    go_enter Try.func26, Try.ntmps26
    go_wp2_with fail
    refine (rknown_any c _).mono ?_
    rintro e w' ⟨rfl, rfl⟩
    rw [HK.out]
    go_wp2_with fail
    go_ret
    exact ⟨by rw [HV.out]; rfl, rfl⟩
  by_cases h1 : 1 ≤ s
  rotate_left
  · have f10 : decide (1 ≤ s) = false := by simp; omega
    have HV : Hid (fitsB c s n = false) := by show fitsB c s n = false; unfold fitsB; simp [hk, f10]
    have HK := Lib.hid hk
    clear hk
    go_enter Try.func26, Try.ntmps26
    go_wp2_with fail
    refine (rknown_any c _).mono ?_
    rintro e w' ⟨rfl, rfl⟩
    rw [HK.out]
    go_wp2_with fail
    go_ret
    exact ⟨by rw [HV.out]; rfl, rfl⟩
  have f10 : decide (1 ≤ s) = true := by simp; omega
  by_cases h2 : s ≤ 999999
  rotate_left
  · have f20 : decide (s ≤ 999999) = false := by simp; omega
    have HV : Hid (fitsB c s n = false) := by show fitsB c s n = false; unfold fitsB; simp [hk, f10, f20]
    have HK := Lib.hid hk
    clear hk
    go_enter Try.func26, Try.ntmps26
    go_wp2_with fail
    refine (rknown_any c _).mono ?_
    rintro e w' ⟨rfl, rfl⟩
    rw [HK.out]
    go_wp2_with fail
    go_ret
    exact ⟨by rw [HV.out]; rfl, rfl⟩
  have f20 : decide (s ≤ 999999) = true := by simp; omega
  by_cases h3 : 1 ≤ n
  rotate_left
  · have f30 : decide (1 ≤ n) = false := by simp; omega
    have f31 : decide ((1 : Int) ≤ (n : Int)) = false := by simp; omega
    have f32 : decide (0 < n) = false := by simp; omega
    have HV : Hid (fitsB c s n = false) := by show fitsB c s n = false; unfold fitsB; simp [hk, f10, f20, f30]
    have HK := Lib.hid hk
    clear hk
    go_enter Try.func26, Try.ntmps26
    go_wp2_with fail
    refine (rknown_any c _).mono ?_
    rintro e w' ⟨rfl, rfl⟩
    rw [HK.out]
    go_wp2_with fail
    go_ret
    exact ⟨by rw [HV.out]; rfl, rfl⟩
  have f30 : decide (1 ≤ n) = true := by simp; omega
  have f31 : decide ((1 : Int) ≤ (n : Int)) = true := by simp; omega
  have f32 : decide (0 < n) = true := by simp; omega
  by_cases h4 : n ≤ 900
  rotate_left
  · have f40 : decide (n ≤ 900) = false := by simp; omega
    have f41 : decide ((n : Int) ≤ 900) = false := by simp; omega
    have HV : Hid (fitsB c s n = false) := by show fitsB c s n = false; unfold fitsB; simp [hk, f10, f20, f30, f40]
    have HK := Lib.hid hk
    clear hk
    go_enter Try.func26, Try.ntmps26
    go_wp2_with fail
    refine (rknown_any c _).mono ?_
    rintro e w' ⟨rfl, rfl⟩
    rw [HK.out]
    go_wp2_with fail
    go_ret
    exact ⟨by rw [HV.out]; rfl, rfl⟩
  have f40 : decide (n ≤ 900) = true := by simp; omega
  have f41 : decide ((n : Int) ≤ 900) = true := by simp; omega
  have HV : Hid (fitsB c s n = true) := by show fitsB c s n = true; unfold fitsB; simp [hk, f10, f20, f30, f40]
  have HK := Lib.hid hk
  clear hk
  go_enter Try.func26, Try.ntmps26
  go_wp2_with fail
  refine (rknown_any c _).mono ?_
  rintro e w' ⟨rfl, rfl⟩
  rw [HK.out]
  go_wp2_with fail
  go_ret
  exact ⟨by rw [HV.out]; rfl, rfl⟩

end Go.Proofs.Ytnmbcdphjmcomaa
