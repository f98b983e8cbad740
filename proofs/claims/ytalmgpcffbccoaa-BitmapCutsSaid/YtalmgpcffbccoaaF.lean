/- Contracts: the reference's Write. -/
import Derived.Test.YtalmgpcffbccoaaE
import Derived.Test.YtalmgpcffbccoaaN
namespace Go.Proofs.Ytalmgpcffbccoaa
open Go.RowKit

def allL (wide : Bool) (l : List Int) : List Int := l ++ (if wide then [1] else [])
theorem mem_take {l : List Int} {k : Nat} {x : Int} (h : x ∈ l.take k) : ∃ i, i < k ∧ i < l.length ∧ x = l.getD i 0 := by
  obtain ⟨i, hi, e⟩ := List.mem_iff_getElem.1 h
  have hi' : i < k ∧ i < l.length := by rw [List.length_take] at hi; omega
  refine ⟨i, hi'.1, hi'.2, ?_⟩
  rw [← e, List.getElem_take, List.getD_eq_getElem?_getD, List.getElem?_eq_getElem hi'.2]; rfl
theorem memS_false {l : List Int} {n : Nat} (h : ∀ x ∈ l, x ≠ (n : Int)) : memS l n = false := by
  unfold memS
  rw [List.any_eq_false]
  intro x hx
  simpa using h x hx
theorem all_len (wide : Bool) (l : List Int) : (allL wide l).length = l.length + (if wide then 1 else 0) := by
  unfold allL; cases wide <;> simp
theorem all_get {l : List Int} {wide : Bool} {k : Nat} (hk : k < l.length) : (allL wide l).getD k 0 = l.getD k 0 := by
  unfold allL; rw [List.getD_eq_getElem?_getD, List.getD_eq_getElem?_getD, List.getElem?_append_left hk]
theorem all_last {l : List Int} : (allL true l).getD l.length 0 = 1 := by
  unfold allL; rw [List.getD_eq_getElem?_getD, List.getElem?_append_right (Nat.le_refl _), Nat.sub_self]; rfl
theorem all_room {l : List Int} {wide : Bool} (hr : rightL l = true) (hw : wideL l = wide) {k : Nat} (hk : k < (allL wide l).length) :
    ∃ n : Nat, (allL wide l).getD k 0 = (n : Int) ∧ 1 ≤ n ∧ n ≤ 128 ∧ (n - 1) / 8 < (if wide then 16 else 8) ∧ setK false ((allL wide l).take k) n = false := by
  by_cases hkl : k < l.length
  · obtain ⟨n, hn, h2, h128, hj⟩ := place_room hr hw hkl
    refine ⟨n, by rw [all_get hkl, hn], by omega, h128, hj, ?_⟩
    have e : (allL wide l).take k = l.take k := by unfold allL; rw [List.take_append_of_le_length (by omega)]
    rw [e]
    show ((false && n == 1) || memS (l.take k) n) = false
    rw [Bool.false_and, Bool.false_or]
    refine memS_false fun x hx => ?_
    obtain ⟨i, hik, hil, rfl⟩ := mem_take hx
    have := right_mono hr hik hkl
    omega
  · cases wide
    · rw [all_len] at hk; simp at hk; omega
    · have e : k = l.length := by rw [all_len] at hk; simp at hk; omega
      subst e
      refine ⟨1, all_last, by omega, by omega, by simp, ?_⟩
      have e : (allL true l).take l.length = l := by unfold allL; rw [List.take_append_of_le_length (by omega), List.take_length]
      rw [e]
      show ((false && _) || memS l 1) = false
      rw [Bool.false_and, Bool.false_or]
      refine memS_false fun x hx => ?_
      obtain ⟨i, hi, rfl⟩ := List.mem_iff_getElem.1 hx
      have := right_get hr hi
      rw [List.getD_eq_getElem?_getD, List.getElem?_eq_getElem hi] at this
      have h2 := this.1
      simp only [Option.getD_some] at h2
      omega
theorem all_set (wide : Bool) (l : List Int) : setK false (allL wide l) = setK wide l := by
  cases wide
  · unfold allL; simp
  · have : allL true l = l ++ [((1 : Nat) : Int)] := rfl
    rw [this, setK_snoc]
    funext q
    show (q == 1 || ((false && q == 1) || memS l q)) = ((true && q == 1) || memS l q)
    simp
theorem byte_sum (S : Nat → Bool) (n : Nat) (h1 : 1 ≤ n) (h : S n = false) : IntKind.u8.wrap (((byteN S ((n - 1) / 8) : Nat) : Int) + ((2 ^ (7 - (n - 1) % 8) : Nat) : Int)) = ((byteN (upd S n) ((n - 1) / 8) : Nat) : Int) := by
  have hlt := byteN_lt (upd S n) ((n - 1) / 8)
  rw [add_byte S n h1 h]
  exact wrap_u8 (by omega) (by omega)
theorem info3 : (Try.prog.info? 3).map (fun i => (i.zero, i.size, i.bytes)) = some (some (.int .i64 0), 1, 8) := by kernel_rfl

set_option maxRecDepth 100000 in
set_option maxHeartbeats 4000000 in
theorem rwrite_no (A : Option Addr) (l : List Int) (c : Nat) (w : World) (hx : Ri w A l) (hr : rightL l = false) : Calls Try.prog 11 #[.slice A l.length c] w fun e w' => e = .returned (.tuple #[.slice none 0 0, .int .i64 1]) ∧ Below w.heap.size w w' := by
  have HX := Lib.hid hx
  have HR := Lib.hid hr
  clear hx hr
  go_enter Try.func11, Try.ntmps11
  go_wp2_with fail
  refine (rright_any A l c _ HX.out).mono ?_
  rintro e w' ⟨rfl, hb⟩
  rw [HR.out]
  have HB := Lib.hid hb
  clear hb
  go_wp2_with fail
  go_ret2
  exact ⟨rfl, HB.out⟩

theorem one_wf : ∀ x ∈ ([1] : List Int), (Lit.int .i64 x).wf = true := by intro x hx; simp at hx; subst hx; rfl
theorem one_cell : ∀ j, j < ([1] : List Int).length → (#[Value.int .i64 1])[0 + j]? = some (.int .i64 (([1] : List Int).getD j 0)) := by
  intro j hj; simp at hj; subst hj; rfl

set_option maxRecDepth 100000 in
set_option maxHeartbeats 8000000 in
theorem rwrite_wide (A : Option Addr) (l : List Int) (c : Nat) (w : World) (hx : Ri w A l) (hm : l.length ≤ 1000) (hr : rightL l = true) (hw : wideL l = true) : Calls Try.prog 11 #[.slice A l.length c] w (GivesB .i64 (outL l) 0 w) := by
  have HX := Lib.hid hx
  have HR := Lib.hid hr
  have HW := Lib.hid hw
  have h0 : 0 < l.length := by unfold wideL at hw; simp at hw; omega
  have h64 : 64 < l.getD (l.length - 1) 0 := by unfold wideL at hw; simp at hw; simpa using hw.2
  obtain ⟨b, off, rfl, hb, hc⟩ := hx.cells h0
  have hcl := hc (l.length - 1) (by omega)
  have d0 : decide (0 < l.length) = true := decide_eq_true h0
  have d1 : decide (64 < l.getD (l.length - 1) 0) = true := decide_eq_true h64
  generalize l.getD (l.length - 1) 0 = z at *
  clear hc h64
  have HCL := Lib.hid hcl
  clear hx hr hw
  have mk := mk16
  obtain ⟨i0, hi0, hz0, hz1, hz2⟩ := info_parts info3
  go_enter Try.func11, Try.ntmps11
  go_wp2_with fail
  refine (rright_any _ l c _ HX.out).mono ?_
  rintro e w1 ⟨rfl, hb1⟩
  rw [HR.out]
  have HX1 := Lib.hid (HX.out.below hb1)
  have HB1 := Lib.hid hb1
  clear hb1 hcl
  go_wp2_with (first | ((with_reducible refine at_dst 17 ?_); refine wpList_append_rs rfl (.tmp 15) (.tmp 16) 22 rfl w.heap.size 3 i0 _ 8 Try.underlying22 hi0 hz0 hz1 hz2 rfl _ 0 [] rfl (own_empty w1 w.heap.size 3 HB1.out.size) _ l c rfl (HX1.out.alloc _) (by unfold maxLen; omega) (by omega) (by have := HB1.out.size; simp; omega) ?_; intro B1 cap1 w2 hown1 hgrow1; have HB2 := Lib.hid (below_own (HB1.out.alloc HB1.out.size _) (own_empty w1 w.heap.size 3 HB1.out.size) hgrow1); have q2 : w2.cell? ⟨b, off + (l.length - 1), none⟩ = some (.int .i64 z) := (HB2.out.cell (p := ⟨b, off + (l.length - 1), none⟩) hb).trans HCL.out; have HO := Lib.hid hown1; clear hown1 hgrow1; rw [Nat.zero_add] at HO ⊢) | ((with_reducible refine at_dst 32 ?_); refine wpList_append_rs (k := .i64) rfl (.tmp 30) (.tmp 31) 22 rfl w.heap.size 3 i0 _ 8 Try.underlying22 hi0 hz0 hz1 hz2 rfl _ l.length _ rfl (HO.out.alloc _) (some ⟨w2.heap.size, 0, none⟩) [1] 1 rfl (Rs.of_blk (Blk.new w2 3 #[.int .i64 1]) (by simp [maxLen]) one_wf one_cell) (by unfold maxLen; simp; omega) (by simp; omega) (by have := HB2.out.size; simp; omega) ?_; intro B2 cap2 w3 hown2 hgrow2; have HB3 := Lib.hid (below_own (HB2.out.alloc HB2.out.size _) (HO.out.alloc _) hgrow2); have HO3 := Lib.hid hown2; clear hown2 hgrow2) | fail)
  have kb0 : Blk (w3.alloc (.cells #[.int .u8 0, .int .u8 0, .int .u8 0, .int .u8 0, .int .u8 0, .int .u8 0, .int .u8 0, .int .u8 0, .int .u8 0, .int .u8 0, .int .u8 0, .int .u8 0, .int .u8 0, .int .u8 0, .int .u8 0, .int .u8 0] 5)) w3.heap.size 5 (bytesA (setK false ((allL true l).take 0)) 16) := (Blk.new w3 5 _).trans (by rw [zeros16, List.take_zero])
  have HOA : Hid (w3.ownsRow w.heap.size 3 1 (.slice B2 (l.length + 1) cap2) (l.length + 1) ((allL true l).map (Value.int .i64))) := Lib.hid (by have := HO3.out; simpa [allL] using this)
  have HL : Hid ((allL true l).length = l.length + 1) := Lib.hid (by rw [all_len]; simp)
  have h0 : Hid (w3.alloc (.cells #[.int .u8 0, .int .u8 0, .int .u8 0, .int .u8 0, .int .u8 0, .int .u8 0, .int .u8 0, .int .u8 0, .int .u8 0, .int .u8 0, .int .u8 0, .int .u8 0, .int .u8 0, .int .u8 0, .int .u8 0, .int .u8 0] 5) = w3.alloc (.cells #[.int .u8 0, .int .u8 0, .int .u8 0, .int .u8 0, .int .u8 0, .int .u8 0, .int .u8 0, .int .u8 0, .int .u8 0, .int .u8 0, .int .u8 0, .int .u8 0, .int .u8 0, .int .u8 0, .int .u8 0, .int .u8 0] 5)) := Lib.hid rfl
  clear h0 HO3 mk
  go_loopw [8] (fun i wr => ∃ k : Nat, k ≤ l.length + 1 ∧ i = .int .i64 k ∧ Below w.heap.size w wr ∧ Blk wr w3.heap.size 5 (bytesA (setK false ((allL true l).take k)) 16) ∧ wr.ownsRow w.heap.size 3 1 (.slice B2 (l.length + 1) cap2) (l.length + 1) ((allL true l).map (Value.int .i64))) (fun i _ => l.length + 1 - (intOf i).toNat)
  case atStart => exact ⟨0, by omega, rfl, HB3.out.alloc HB3.out.size _, kb0, HOA.out.alloc _⟩
  case round =>
    clear kb0 HOA
    obtain ⟨k, hk, rfl, hbl, kb, ho⟩ := hrel
    by_cases hlt : k < l.length + 1
    · obtain ⟨n, hn, hn1, hn128, hjm, hfr⟩ := all_room HR.out HW.out (show k < (allL true l).length by rw [HL.out]; exact hlt)
      obtain ⟨p1, p2⟩ := place_nat (n := n) (by omega) hn128
      obtain ⟨g2, cap2', hsl, hck0⟩ := own_read ho hlt
      obtain ⟨rfl, rfl⟩ : B2 = some ⟨g2, 0, none⟩ ∧ cap2 = cap2' := by injection hsl with h1 _ h2; exact ⟨h1, h2⟩
      have hck : wr.cell? ⟨g2, k, none⟩ = some (.int .i64 (n : Int)) := by
        rw [hck0, List.getElem?_map, ← hn, List.getD_eq_getElem?_getD, List.getElem?_eq_getElem (show k < (allL true l).length by rw [HL.out]; exact hlt)]; rfl
      have HS := Lib.hid (setK_take (b := false) (show k < (allL true l).length by rw [HL.out]; exact hlt) hn)
      have hj16 : (n - 1) / 8 < 16 := by simpa using hjm
      have HU := Lib.hid (bytesA_upd (setK false ((allL true l).take k)) 16 n (by omega))
      have hO := byte_sum (setK false ((allL true l).take k)) n (by omega) hfr
      have HG := Lib.hid (bytesA_get (setK false ((allL true l).take k)) hj16)
      have HP : Hid (∀ W, Calls Try.prog 13 #[.int .i64 n] W fun e w' => e = .returned (.tuple #[.int .i64 (((n - 1) / 8 : Nat) : Int), .int .u8 ((2 ^ (7 - (n - 1) % 8) : Nat) : Int)]) ∧ w' = W) := Lib.hid fun W => by
        have h := rplace_any n W
        rwa [p1, p2] at h
      clear p1 p2 hn hjm hfr hsl hck0
      generalize 2 ^ (7 - (n - 1) % 8) = q at *
      generalize (n - 1) / 8 = j at *
      have jl : (j : Int) < 16 := by omega
      have HBl := Lib.hid hbl
      have HOl := Lib.hid ho
      have hc2 : wr.cell? ⟨w3.heap.size, j, none⟩ = some (.int .u8 ((byteN (setK false ((allL true l).take k)) j : Nat) : Int)) := (kb.cell j).trans HG.out
      have hf2 := kb.frozen j
      generalize byteN (setK false ((allL true l).take k)) j = bx at *
      clear hbl ho
      go_wp2_with fail
      refine (HP.out _).mono ?_
      rintro e w2' ⟨rfl, rfl⟩
      go_wp2_with fail
      go_roundw
      case rel => exact ⟨k + 1, by omega, by go_num, HBl.out.setCell (p := ⟨w3.heap.size, j, none⟩) (by have := HB3.out.size; simp; omega) _, by rw [HS.out]; exact kb.set_to j _ HU.out, own_grown HOl.out kb (by decide) (grown_set _ _ _ _)⟩
      case measure => simp [intOf]; omega
    · have HE : Hid (bytesL (setK false ((allL true l).take k)) 16 = outL l) := Lib.hid (by
        rw [List.take_of_length_le (by rw [HL.out]; omega), all_set]; unfold outL sizeL; rw [HW.out]; rfl)
      have HLO : Hid ((outL l).length = 16) := Lib.hid (by rw [outL_len]; unfold sizeL; rw [HW.out]; rfl)
      go_wp2_with fail
      go_ret2
      refine ⟨some ⟨w3.heap.size, 0, none⟩, 16, by rw [HLO.out]; rfl, by rw [HLO.out]; omega, ?_, hbl⟩
      rw [← HE.out]
      exact rs_bytes (by omega) kb

set_option maxRecDepth 100000 in
set_option maxHeartbeats 8000000 in
theorem rwrite_narrow (A : Option Addr) (l : List Int) (c : Nat) (w : World) (hx : Ri w A l) (hm : l.length ≤ 1000) (hr : rightL l = true) (hw : wideL l = false) (hl : 0 < l.length) : Calls Try.prog 11 #[.slice A l.length c] w (GivesB .i64 (outL l) 0 w) := by
  have HX := Lib.hid hx
  have HR := Lib.hid hr
  have HW := Lib.hid hw
  have h0 : 0 < l.length := hl
  have h64 : ¬ 64 < l.getD (l.length - 1) 0 := by unfold wideL at hw; simp at hw; have := hw (by omega); simpa using this
  obtain ⟨b, off, rfl, hb, hc⟩ := hx.cells h0
  have hcl := hc (l.length - 1) (by omega)
  have d0 : decide (0 < l.length) = true := decide_eq_true h0
  have d1 : decide (64 < l.getD (l.length - 1) 0) = false := decide_eq_false h64
  generalize l.getD (l.length - 1) 0 = z at *
  clear hc h64 hl
  have HCL := Lib.hid hcl
  clear hx hr hw
  have mk := mk8
  obtain ⟨i0, hi0, hz0, hz1, hz2⟩ := info_parts info3
  go_enter Try.func11, Try.ntmps11
  go_wp2_with fail
  refine (rright_any _ l c _ HX.out).mono ?_
  rintro e w1 ⟨rfl, hb1⟩
  rw [HR.out]
  have HX1 := Lib.hid (HX.out.below hb1)
  have HB1 := Lib.hid hb1
  clear hb1 hcl
  go_wp2_with (first | ((with_reducible refine at_dst 17 ?_); refine wpList_append_rs rfl (.tmp 15) (.tmp 16) 22 rfl w.heap.size 3 i0 _ 8 Try.underlying22 hi0 hz0 hz1 hz2 rfl _ 0 [] rfl (own_empty w1 w.heap.size 3 HB1.out.size) _ l c rfl (HX1.out.alloc _) (by unfold maxLen; omega) (by omega) (by have := HB1.out.size; simp; omega) ?_; intro B1 cap1 w2 hown1 hgrow1; have HB2 := Lib.hid (below_own (HB1.out.alloc HB1.out.size _) (own_empty w1 w.heap.size 3 HB1.out.size) hgrow1); have q2 : w2.cell? ⟨b, off + (l.length - 1), none⟩ = some (.int .i64 z) := (HB2.out.cell (p := ⟨b, off + (l.length - 1), none⟩) hb).trans HCL.out; have HO := Lib.hid hown1; clear hown1 hgrow1; rw [Nat.zero_add] at HO ⊢) | fail)
  have kb0 : Blk (w2.alloc (.cells #[.int .u8 0, .int .u8 0, .int .u8 0, .int .u8 0, .int .u8 0, .int .u8 0, .int .u8 0, .int .u8 0] 5)) w2.heap.size 5 (bytesA (setK false ((allL false l).take 0)) 8) := (Blk.new w2 5 _).trans (by rw [zeros8, List.take_zero])
  have HOA : Hid (w2.ownsRow w.heap.size 3 1 (.slice B1 (l.length) cap1) (l.length) ((allL false l).map (Value.int .i64))) := Lib.hid (by have := HO.out; simpa [allL] using this)
  have HL : Hid ((allL false l).length = l.length) := Lib.hid (by rw [all_len]; simp)
  have h0 : Hid (w2.alloc (.cells #[.int .u8 0, .int .u8 0, .int .u8 0, .int .u8 0, .int .u8 0, .int .u8 0, .int .u8 0, .int .u8 0] 5) = w2.alloc (.cells #[.int .u8 0, .int .u8 0, .int .u8 0, .int .u8 0, .int .u8 0, .int .u8 0, .int .u8 0, .int .u8 0] 5)) := Lib.hid rfl
  clear h0 HO mk
  go_loopw [8] (fun i wr => ∃ k : Nat, k ≤ l.length ∧ i = .int .i64 k ∧ Below w.heap.size w wr ∧ Blk wr w2.heap.size 5 (bytesA (setK false ((allL false l).take k)) 8) ∧ wr.ownsRow w.heap.size 3 1 (.slice B1 (l.length) cap1) (l.length) ((allL false l).map (Value.int .i64))) (fun i _ => l.length - (intOf i).toNat)
  case atStart => exact ⟨0, by omega, rfl, HB2.out.alloc HB2.out.size _, kb0, HOA.out.alloc _⟩
  case round =>
    clear kb0 HOA
    obtain ⟨k, hk, rfl, hbl, kb, ho⟩ := hrel
    by_cases hlt : k < l.length
    · obtain ⟨n, hn, hn1, hn128, hjm, hfr⟩ := all_room HR.out HW.out (show k < (allL false l).length by rw [HL.out]; exact hlt)
      obtain ⟨p1, p2⟩ := place_nat (n := n) (by omega) hn128
      obtain ⟨g2, cap2', hsl, hck0⟩ := own_read ho hlt
      obtain ⟨rfl, rfl⟩ : B1 = some ⟨g2, 0, none⟩ ∧ cap1 = cap2' := by injection hsl with h1 _ h2; exact ⟨h1, h2⟩
      have hck : wr.cell? ⟨g2, k, none⟩ = some (.int .i64 (n : Int)) := by
        rw [hck0, List.getElem?_map, ← hn, List.getD_eq_getElem?_getD, List.getElem?_eq_getElem (show k < (allL false l).length by rw [HL.out]; exact hlt)]; rfl
      have HS := Lib.hid (setK_take (b := false) (show k < (allL false l).length by rw [HL.out]; exact hlt) hn)
      have hj16 : (n - 1) / 8 < 8 := by simpa using hjm
      have HU := Lib.hid (bytesA_upd (setK false ((allL false l).take k)) 8 n (by omega))
      have hO := byte_sum (setK false ((allL false l).take k)) n (by omega) hfr
      have HG := Lib.hid (bytesA_get (setK false ((allL false l).take k)) hj16)
      have HP : Hid (∀ W, Calls Try.prog 13 #[.int .i64 n] W fun e w' => e = .returned (.tuple #[.int .i64 (((n - 1) / 8 : Nat) : Int), .int .u8 ((2 ^ (7 - (n - 1) % 8) : Nat) : Int)]) ∧ w' = W) := Lib.hid fun W => by
        have h := rplace_any n W
        rwa [p1, p2] at h
      clear p1 p2 hn hjm hfr hsl hck0
      generalize 2 ^ (7 - (n - 1) % 8) = q at *
      generalize (n - 1) / 8 = j at *
      have jl : (j : Int) < 8 := by omega
      have HBl := Lib.hid hbl
      have HOl := Lib.hid ho
      have hc2 : wr.cell? ⟨w2.heap.size, j, none⟩ = some (.int .u8 ((byteN (setK false ((allL false l).take k)) j : Nat) : Int)) := (kb.cell j).trans HG.out
      have hf2 := kb.frozen j
      generalize byteN (setK false ((allL false l).take k)) j = bx at *
      clear hbl ho
      go_wp2_with fail
      refine (HP.out _).mono ?_
      rintro e w2' ⟨rfl, rfl⟩
      go_wp2_with fail
      go_roundw
      case rel => exact ⟨k + 1, by omega, by go_num, HBl.out.setCell (p := ⟨w2.heap.size, j, none⟩) (by have := HB2.out.size; simp; omega) _, by rw [HS.out]; exact kb.set_to j _ HU.out, own_grown HOl.out kb (by decide) (grown_set _ _ _ _)⟩
      case measure => simp [intOf]; omega
    · have HE : Hid (bytesL (setK false ((allL false l).take k)) 8 = outL l) := Lib.hid (by
        rw [List.take_of_length_le (by rw [HL.out]; omega), all_set]; unfold outL sizeL; rw [HW.out]; rfl)
      have HLO : Hid ((outL l).length = 8) := Lib.hid (by rw [outL_len]; unfold sizeL; rw [HW.out]; rfl)
      go_wp2_with fail
      go_ret2
      refine ⟨some ⟨w2.heap.size, 0, none⟩, 8, by rw [HLO.out]; rfl, by rw [HLO.out]; omega, ?_, hbl⟩
      rw [← HE.out]
      exact rs_bytes (by omega) kb

set_option maxRecDepth 100000 in
set_option maxHeartbeats 8000000 in
theorem rwrite_empty (A : Option Addr) (l : List Int) (c : Nat) (w : World) (hx : Ri w A l) (hm : l.length ≤ 1000) (hr : rightL l = true) (hw : wideL l = false) (hl : l.length = 0) : Calls Try.prog 11 #[.slice A l.length c] w (GivesB .i64 (outL l) 0 w) := by
  have HX := Lib.hid hx
  have HR := Lib.hid hr
  have HW := Lib.hid hw
  have d0 : decide (0 < l.length) = false := decide_eq_false (by omega)
  clear hl
  clear hx hr hw
  have mk := mk8
  obtain ⟨i0, hi0, hz0, hz1, hz2⟩ := info_parts info3
  go_enter Try.func11, Try.ntmps11
  go_wp2_with fail
  refine (rright_any _ l c _ HX.out).mono ?_
  rintro e w1 ⟨rfl, hb1⟩
  rw [HR.out]
  have HX1 := Lib.hid (HX.out.below hb1)
  have HB1 := Lib.hid hb1
  clear hb1 
  go_wp2_with (first | ((with_reducible refine at_dst 17 ?_); refine wpList_append_rs rfl (.tmp 15) (.tmp 16) 22 rfl w.heap.size 3 i0 _ 8 Try.underlying22 hi0 hz0 hz1 hz2 rfl _ 0 [] rfl (own_empty w1 w.heap.size 3 HB1.out.size) _ l c rfl (HX1.out.alloc _) (by unfold maxLen; omega) (by omega) (by have := HB1.out.size; simp; omega) ?_; intro B1 cap1 w2 hown1 hgrow1; have HB2 := Lib.hid (below_own (HB1.out.alloc HB1.out.size _) (own_empty w1 w.heap.size 3 HB1.out.size) hgrow1); have HO := Lib.hid hown1; clear hown1 hgrow1; rw [Nat.zero_add] at HO ⊢) | fail)
  have kb0 : Blk (w2.alloc (.cells #[.int .u8 0, .int .u8 0, .int .u8 0, .int .u8 0, .int .u8 0, .int .u8 0, .int .u8 0, .int .u8 0] 5)) w2.heap.size 5 (bytesA (setK false ((allL false l).take 0)) 8) := (Blk.new w2 5 _).trans (by rw [zeros8, List.take_zero])
  have HOA : Hid (w2.ownsRow w.heap.size 3 1 (.slice B1 (l.length) cap1) (l.length) ((allL false l).map (Value.int .i64))) := Lib.hid (by have := HO.out; simpa [allL] using this)
  have HL : Hid ((allL false l).length = l.length) := Lib.hid (by rw [all_len]; simp)
  have h0 : Hid (w2.alloc (.cells #[.int .u8 0, .int .u8 0, .int .u8 0, .int .u8 0, .int .u8 0, .int .u8 0, .int .u8 0, .int .u8 0] 5) = w2.alloc (.cells #[.int .u8 0, .int .u8 0, .int .u8 0, .int .u8 0, .int .u8 0, .int .u8 0, .int .u8 0, .int .u8 0] 5)) := Lib.hid rfl
  clear h0 HO mk
  go_loopw [8] (fun i wr => ∃ k : Nat, k ≤ l.length ∧ i = .int .i64 k ∧ Below w.heap.size w wr ∧ Blk wr w2.heap.size 5 (bytesA (setK false ((allL false l).take k)) 8) ∧ wr.ownsRow w.heap.size 3 1 (.slice B1 (l.length) cap1) (l.length) ((allL false l).map (Value.int .i64))) (fun i _ => l.length - (intOf i).toNat)
  case atStart => exact ⟨0, by omega, rfl, HB2.out.alloc HB2.out.size _, kb0, HOA.out.alloc _⟩
  case round =>
    clear kb0 HOA
    obtain ⟨k, hk, rfl, hbl, kb, ho⟩ := hrel
    by_cases hlt : k < l.length
    · obtain ⟨n, hn, hn1, hn128, hjm, hfr⟩ := all_room HR.out HW.out (show k < (allL false l).length by rw [HL.out]; exact hlt)
      obtain ⟨p1, p2⟩ := place_nat (n := n) (by omega) hn128
      obtain ⟨g2, cap2', hsl, hck0⟩ := own_read ho hlt
      obtain ⟨rfl, rfl⟩ : B1 = some ⟨g2, 0, none⟩ ∧ cap1 = cap2' := by injection hsl with h1 _ h2; exact ⟨h1, h2⟩
      have hck : wr.cell? ⟨g2, k, none⟩ = some (.int .i64 (n : Int)) := by
        rw [hck0, List.getElem?_map, ← hn, List.getD_eq_getElem?_getD, List.getElem?_eq_getElem (show k < (allL false l).length by rw [HL.out]; exact hlt)]; rfl
      have HS := Lib.hid (setK_take (b := false) (show k < (allL false l).length by rw [HL.out]; exact hlt) hn)
      have hj16 : (n - 1) / 8 < 8 := by simpa using hjm
      have HU := Lib.hid (bytesA_upd (setK false ((allL false l).take k)) 8 n (by omega))
      have hO := byte_sum (setK false ((allL false l).take k)) n (by omega) hfr
      have HG := Lib.hid (bytesA_get (setK false ((allL false l).take k)) hj16)
      have HP : Hid (∀ W, Calls Try.prog 13 #[.int .i64 n] W fun e w' => e = .returned (.tuple #[.int .i64 (((n - 1) / 8 : Nat) : Int), .int .u8 ((2 ^ (7 - (n - 1) % 8) : Nat) : Int)]) ∧ w' = W) := Lib.hid fun W => by
        have h := rplace_any n W
        rwa [p1, p2] at h
      clear p1 p2 hn hjm hfr hsl hck0
      generalize 2 ^ (7 - (n - 1) % 8) = q at *
      generalize (n - 1) / 8 = j at *
      have jl : (j : Int) < 8 := by omega
      have HBl := Lib.hid hbl
      have HOl := Lib.hid ho
      have hc2 : wr.cell? ⟨w2.heap.size, j, none⟩ = some (.int .u8 ((byteN (setK false ((allL false l).take k)) j : Nat) : Int)) := (kb.cell j).trans HG.out
      have hf2 := kb.frozen j
      generalize byteN (setK false ((allL false l).take k)) j = bx at *
      clear hbl ho
      go_wp2_with fail
      refine (HP.out _).mono ?_
      rintro e w2' ⟨rfl, rfl⟩
      go_wp2_with fail
      go_roundw
      case rel => exact ⟨k + 1, by omega, by go_num, HBl.out.setCell (p := ⟨w2.heap.size, j, none⟩) (by have := HB2.out.size; simp; omega) _, by rw [HS.out]; exact kb.set_to j _ HU.out, own_grown HOl.out kb (by decide) (grown_set _ _ _ _)⟩
      case measure => simp [intOf]; omega
    · have HE : Hid (bytesL (setK false ((allL false l).take k)) 8 = outL l) := Lib.hid (by
        rw [List.take_of_length_le (by rw [HL.out]; omega), all_set]; unfold outL sizeL; rw [HW.out]; rfl)
      have HLO : Hid ((outL l).length = 8) := Lib.hid (by rw [outL_len]; unfold sizeL; rw [HW.out]; rfl)
      go_wp2_with fail
      go_ret2
      refine ⟨some ⟨w2.heap.size, 0, none⟩, 8, by rw [HLO.out]; rfl, by rw [HLO.out]; omega, ?_, hbl⟩
      rw [← HE.out]
      exact rs_bytes (by omega) kb

theorem rwrite_ok (A : Option Addr) (l : List Int) (c : Nat) (w : World) (hx : Ri w A l) (hm : l.length ≤ 1000) (hr : rightL l = true) : Calls Try.prog 11 #[.slice A l.length c] w (GivesB .i64 (outL l) 0 w) := by
  cases hw : wideL l
  · by_cases hl : 0 < l.length
    · exact rwrite_narrow A l c w hx hm hr hw hl
    · exact rwrite_empty A l c w hx hm hr hw (by omega)
  · exact rwrite_wide A l c w hx hm hr hw
end Go.Proofs.Ytalmgpcffbccoaa
