/- Contracts: the reference's Read. -/
import Derived.Test.YtalmgpcffbccoaaR
import Derived.Test.YtalmgpcffbccoaaL
import Derived.Test.YtalmgpcffbccoaaF
namespace Go.Proofs.Ytalmgpcffbccoaa
open Go.RowKit

set_option maxRecDepth 100000 in
set_option maxHeartbeats 8000000 in
theorem rread_bad (A : Option Addr) (xs : List Int) (c : Nat) (a : Int) (w : World) (hx : Rb w A xs) (h : a < 0 ∨ (xs.length : Int) < a) :
    Calls Try.prog 18 #[.slice A xs.length c, .int .i64 a] w (GivesL ([], 0, 1) w) := by
  have hm := hx.len
  unfold maxLen at hm
  clear hx
  by_cases h0 : a < 0
  · have d0 : decide (a < 0) = true := decide_eq_true h0
    clear h h0
    go_enter Try.func18, Try.ntmps18
    go_wp2_with fail
    go_ret3
    exact gives_no 1 rfl (Below.refl _ _)
  · have d0 : decide (a < 0) = false := decide_eq_false h0
    have d1 : decide ((xs.length : Int) < a) = true := decide_eq_true (by omega)
    clear h h0
    go_enter Try.func18, Try.ntmps18
    go_wp2_with fail
    go_ret3
    exact gives_no 1 rfl (Below.refl _ _)

set_option maxRecDepth 100000 in
set_option maxHeartbeats 8000000 in
theorem rread_short (A : Option Addr) (xs : List Int) (c a : Nat) (w : World) (hx : Rb w A xs) (hc : xs.length ≤ c) (ha : a ≤ xs.length) (zs : List Int) (hzs : zs = xs.drop a) (h8 : zs.length < 8) :
    Calls Try.prog 18 #[.slice A xs.length c, .int .i64 (a : Nat)] w (GivesL ([], 0, 3) w) := by
  have hm := hx.len
  unfold maxLen at hm
  have HX := Lib.hid hx
  have HZS := Lib.hid hzs
  have d0 : decide ((a : Int) < 0) = false := decide_eq_false (by omega)
  have d1 : decide (xs.length < a) = false := decide_eq_false (by omega)
  have d2 : decide (zs.length < 8) = true := decide_eq_true h8
  have d3 : decide ((zs.length : Int) < 8) = true := decide_eq_true (by omega)
  clear hx h8 hzs
  go_enter Try.func18, Try.ntmps18
  go_wp2_with (first | ((with_reducible refine at_dst 22 ?_); refine wpList_slice_l rfl rfl rfl (l := a) rfl HX.out (by omega) hc HZS.out ?_; intro B d hB hd; have HZ := Lib.hid hB; clear hB) | fail)
  go_ret3
  exact gives_no 3 rfl (Below.refl _ _)

set_option maxRecDepth 100000 in
set_option maxHeartbeats 8000000 in
theorem rread_short16 (A : Option Addr) (xs : List Int) (c a : Nat) (w : World) (hx : Rb w A xs) (hc : xs.length ≤ c) (ha : a ≤ xs.length) (zs : List Int) (hzs : zs = xs.drop a) (h8 : 8 ≤ zs.length) (h16 : zs.length < 16) (ht : testB zs 1 = true) :
    Calls Try.prog 18 #[.slice A xs.length c, .int .i64 (a : Nat)] w (GivesL ([], 0, 3) w) := by
  have hm := hx.len
  unfold maxLen at hm
  have HX := Lib.hid hx
  have HZS := Lib.hid hzs
  have d0 : decide ((a : Int) < 0) = false := decide_eq_false (by omega)
  have d1 : decide (xs.length < a) = false := decide_eq_false (by omega)
  have HT := Lib.hid ht
  have d2 : decide (zs.length < 8) = false := decide_eq_false (by omega)
  have d3 : decide ((zs.length : Int) < 8) = false := decide_eq_false (by omega)
  have d4 : decide (zs.length < 16) = true := decide_eq_true h16
  have d5 : decide ((zs.length : Int) < 16) = true := decide_eq_true (by omega)
  clear hx h16 hzs ht
  go_enter Try.func18, Try.ntmps18
  go_wp2_with (first | ((with_reducible refine at_dst 22 ?_); refine wpList_slice_l rfl rfl rfl (l := a) rfl HX.out (by omega) hc HZS.out ?_; intro B d hB hd; have HZ := Lib.hid hB; clear hB) | fail)
  refine (has_any B zs d 1 _ HZ.out (by omega) (by omega) (by simp; omega)).mono ?_
  rintro e w' ⟨rfl, rfl⟩
  rw [HT.out]
  go_wp2_with fail
  go_ret3
  exact gives_no 3 rfl (Below.refl _ _)

def resR (b : Bool) (L : List Int) (n : Int) : List Int × Int × Int := if b then ([], 0, 2) else (L, n, 0)
theorem snd_wf {m : Nat} (h : m ≤ 500) : ∀ x ∈ ([(m : Int) + 1] : List Int), (Lit.int .i64 x).wf = true := by intro x hx; simp at hx; subst hx; exact i64_wf (by omega) (by omega)
theorem snd_cell (z : Int) : ∀ j, j < ([z] : List Int).length → (#[Value.int .i64 z])[0 + j]? = some (.int .i64 (([z] : List Int).getD j 0)) := by
  intro j hj; simp at hj; subst hj; rfl

set_option maxRecDepth 100000 in
set_option maxHeartbeats 8000000 in
theorem rread_main_true (A : Option Addr) (xs : List Int) (c a : Nat) (w : World) (hx : Rb w A xs) (hc : xs.length ≤ c) (ha : a ≤ xs.length) (zs : List Int) (hzs : zs = xs.drop a) (h8 : 16 ≤ zs.length) (ht : testB zs 1 = true) :
    Calls Try.prog 18 #[.slice A xs.length c, .int .i64 (a : Nat)] w (GivesL (resR (true && (testB zs 65 || badL (fieldsTo zs 128))) (fieldsTo zs 128) ((a : Int) + 16)) w) := by
  have hm := hx.len
  unfold maxLen at hm
  have HX := Lib.hid hx
  have HZS := Lib.hid hzs
  have d0 : decide ((a : Int) < 0) = false := decide_eq_false (by omega)
  have d1 : decide (xs.length < a) = false := decide_eq_false (by omega)
  have HT := Lib.hid ht
  have d2 : decide (zs.length < 8) = false := decide_eq_false (by omega)
  have d3 : decide ((zs.length : Int) < 8) = false := decide_eq_false (by omega)
  have d4 : decide (zs.length < 16) = false := decide_eq_false (by omega)
  have d5 : decide ((zs.length : Int) < 16) = false := decide_eq_false (by omega)
  obtain ⟨i0, hi0, hz0, hz1, hz2⟩ := info_parts info3
  have hzl : zs.length = xs.length - a := by rw [hzs]; exact List.length_drop
  have hov : (a : Int) + 16 ≤ 9223372036854775807 := by omega
  clear hx hzs ht hzl
  go_enter Try.func18, Try.ntmps18
  go_wp2_with (first | ((with_reducible refine at_dst 22 ?_); refine wpList_slice_l rfl rfl rfl (l := a) rfl HX.out (by omega) hc HZS.out ?_; intro B d hB hd; have HZ := Lib.hid hB; clear hB) | fail)
  refine (has_any B zs d 1 _ HZ.out (by omega) (by omega) (by simp; omega)).mono ?_
  rintro e w' ⟨rfl, rfl⟩
  rw [HT.out]
  clear HZS HX d0 d1 d2 d3
  go_wp2_with fail
  go_loopw [9, 10] (fun v i wr => ∃ m : Nat, 1 ≤ m ∧ m ≤ 128 ∧ i = .int .i64 ((m : Int) + 1) ∧ Below w'.heap.size w' wr ∧ wr.ownsRow w'.heap.size 3 1 v (fieldsTo zs m).length ((fieldsTo zs m).map (Value.int .i64))) (fun _ i _ => 129 - (intOf i).toNat)
  case atStart => exact ⟨1, by omega, by omega, rfl, Below.refl _ _, World.ownsRow_nil _ _ _ _⟩
  case round =>
    obtain ⟨m, hm1, hm2, rfl, hbl, ho⟩ := hrel
    have HBl := Lib.hid hbl
    have HO := Lib.hid ho
    have hfl := fieldsTo_len zs m
    clear hbl ho
    by_cases hlt : m < 128
    · have dl : decide ((m : Int) + 1 ≤ 128) = true := decide_eq_true (by omega)
      have HZr := Lib.hid (HZ.out.below HBl.out)
      cases hb : testB zs (m + 1)
      · have HF := Lib.hid (fieldsTo_no hb)
        have HV : Hid (∀ W, Rb W B zs → Calls Try.prog 22 #[.slice B zs.length d, .int .i64 ((m : Int) + 1)] W fun e w' => e = .returned (.bool false) ∧ w' = W) := Lib.hid fun W hW => by
          have h := has_any B zs d (m + 1) W hW (by omega) (by omega) (by simp; omega)
          rw [hb] at h
          exact h
        clear hb
        go_wp2_with fail
        refine (HV.out _ HZr.out).mono ?_
        rintro e w2 ⟨rfl, rfl⟩
        go_wp2_with fail
        go_roundw
        case rel => exact ⟨m + 1, by omega, by omega, by go_num, HBl.out, by rw [HF.out]; exact HO.out⟩
        case measure => simp [intOf]; omega
      · have HF := Lib.hid (fieldsTo_yes hm1 hb)
        have HV : Hid (∀ W, Rb W B zs → Calls Try.prog 22 #[.slice B zs.length d, .int .i64 ((m : Int) + 1)] W fun e w' => e = .returned (.bool true) ∧ w' = W) := Lib.hid fun W hW => by
          have h := has_any B zs d (m + 1) W hW (by omega) (by omega) (by simp; omega)
          rw [hb] at h
          exact h
        clear hb
        go_wp2_with fail
        refine (HV.out _ HZr.out).mono ?_
        rintro e w2 ⟨rfl, rfl⟩
        go_wp2_with (first | ((with_reducible refine at_dst 46 ?_); refine wpList_append_rs (k := .i64) rfl (.tmp 43) (.tmp 45) 22 rfl w'.heap.size 3 i0 _ 8 Try.underlying22 hi0 hz0 hz1 hz2 rfl _ _ _ rfl (HO.out.alloc _) (some ⟨w2.heap.size, 0, none⟩) [(m : Int) + 1] 1 rfl (Rs.of_blk (Blk.new w2 3 #[.int .i64 ((m : Int) + 1)]) (by simp [maxLen]) (snd_wf (by omega)) (snd_cell _)) (by unfold maxLen; simp; omega) (by simp; omega) (by have := HBl.out.size; simp; omega) ?_; intro B2 cap2 w3 hown2 hgrow2; have HB3 := Lib.hid (below_own (HBl.out.alloc HBl.out.size _) (HO.out.alloc _) hgrow2); have HO3 := Lib.hid hown2; clear hown2 hgrow2) | fail)
        go_roundw
        case rel => exact ⟨m + 1, by omega, by omega, by go_num, HB3.out, by rw [HF.out]; simpa using HO3.out⟩
        case measure => simp [intOf]; omega
    · obtain rfl : m = 128 := by omega
      obtain ⟨A2, c2, rfl, hL⟩ := fields_rs (by omega) HO.out
      have HC := Lib.hid (own_cap HO.out)
      have HL := Lib.hid hL
      have HZr := Lib.hid (HZ.out.below HBl.out)
      generalize hLL : fieldsTo zs 128 = L at *
      clear hL HO hLL
      cases hb : testB zs 65
      · have HV : Hid (∀ W, Rb W B zs → Calls Try.prog 22 #[.slice B zs.length d, .int .i64 65] W fun e w' => e = .returned (.bool false) ∧ w' = W) := Lib.hid fun W hW => by
          have h := has_any B zs d 65 W hW (by omega) (by omega) (by simp; omega)
          rw [hb] at h
          exact h
        have H65 := Lib.hid hb
        clear hb
        by_cases h0 : L.length = 0
        · have f0 : (L.length == 0) = true := by simpa using h0
          have f1 : ((L.length : Int) == 0) = true := by rw [beq_iff_eq]; omega
          have HBD : Hid (badL L = true) := Lib.hid (by unfold badL; rw [f0]; rfl)
          clear h0
          go_wp2_with fail
          refine (HV.out _ HZr.out).mono ?_
          rintro e w2 ⟨rfl, rfl⟩
          go_wp2_with fail
          go_ret3
          rw [H65.out, HBD.out]
          exact gives_no 2 rfl HBl.out
        · have f0 : (L.length == 0) = false := by simpa using h0
          have f1 : ((L.length : Int) == 0) = false := by rw [beq_eq_false_iff_ne]; omega
          obtain ⟨g, o, rfl, hg, hcl⟩ := HL.out.cells (by omega)
          have hcl := hcl (L.length - 1) (by omega)
          by_cases h65 : L.getD (L.length - 1) 0 ≤ 65
          · have f2 : decide (L.getD (L.length - 1) 0 ≤ 65) = true := decide_eq_true h65
            have HBD : Hid (badL L = true) := Lib.hid (by unfold badL; rw [f2]; simp)
            clear h65
            generalize L.getD (L.length - 1) 0 = z at *
            go_wp2_with fail
            refine (HV.out _ HZr.out).mono ?_
            rintro e w2 ⟨rfl, rfl⟩
            go_wp2_with fail
            go_ret3
            rw [H65.out, HBD.out]
            exact gives_no 2 rfl HBl.out
          · have f2 : decide (L.getD (L.length - 1) 0 ≤ 65) = false := decide_eq_false h65
            have HBD : Hid (badL L = false) := Lib.hid (by unfold badL; rw [f2, f0]; rfl)
            clear h65
            generalize L.getD (L.length - 1) 0 = z at *
            go_wp2_with fail
            refine (HV.out _ HZr.out).mono ?_
            rintro e w2 ⟨rfl, rfl⟩
            go_wp2_with fail
            go_ret3
            rw [H65.out, HBD.out]
            exact ⟨_, c2, rfl, HC.out, HL.out, HBl.out⟩
      · have HV : Hid (∀ W, Rb W B zs → Calls Try.prog 22 #[.slice B zs.length d, .int .i64 65] W fun e w' => e = .returned (.bool true) ∧ w' = W) := Lib.hid fun W hW => by
          have h := has_any B zs d 65 W hW (by omega) (by omega) (by simp; omega)
          rw [hb] at h
          exact h
        have H65 := Lib.hid hb
        clear hb
        go_wp2_with fail
        refine (HV.out _ HZr.out).mono ?_
        rintro e w2 ⟨rfl, rfl⟩
        go_wp2_with fail
        go_ret3
        rw [H65.out]
        exact gives_no 2 rfl HBl.out

set_option maxRecDepth 100000 in
set_option maxHeartbeats 8000000 in
theorem rread_main_false (A : Option Addr) (xs : List Int) (c a : Nat) (w : World) (hx : Rb w A xs) (hc : xs.length ≤ c) (ha : a ≤ xs.length) (zs : List Int) (hzs : zs = xs.drop a) (h8 : 8 ≤ zs.length) (ht : testB zs 1 = false) :
    Calls Try.prog 18 #[.slice A xs.length c, .int .i64 (a : Nat)] w (GivesL (resR (false && (testB zs 65 || badL (fieldsTo zs 64))) (fieldsTo zs 64) ((a : Int) + 8)) w) := by
  have hm := hx.len
  unfold maxLen at hm
  have HX := Lib.hid hx
  have HZS := Lib.hid hzs
  have d0 : decide ((a : Int) < 0) = false := decide_eq_false (by omega)
  have d1 : decide (xs.length < a) = false := decide_eq_false (by omega)
  have HT := Lib.hid ht
  have d2 : decide (zs.length < 8) = false := decide_eq_false (by omega)
  have d3 : decide ((zs.length : Int) < 8) = false := decide_eq_false (by omega)
  have d4 : decide (zs.length < 8) = false := decide_eq_false (by omega)
  have d5 : decide ((zs.length : Int) < 8) = false := decide_eq_false (by omega)
  obtain ⟨i0, hi0, hz0, hz1, hz2⟩ := info_parts info3
  have hzl : zs.length = xs.length - a := by rw [hzs]; exact List.length_drop
  have hov : (a : Int) + 8 ≤ 9223372036854775807 := by omega
  clear hx hzs ht hzl
  go_enter Try.func18, Try.ntmps18
  go_wp2_with (first | ((with_reducible refine at_dst 22 ?_); refine wpList_slice_l rfl rfl rfl (l := a) rfl HX.out (by omega) hc HZS.out ?_; intro B d hB hd; have HZ := Lib.hid hB; clear hB) | fail)
  refine (has_any B zs d 1 _ HZ.out (by omega) (by omega) (by simp; omega)).mono ?_
  rintro e w' ⟨rfl, rfl⟩
  rw [HT.out]
  clear HZS HX d0 d1 d2 d3
  go_wp2_with fail
  go_loopw [9, 10] (fun v i wr => ∃ m : Nat, 1 ≤ m ∧ m ≤ 64 ∧ i = .int .i64 ((m : Int) + 1) ∧ Below w'.heap.size w' wr ∧ wr.ownsRow w'.heap.size 3 1 v (fieldsTo zs m).length ((fieldsTo zs m).map (Value.int .i64))) (fun _ i _ => 65 - (intOf i).toNat)
  case atStart => exact ⟨1, by omega, by omega, rfl, Below.refl _ _, World.ownsRow_nil _ _ _ _⟩
  case round =>
    obtain ⟨m, hm1, hm2, rfl, hbl, ho⟩ := hrel
    have HBl := Lib.hid hbl
    have HO := Lib.hid ho
    have hfl := fieldsTo_len zs m
    clear hbl ho
    by_cases hlt : m < 64
    · have dl : decide ((m : Int) + 1 ≤ 64) = true := decide_eq_true (by omega)
      have HZr := Lib.hid (HZ.out.below HBl.out)
      cases hb : testB zs (m + 1)
      · have HF := Lib.hid (fieldsTo_no hb)
        have HV : Hid (∀ W, Rb W B zs → Calls Try.prog 22 #[.slice B zs.length d, .int .i64 ((m : Int) + 1)] W fun e w' => e = .returned (.bool false) ∧ w' = W) := Lib.hid fun W hW => by
          have h := has_any B zs d (m + 1) W hW (by omega) (by omega) (by simp; omega)
          rw [hb] at h
          exact h
        clear hb
        go_wp2_with fail
        refine (HV.out _ HZr.out).mono ?_
        rintro e w2 ⟨rfl, rfl⟩
        go_wp2_with fail
        go_roundw
        case rel => exact ⟨m + 1, by omega, by omega, by go_num, HBl.out, by rw [HF.out]; exact HO.out⟩
        case measure => simp [intOf]; omega
      · have HF := Lib.hid (fieldsTo_yes hm1 hb)
        have HV : Hid (∀ W, Rb W B zs → Calls Try.prog 22 #[.slice B zs.length d, .int .i64 ((m : Int) + 1)] W fun e w' => e = .returned (.bool true) ∧ w' = W) := Lib.hid fun W hW => by
          have h := has_any B zs d (m + 1) W hW (by omega) (by omega) (by simp; omega)
          rw [hb] at h
          exact h
        clear hb
        go_wp2_with fail
        refine (HV.out _ HZr.out).mono ?_
        rintro e w2 ⟨rfl, rfl⟩
        go_wp2_with (first | ((with_reducible refine at_dst 46 ?_); refine wpList_append_rs (k := .i64) rfl (.tmp 43) (.tmp 45) 22 rfl w'.heap.size 3 i0 _ 8 Try.underlying22 hi0 hz0 hz1 hz2 rfl _ _ _ rfl (HO.out.alloc _) (some ⟨w2.heap.size, 0, none⟩) [(m : Int) + 1] 1 rfl (Rs.of_blk (Blk.new w2 3 #[.int .i64 ((m : Int) + 1)]) (by simp [maxLen]) (snd_wf (by omega)) (snd_cell _)) (by unfold maxLen; simp; omega) (by simp; omega) (by have := HBl.out.size; simp; omega) ?_; intro B2 cap2 w3 hown2 hgrow2; have HB3 := Lib.hid (below_own (HBl.out.alloc HBl.out.size _) (HO.out.alloc _) hgrow2); have HO3 := Lib.hid hown2; clear hown2 hgrow2) | fail)
        go_roundw
        case rel => exact ⟨m + 1, by omega, by omega, by go_num, HB3.out, by rw [HF.out]; simpa using HO3.out⟩
        case measure => simp [intOf]; omega
    · obtain rfl : m = 64 := by omega
      obtain ⟨A2, c2, rfl, hL⟩ := fields_rs (by omega) HO.out
      have HC := Lib.hid (own_cap HO.out)
      have HL := Lib.hid hL
      have HZr := Lib.hid (HZ.out.below HBl.out)
      generalize hLL : fieldsTo zs 64 = L at *
      clear hL HO hLL
      go_wp2_with fail
      go_ret3
      exact ⟨A2, c2, rfl, HC.out, HL.out, HBl.out⟩

theorem rread_any (A : Option Addr) (xs : List Int) (c : Nat) (a : Int) (w : World) (hx : Rb w A xs) (hc : xs.length ≤ c) :
    Calls Try.prog 18 #[.slice A xs.length c, .int .i64 a] w (GivesL (readR xs a) w) := by
  by_cases h : a < 0 ∨ (xs.length : Int) < a
  · unfold readR; rw [if_pos h]; exact rread_bad A xs c a w hx h
  · unfold readR; rw [if_neg h]
    obtain ⟨n, rfl⟩ := Int.eq_ofNat_of_zero_le (show 0 ≤ a by omega)
    rw [show ((n : Nat) : Int).toNat = n from rfl]
    have hn : n ≤ xs.length := by omega
    unfold readZ
    by_cases h8 : (xs.drop n).length < 8
    · rw [if_pos (by have : 8 ≤ sizeR (xs.drop n) := by (unfold sizeR; split <;> omega)
                     omega)]
      exact rread_short A xs c n w hx hc hn _ rfl h8
    · cases ht : testB (xs.drop n) 1
      · have hw : wideR (xs.drop n) = false := by unfold wideR; rw [ht]; simp
        have hs : sizeR (xs.drop n) = 8 := by unfold sizeR; rw [hw]; rfl
        rw [if_neg (by omega)]
        have h := rread_main_false A xs c n w hx hc hn _ rfl (by omega) ht
        unfold badR fieldsR
        rw [hw, hs]
        exact h
      · have hw : wideR (xs.drop n) = true := by unfold wideR; rw [ht, decide_eq_true (show 0 < (xs.drop n).length by omega)]; rfl
        have hs : sizeR (xs.drop n) = 16 := by unfold sizeR; rw [hw]; rfl
        by_cases h16 : (xs.drop n).length < 16
        · rw [if_pos (by omega)]
          exact rread_short16 A xs c n w hx hc hn _ rfl (by omega) h16 ht
        · rw [if_neg (by omega)]
          have h := rread_main_true A xs c n w hx hc hn _ rfl (by omega) ht
          unfold badR fieldsR
          rw [hw, hs]
          exact h
end Go.Proofs.Ytalmgpcffbccoaa
