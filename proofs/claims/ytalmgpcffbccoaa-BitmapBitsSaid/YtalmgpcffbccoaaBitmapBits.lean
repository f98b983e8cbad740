/- BitmapBits: a number is in a list just if its bit is 1; there are 16 bytes just if one is above 64, and then bit 1 is 1, too. -/
import Derived.Test.YtalmgpcffbccoaaQ
namespace Go.Proofs.Ytalmgpcffbccoaa
open Go.ChangeShapes Go.WideShapes Go.ChangeAt Go.RowKit
namespace bitmapBits

def anyW (l : List Int) : Bool := l.any fun x => decide (64 < x)
theorem anyW_step {l : List Int} {k : Nat} (h : k < l.length) : anyW (l.take (k + 1)) = (anyW (l.take k) || decide (64 < l.getD k 0)) := by
  unfold anyW
  rw [List.take_succ_eq_append_getElem h, List.any_append, List.getD_eq_getElem?_getD, List.getElem?_eq_getElem h]
  simp
theorem mem_step {l : List Int} {k q : Nat} (h : k < l.length) : memS (l.take (k + 1)) q = (memS (l.take k) q || (l.getD k 0 == (q : Int))) := by
  unfold memS
  rw [List.take_succ_eq_append_getElem h, List.any_append, List.getD_eq_getElem?_getD, List.getElem?_eq_getElem h]
  simp
theorem anyW_wide {l : List Int} (hr : rightL l = true) : anyW l = wideL l := by
  cases hw : wideL l
  · unfold anyW
    rw [List.any_eq_false]
    intro x hx
    obtain ⟨i, hi, rfl⟩ := List.mem_iff_getElem.1 hx
    have h := right_narrow hr hw hi
    rw [List.getD_eq_getElem?_getD, List.getElem?_eq_getElem hi] at h
    simp only [Option.getD_some] at h
    simp; omega
  · unfold wideL at hw
    simp only [Bool.and_eq_true, decide_eq_true_eq] at hw
    unfold anyW
    rw [List.any_eq_true]
    exact ⟨_, getD_mem (show l.length - 1 < l.length by omega), decide_eq_true hw.2⟩
theorem first_byte {l : List Int} (hr : rightL l = true) : decide (128 ≤ (outL l).getD 0 0) = wideL l := by
  have h8 := (sizeL_le l).1
  have e : (outL l).getD 0 0 = ((byteN (setK (wideL l) l) 0 : Nat) : Int) := bytesL_get _ (by omega)
  have hm : memS l 1 = false := memS_false fun x hx => by have := rightF_le hr x hx; omega
  have ht : (byteN (setK (wideL l) l) 0).testBit 7 = wideL l := by
    rw [testBit_byteN _ _ _ (by omega)]
    show setK (wideL l) l 1 = _
    unfold setK; rw [hm]; simp
  have hlt := byteN_lt (setK (wideL l) l) 0
  rw [e]
  generalize byteN (setK (wideL l) l) 0 = x at *
  rw [← ht, Bool.eq_iff_iff, decide_eq_true_eq]
  rw [Nat.testBit_eq_decide_div_mod_eq, decide_eq_true_eq]
  omega

set_option maxRecDepth 100000 in
set_option maxHeartbeats 8000000 in
theorem walk_long (A : Option Addr) (l : List Int) (c : Nat) (n : Int) (w : World) (hx : Ri w A l) (hl : 150 < l.length) :
    Calls Try.prog 6 #[.slice A l.length c, .int .u8 n] w fun e w' => e = .returned (.bool true) ∧ Below w.heap.size w w' := by
  have hm := hx.len
  unfold maxLen at hm
  have d0 : decide (150 < l.length) = true := decide_eq_true hl
  have d1 : decide ((150 : Int) < l.length) = true := decide_eq_true (by omega)
  clear hx hl
  go_enter Try.func6, Try.ntmps6
  go_wp2_with fail
  refine (shown_ok _).mono ?_
  rintro e w1 ⟨rfl, hb⟩
  have HB := Lib.hid hb
  clear hb
  go_wp2_with fail
  go_ret
  exact ⟨rfl, HB.out⟩

set_option maxRecDepth 100000 in
set_option maxHeartbeats 8000000 in
theorem walk_no (A : Option Addr) (l : List Int) (c : Nat) (n : Int) (w : World) (hx : Ri w A l) (hl : l.length ≤ 150) (hr : rightL l = false) :
    Calls Try.prog 6 #[.slice A l.length c, .int .u8 n] w fun e w' => e = .returned (.bool true) ∧ Below w.heap.size w w' := by
  have hm := hx.len
  unfold maxLen at hm
  have d0 : decide (150 < l.length) = false := decide_eq_false (by omega)
  have d1 : decide ((150 : Int) < l.length) = false := decide_eq_false (by omega)
  have HX := Lib.hid hx
  have HR := Lib.hid hr
  clear hx hl hr
  go_enter Try.func6, Try.ntmps6
  go_wp2_with fail
  refine (shown_ok _).mono ?_
  rintro e w1 ⟨rfl, hb⟩
  have HB := Lib.hid hb
  have HX1 := Lib.hid (HX.out.below hb)
  clear hb
  go_wp2_with fail
  refine (write_no A l c _ HX1.out HR.out).mono ?_
  rintro e w2 ⟨rfl, rfl⟩
  go_wp2_with fail
  go_ret
  exact ⟨rfl, HB.out⟩

set_option maxRecDepth 100000 in
set_option maxHeartbeats 8000000 in
theorem walk_yes (A : Option Addr) (l : List Int) (c : Nat) (n : Int) (w : World) (hx : Ri w A l) (hl : l.length ≤ 150) (hr : rightL l = true) (h0 : 0 ≤ n) (h255 : n ≤ 255) :
    Calls Try.prog 6 #[.slice A l.length c, .int .u8 n] w fun e w' => e = .returned (.bool true) ∧ Below w.heap.size w w' := by
  have hm := hx.len
  unfold maxLen at hm
  have d0 : decide (150 < l.length) = false := decide_eq_false (by omega)
  have d1 : decide ((150 : Int) < l.length) = false := decide_eq_false (by omega)
  have HX := Lib.hid hx
  have HR := Lib.hid hr
  obtain ⟨q, hq⟩ : ∃ q : Nat, 2 + n % 127 = (q : Int) := ⟨(2 + n % 127).toNat, by omega⟩
  have hq2 : 2 ≤ q ∧ q ≤ 128 := by omega
  obtain ⟨p1, p2⟩ := place_nat (n := q) (by omega) (by omega)
  have HP : Hid (∀ W, Calls Try.prog 13 #[.int .i64 (2 + n % 127)] W fun e w' => e = .returned (.tuple #[.int .i64 (((q - 1) / 8 : Nat) : Int), .int .u8 ((2 ^ (7 - (q - 1) % 8) : Nat) : Int)]) ∧ w' = W) := Lib.hid fun W => by
    have h := rplace_any q W
    rw [hq]
    rwa [p1, p2] at h
  have HQ := Lib.hid hq
  clear hx hl hr p1 p2 hq
  go_enter Try.func6, Try.ntmps6
  go_wp2_with fail
  refine (shown_ok _).mono ?_
  rintro e w1 ⟨rfl, hb⟩
  have HB1 := Lib.hid hb
  have HX1 := Lib.hid (HX.out.below hb)
  clear hb
  go_wp2_with fail
  refine (write_ok A l c _ HX1.out HR.out).mono ?_
  rintro e w2 ⟨B, cp, rfl, hcp, h2, hb⟩
  have H2 := Lib.hid h2
  have HB2 := Lib.hid (HB1.out.trans (hb.mono HB1.out.size))
  have HX2 := Lib.hid (HX1.out.below hb)
  clear hb h2 HX HX1 HB1 hcp
  go_wp2_with fail
  refine (HP.out _).mono ?_
  rintro e w3 ⟨rfl, rfl⟩
  have hj : (q - 1) / 8 ≤ 15 := by omega
  have hk8 : 7 - (q - 1) % 8 < 8 := by omega
  have hjq : (q - 1) / 8 * 8 + 8 - (7 - (q - 1) % 8) = q := by omega
  obtain ⟨j, ej⟩ : ∃ j, (q - 1) / 8 = j := ⟨_, rfl⟩
  obtain ⟨kb, ek⟩ : ∃ kb, 7 - (q - 1) % 8 = kb := ⟨_, rfl⟩
  have HJ := Lib.hid ej
  have HK := Lib.hid ek
  rw [ej] at hj hjq ⊢
  rw [ek] at hk8 hjq ⊢
  clear HP ej ek
  obtain ⟨bq, hbq⟩ : ∃ bq, 2 ^ kb = bq := ⟨_, rfl⟩
  have HBQ := Lib.hid hbq
  rw [hbq]
  clear hbq
  go_wp2_with fail
  go_loop [11, 12, 13] (fun i1 i2 i => ∃ k : Nat, k ≤ l.length ∧ i = .int .i64 k ∧ i1 = .bool (memS (l.take k) q) ∧ i2 = .bool (anyW (l.take k))) (fun _ _ i => l.length - (intOf i).toNat)
  case atStart => exact ⟨0, by omega, rfl, rfl, rfl⟩
  case round =>
    obtain ⟨k, hk, rfl, rfl, rfl⟩ := hrel
    by_cases hlt : k < l.length
    · obtain ⟨b, off, rfl, hbl, hc⟩ := HX2.out.cells (by omega)
      have hck := hc k hlt
      have HM := Lib.hid (mem_step (q := q) hlt)
      have HW := Lib.hid (anyW_step hlt)
      clear hc
      generalize l.getD k 0 = x at *
      generalize memS (l.take k) q = b1 at *
      generalize anyW (l.take k) = b2 at *
      have hq' := HQ.out
      obtain ⟨e1, he1⟩ : ∃ e1, (x == 2 + n % 127) = e1 := ⟨_, rfl⟩
      have HE1 : Hid ((x == (q : Int)) = e1) := Lib.hid (by rw [← hq']; exact he1)
      obtain ⟨e2, he2⟩ : ∃ e2, decide (64 < x) = e2 := ⟨_, rfl⟩
      have HE2 := Lib.hid he2
      clear hq'
      cases b1 <;> cases b2 <;> cases e1 <;> cases e2
      all_goals
        go_wp2_with fail
        go_round
        case rel => exact ⟨k + 1, by omega, by go_num, by rw [HM.out, HE1.out]; rfl, by rw [HW.out, HE2.out]; rfl⟩
        case measure => simp [intOf]; omega
    · have HT : Hid (l.take k = l) := Lib.hid (List.take_of_length_le (by omega))
      rw [HT.out, anyW_wide HR.out]
      have HLN := Lib.hid (outL_len l)
      have HFB := Lib.hid (first_byte HR.out)
      have HTB := Lib.hid (fun h : q ≤ 8 * sizeL l => testB_out (l := l) (ys := []) (n := q) (by omega) h)
      have hset : setK (wideL l) l q = memS l q := by
        have e2 : (q == 1) = false := by rw [beq_eq_false_iff_ne]; omega
        unfold setK; rw [e2, Bool.and_false, Bool.false_or]
      have HSET := Lib.hid hset
      have HOUT : Hid (8 * sizeL l < q → memS l q = false) := Lib.hid fun h => memS_false fun x hx => by
        have := right_le HR.out x hx
        omega
      have HSZ : Hid (sizeL l = if wideL l then 16 else 8) := Lib.hid rfl
      have HBY := Lib.hid H2.out.byte
      clear hset
      have hlen := HLN.out
      obtain ⟨g, o, rfl, hg, hcell⟩ := H2.out.cells (by have := (sizeL_le l).1; omega)
      have hc0 := hcell 0 (by have := (sizeL_le l).1; omega)
      rw [Nat.add_zero] at hc0
      have HCJ := Lib.hid (hcell j)
      clear hcell hlen
      generalize hL : outL l = L at *
      generalize hS : sizeL l = M at *
      generalize hWW : wideL l = W at *
      generalize hMM : memS l q = bm at *
      clear hL hS hWW hMM
      have hfb := HFB.out
      generalize L.getD 0 0 = x0 at *
      cases W
      · obtain rfl : M = 8 := HSZ.out
        have hl8 : L.length = 8 := HLN.out
        have e1 : ((L.length : Int) == 16) = false := by rw [beq_eq_false_iff_ne]; omega
        have e2 : ((L.length : Int) != 8) = false := by rw [bne_eq_false_iff_eq]; omega
        have e3 : 0 < L.length := by omega
        by_cases hjl : j < 8
        · have e4 : decide (j < L.length) = true := decide_eq_true (by omega)
          have e5 : (j : Int) < L.length := by omega
          have hcj := HCJ.out (by omega)
          have hbd := HBY.out _ (getD_mem (show j < L.length by omega))
          have hT := and_test hbd.1 hbd.2 hk8
          have hT2 : (L.getD j 0).toNat.testBit kb = bm := by
            have h := HTB.out (by omega)
            rw [HSET.out] at h
            rw [← h]
            unfold testB
            rw [HJ.out, HK.out, List.append_nil]
          rw [hT2, HBQ.out] at hT
          clear hT2 hbd hl8
          generalize L.getD j 0 = xj at *
          cases bm
          all_goals
            go_wp2_with fail
            go_ret
            exact ⟨rfl, HB2.out⟩
        · have e4 : decide (j < L.length) = false := decide_eq_false (by omega)
          obtain rfl : bm = false := HOUT.out (by omega)
          clear hl8
          go_wp2_with fail
          go_ret
          exact ⟨rfl, HB2.out⟩
      · obtain rfl : M = 16 := HSZ.out
        have hl16 : L.length = 16 := HLN.out
        have e1 : ((L.length : Int) == 16) = true := by rw [beq_iff_eq]; omega
        have e3 : 0 < L.length := by omega
        have e4 : decide (j < L.length) = true := decide_eq_true (by omega)
        have e5 : (j : Int) < L.length := by omega
        have hcj := HCJ.out (by omega)
        have hbd := HBY.out _ (getD_mem (show j < L.length by omega))
        have hT := and_test hbd.1 hbd.2 hk8
        have hT2 : (L.getD j 0).toNat.testBit kb = bm := by
          have h := HTB.out (by omega)
          rw [HSET.out] at h
          rw [← h]
          unfold testB
          rw [HJ.out, HK.out, List.append_nil]
        rw [hT2, HBQ.out] at hT
        clear hT2 hbd hl16
        generalize L.getD j 0 = xj at *
        cases bm
        all_goals
          go_wp2_with fail
          go_ret
          exact ⟨rfl, HB2.out⟩

theorem walk (A : Option Addr) (l : List Int) (c : Nat) (n : Int) (hn : (Lit.int .u8 n).wf = true) (w : World) (hx : Ri w A l) (_ : l.length ≤ c) :
    Calls Try.prog 6 #[.slice A l.length c, .int .u8 n] w fun e w' => e = .returned (.bool true) ∧ Below w.heap.size w w' := by
  have hn' : 0 ≤ n ∧ n ≤ 255 := by simpa [Lit.wf, IntKind.min, IntKind.max, IntKind.signed, IntKind.bits] using hn
  by_cases hl : l.length ≤ 150
  · cases hr : rightL l
    · exact walk_no A l c n w hx hl hr
    · exact walk_yes A l c n w hx hl hr hn'.1 hn'.2
  · exact walk_long A l c n w hx (by omega)

set_option maxRecDepth 100000 in
theorem lifted (os : Os) (started : os.Started) (H : Type) (enc : TypeId × Value → H) :
    ReturnsInHanded {} Try.checked os 6 .any (Rows.bitmapBitsSpec.pre6 enc Try.prog Try.f6 Rows.bitmapBitsRow.domain false) (Rows.bitmapBitsSpec.post enc Try.prog Try.f6 false true false false) := by
  refine returnsInHanded_of_change (C := Try.checked) own started (by kernel_rfl) Try.func6
    (ChangeSpec.witness6 (enc := enc) (C := Try.checked) false ⟨#[], #[.slice none 0 0, .int .u8 0], []⟩ 8 (by kernel_rfl) (by kernel_rfl) (by kernel_rfl) (by kernel_rfl)) ?_
  intro W base args ds gs before hval0 hW _ _
  have hval : ∀ (j : Nat) t v, Try.f6.params[j]? = some t → args[j]? = some v → Value.okWide Try.prog W .any base t v := hval0
  have hW' := hW
  obtain ⟨p, q, hA0, hV, rfl, _, _⟩ := hW
  have hA : DataW.TrodAll enc Try.prog W 0 (fun _ => true) true Try.f6.params.toList args.toList ds p := hA0
  rw [Try.params6] at hA hval
  obtain ⟨v0, vs0, d0, ds0, p0, q0, hargs, rfl, rfl, h0, r0x⟩ := trodAll_cons hA
  obtain ⟨v1, vs1, d1, ds1, p1, q1, rfl, rfl, rfl, h1, r1x⟩ := trodAll_cons r0x
  obtain ⟨rfl, rfl, rfl⟩ := trodAll_nil r1x
  obtain rfl : args = #[v0, v1] := by cases args; simp_all
  obtain ⟨A0, xs0, cp0, rfl, hx0, hcp0⟩ := open_bints (hval 0 22 v0 rfl rfl) h0
  obtain ⟨a1, rfl, rfl, rfl, w1⟩ := open_int Try.underlying5 (hval 1 5 v1 rfl rfl) h1
  clear hA0 hval0
  refine (walk A0 xs0 cp0 a1 w1 W hx0 hcp0).mono fun e W' ⟨he, hg⟩ => ?_
  subst he
  exact ⟨_, rfl, law_post hW' rfl rfl (fun h => by subst h; exact ⟨rfl, rfl, rfl⟩) (by rw [Try.params6]; intro t ht; simp at ht; rcases ht with rfl | rfl <;> exact ⟨by kernel_rfl, of_decide_eq_true (by kernel_rfl)⟩) hg⟩

theorem over : Rows.bitmapBitsRow.holds Try.pinned (OpenSpec.ofChange Rows.bitmapBitsSpec) :=
  OpenClaim.holds_of_wide 6 Try.f6 rfl rfl rfl rfl rfl rfl rfl ⟨rfl, rfl, rfl, rfl, rfl⟩ rfl rfl rfl rfl rfl (by kernel_rfl) Try.func6 (by kernel_rfl)
    (of_decide_eq_true (by kernel_rfl)) (by unfold Func.isWrapper; first | (rw [if_pos (by decide +kernel)]; kernel_rfl) | (rw [if_neg (by decide +kernel)]; exact ⟨rfl, rfl⟩))
    (fun os started H enc _ => lifted os started H enc)

theorem proved : Rows.BitmapBitsSaid :=
  over
#print axioms proved
end bitmapBits
end Go.Proofs.Ytalmgpcffbccoaa
