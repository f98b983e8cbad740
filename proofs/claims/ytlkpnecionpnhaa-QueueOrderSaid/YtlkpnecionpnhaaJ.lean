/- The law's examples. -/
import Derived.Test.YtlkpnecionpnhaaI
import Derived.Lib.SlBytesConst
namespace Go.Proofs.Ytlkpnecionpnhaa
open Go.RowKit

theorem byte_new {w : World} {x : Int} {fr : Nat × Nat} (h0 : 0 ≤ x) (h1 : x ≤ 255) : Rb (w.alloc (.cells #[.int .u8 x] 5 fr)) (some ⟨w.heap.size, 0, none⟩) [x] :=
  ⟨by simp [maxLen], (fun y hy => by
    simp only [List.mem_singleton] at hy
    subst hy
    simp [Lit.wf, IntKind.min, IntKind.max, IntKind.signed, IntKind.bits]; omega), fun _ => ⟨w.heap.size, 0, rfl, by simp, fun j hj => by
    simp only [List.length_singleton] at hj
    obtain rfl : j = 0 := by omega
    exact (cell_of_row _ w.heap.size 0 #[.int .u8 x] 5 fr (heap_alloc_new w _)).trans rfl⟩⟩
theorem byte_of {w : World} {b : Nat} {x : Int} (hb : Blk w b 5 #[.int .u8 x]) (h0 : 0 ≤ x) (h1 : x ≤ 255) : Rb w (some ⟨b, 0, none⟩) [x] :=
  Rs.of_blk hb (by simp [maxLen]) (fun y hy => by
    simp only [List.mem_singleton] at hy
    subst hy
    simp [Lit.wf, IntKind.min, IntKind.max, IntKind.signed, IntKind.bits]; omega) (fun j hj => by
    simp only [List.length_singleton] at hj
    obtain rfl : j = 0 := by omega
    rfl)

theorem two_msgs {w : World} {x y : Int} (hx : 0 ≤ x ∧ x ≤ 255) (hy : 0 ≤ y ∧ y ≤ 255) :
    Rq (((w.alloc (.cells #[.int .u8 x] 5)).alloc (.cells #[.int .u8 y] 5)).alloc (.cells #[.slice (some ⟨w.heap.size, 0, none⟩) 1 1, .slice (some ⟨w.heap.size + 1, 0, none⟩) 1 1] 23)) (some ⟨w.heap.size + 1 + 1, 0, none⟩)
      [⟨some ⟨w.heap.size, 0, none⟩, [x], 1⟩, ⟨some ⟨w.heap.size + 1, 0, none⟩, [y], 1⟩] := by
  have h1 : Rb (w.alloc (.cells #[.int .u8 x] 5)) (some ⟨w.heap.size, 0, none⟩) [x] := byte_new hx.1 hx.2
  have h2 : Rb ((w.alloc (.cells #[.int .u8 x] 5)).alloc (.cells #[.int .u8 y] 5)) (some ⟨w.heap.size + 1, 0, none⟩) [y] := by
    have := byte_new (w := w.alloc (.cells #[.int .u8 x] 5)) (fr := (0, 0)) hy.1 hy.2
    rwa [World.size_alloc] at this
  have h3 := Blk.new ((w.alloc (.cells #[.int .u8 x] 5)).alloc (.cells #[.int .u8 y] 5)) 23 #[.slice (some ⟨w.heap.size, 0, none⟩) 1 1, .slice (some ⟨w.heap.size + 1, 0, none⟩) 1 1]
  rw [World.size_alloc, World.size_alloc] at h3
  refine ⟨Rv.of_blk h3 (by simp [maxLen]) (msgs_one _) (fun j u hj => by rw [Nat.zero_add]; simpa [Msg.v] using hj), fun m hm => ?_⟩
  simp only [List.mem_cons, List.not_mem_nil, or_false] at hm
  rcases hm with rfl | rfl
  · exact (h1.alloc _).alloc _
  · exact h2.alloc _

set_option maxRecDepth 100000 in
set_option maxHeartbeats 8000000 in
theorem shown_ok (w : World) : Calls Try.prog 7 #[] w fun e w' => e = .returned (.bool true) ∧ Below w.heap.size w w' := by
  have kc := fun (w : World) (C : Array Value) (n c : Nat) => Lib.run_convert_bytes_const w 23 5 C n c Try.underlying23 Try.underlying5
  go_enter Try.func7, Try.ntmps7
  go_wp2_with fail
  have hp1 := put_any none [] 0 (some ⟨w.heap.size, 0, none⟩) [97] 1 2 (w.alloc (.cells #[.int .u8 97] 5 (1, 2))) (Rq.nil _ _) (Nat.le_refl _) (by simp) (byte_new (by omega) (by omega))
  have e1 : putQ [] ⟨some ⟨w.heap.size, 0, none⟩, [97], 1⟩ 2 = ([⟨some ⟨w.heap.size, 0, none⟩, [97], 1⟩], 0) := rfl
  rw [e1] at hp1
  clear e1
  refine hp1.mono ?_
  clear hp1
  obtain ⟨m1, hm1⟩ : ∃ m : Msg, m = ⟨some ⟨w.heap.size, 0, none⟩, [97], 1⟩ := ⟨_, rfl⟩
  rw [← hm1]
  rintro e w1 ⟨B1, c1, rfl, hc1, hr1, hb⟩
  have HM1 : Hid (m1.xs = [97]) := Lib.hid (by rw [hm1])
  have HR1 := Lib.hid hr1
  have HC1 := Lib.hid hc1
  have HB1 := Lib.hid (((Below.refl _ w).alloc (Nat.le_refl _) (.cells #[.int .u8 97] 5 (1, 2))).trans (hb.mono (by simp)))
  clear hm1 hc1 hr1 hb
  go_wp2_with fail
  have hp2 := put_any B1 [m1] c1 (some ⟨w1.heap.size, 0, none⟩) [98] 1 2 (w1.alloc (.cells #[.int .u8 98] 5 (1, 2))) (HR1.out.alloc _) HC1.out (by simp) (byte_new (by omega) (by omega))
  have e2 : putQ [m1] ⟨some ⟨w1.heap.size, 0, none⟩, [98], 1⟩ 2 = ([m1, ⟨some ⟨w1.heap.size, 0, none⟩, [98], 1⟩], 0) := rfl
  rw [e2] at hp2
  clear e2
  refine hp2.mono ?_
  clear hp2
  obtain ⟨m2, hm2⟩ : ∃ m : Msg, m = ⟨some ⟨w1.heap.size, 0, none⟩, [98], 1⟩ := ⟨_, rfl⟩
  rw [← hm2]
  rintro e w2 ⟨B2, c2, rfl, hc2, hr2, hb⟩
  have HM2 : Hid (m2.xs = [98]) := Lib.hid (by rw [hm2])
  have HR2 := Lib.hid hr2
  have HC2 := Lib.hid hc2
  have HB2 := Lib.hid ((HB1.out.alloc HB1.out.size (.cells #[.int .u8 98] 5 (1, 2))).trans (hb.mono (by have := HB1.out.size; simp; omega)))
  clear hm2 hc2 hr2 hb
  go_wp2_with fail
  have hp3 := put_any B2 [m1, m2] c2 (some ⟨w2.heap.size, 0, none⟩) [99] 1 2 (w2.alloc (.cells #[.int .u8 99] 5 (1, 2))) (HR2.out.alloc _) HC2.out (by simp) (byte_new (by omega) (by omega))
  have e3 : putQ [m1, m2] ⟨some ⟨w2.heap.size, 0, none⟩, [99], 1⟩ 2 = ([m1, m2], 8) := rfl
  rw [e3] at hp3
  clear e3
  refine hp3.mono ?_
  clear hp3
  rintro e w3 ⟨B3, c3, rfl, hc3, hr3, hb⟩
  have HR3 := Lib.hid hr3
  have HC3 := Lib.hid hc3
  have hb3 := (Below.refl w2.heap.size w2).alloc (Nat.le_refl _) (.cells #[.int .u8 99] 5 (1, 2)) |>.trans (hb.mono (by simp))
  have HR23 := Lib.hid (HR2.out.below hb3)
  have HB3 := Lib.hid (HB2.out.trans (hb3.mono HB2.out.size))
  clear hc3 hr3 hb hb3
  go_wp2_with fail
  refine (take_any B3 [m1, m2] c3 w3 HR3.out HC3.out (by simp)).mono ?_
  have et : ([m1, m2] : List Msg).getD 0 Msg.none = m1 ∧ ([m1, m2] : List Msg).tail = [m2] ∧ (!([m1, m2] : List Msg).isEmpty) = true := ⟨rfl, rfl, rfl⟩
  rw [et.1, et.2.1, et.2.2]
  clear et
  rintro e w4 ⟨B4, c4, rfl, hc4, hr4, hb⟩
  have HR4 := Lib.hid hr4
  have HC4 := Lib.hid hc4
  have HR24 := Lib.hid (HR23.out.below hb)
  have HR34 := Lib.hid (HR3.out.below hb)
  have HB4 := Lib.hid (HB3.out.trans (hb.mono HB3.out.size))
  clear hc4 hr4 hb
  unfold Msg.v
  go_wp2_with fail
  have hl := two_msgs (w := w4) (x := 1) (y := 2) (by omega) (by omega)
  have hq4 := (((HR4.out.alloc (.cells #[.int .u8 1] 5)).alloc (.cells #[.int .u8 2] 5)).alloc (.cells #[.slice (some ⟨w4.heap.size, 0, none⟩) 1 1, .slice (some ⟨w4.heap.size + 1, 0, none⟩) 1 1] 23))
  have hp5 := pour_any B4 [m2] c4 (some ⟨w4.heap.size + 1 + 1, 0, none⟩) _ 2 2 _ hq4 HC4.out (by simp) hl (by simp)
  have e5 : pourQ [m2] [⟨some ⟨w4.heap.size, 0, none⟩, [1], 1⟩, ⟨some ⟨w4.heap.size + 1, 0, none⟩, [2], 1⟩] 2 = ([m2, ⟨some ⟨w4.heap.size, 0, none⟩, [1], 1⟩], 1, 0) := rfl
  rw [e5] at hp5
  clear e5 hl hq4
  refine hp5.mono ?_
  clear hp5
  obtain ⟨m4, hm4⟩ : ∃ m : Msg, m = ⟨some ⟨w4.heap.size, 0, none⟩, [1], 1⟩ := ⟨_, rfl⟩
  rw [← hm4]
  rintro e w5 ⟨B5, c5, rfl, hc5, hr5, hb⟩
  have HM4 : Hid (m4.xs = [1]) := Lib.hid (by rw [hm4])
  have HR5 := Lib.hid hr5
  have hb5 : Below w4.heap.size w4 w5 := (((((Below.refl _ w4).alloc (Nat.le_refl _) (.cells #[.int .u8 1] 5)).alloc (by simp) (.cells #[.int .u8 2] 5)).alloc (by simp; omega) (.cells #[.slice (some ⟨w4.heap.size, 0, none⟩) 1 1, .slice (some ⟨w4.heap.size + 1, 0, none⟩) 1 1] 23))).trans (hb.mono (by simp; omega))
  have HR25 := Lib.hid (HR24.out.below hb5)
  have HR35 := Lib.hid (HR34.out.below hb5)
  have HB5 := Lib.hid (HB4.out.trans (hb5.mono HB4.out.size))
  clear hm4 hc5 hr5 hb hb5
  go_wp2_with fail
  refine (take_nil none 0 w5).mono ?_
  rintro e w6 ⟨B6, c6, rfl, _, _, hb⟩
  have HR26 := Lib.hid (HR25.out.below hb)
  have HR36 := Lib.hid (HR35.out.below hb)
  have HR56 := Lib.hid (HR5.out.below hb)
  have HB6 := Lib.hid (HB5.out.trans (hb.mono HB5.out.size))
  have hm1 := HR26.out.each m1 (by simp)
  have hcv := hm1.convert m1.c
  rw [HM1.out] at hcv
  have hcv2 : (convert 23 9 (.slice m1.A m1.xs.length m1.c)).run Try.prog w6 = .ok (.string (strOfNums [97])) w6 := by rw [HM1.out]; exact hcv
  have hs : (strOfNums [97]).toList = [97] := by rw [ByteArray.toList_eq]; rfl
  generalize strOfNums [97] = s1 at *
  clear hb hm1 hcv
  have HV1 : Hid (rowsB [m1, m2] [m1, m2] = true) := Lib.hid (rows_self _)
  have HV2 : Hid (rowsB [m1, m2] [m2, m4] = false) := Lib.hid (by
    unfold rowsB bytesQ
    simp [HM1.out, HM2.out])
  go_wp2_with fail
  refine (qsame_any B2 [m1, m2] c2 B3 [m1, m2] c3 w6 HR26.out HR36.out).mono ?_
  rw [HV1.out]
  rintro e w7 ⟨rfl, rfl⟩
  go_wp2_with fail
  refine (qsame_any B2 [m1, m2] c2 B5 [m2, m4] c5 w7 HR26.out HR56.out).mono ?_
  rw [HV2.out]
  rintro e w8 ⟨rfl, rfl⟩
  go_wp2_with fail
  go_ret
  exact ⟨rfl, HB6.out⟩
end Go.Proofs.Ytlkpnecionpnhaa
