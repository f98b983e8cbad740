/- QueueTells: what is put, poured and taken, and which queues are the same, are as the document says. -/
import Derived.Test.YtlkpnecionpnhaaK
namespace Go.Proofs.Ytlkpnecionpnhaa
open Go.ChangeShapes Go.WideShapes Go.ChangeAt Go.RowKit
namespace queueTells

set_option maxRecDepth 100000 in
set_option maxHeartbeats 8000000 in
theorem walk_q (A : Option Addr) (q : List Msg) (c : Nat) (A' : Option Addr) (l : List Msg) (c' : Nat) (B : Option Addr) (xs : List Int) (cb : Nat) (room : Int) (w : World) (hq : Rq w A q) (hl : Rq w A' l) (hb : Rb w B xs) (H : 100 < q.length) :
    Calls Try.prog 3 #[.agg #[.slice A q.length c, .slice A' l.length c', .slice B xs.length cb, .int .i64 room]] w fun e w' => e = .returned (.bool true) ∧ Below w.heap.size w w' := by
  have hm := hq.len
  have hm' := hl.len
  have hm2 := hb.len
  unfold maxLen at hm hm' hm2
  have HQ := Lib.hid hq
  have HL := Lib.hid hl
  have an : decide (100 < q.length) = true := decide_eq_true (by omega)
  have ai : decide ((100 : Int) < q.length) = true := decide_eq_true (by omega)
  clear hq hl hb H
  go_enter Try.func3, Try.ntmps3
  go_wp2_with fail
  refine (shown_ok _).mono ?_
  rintro e w1 ⟨rfl, hb⟩
  have hb0 := ((Below.refl _ w).alloc (Nat.le_refl _) (.cells #[.slice A q.length c, .slice A' l.length c', .slice B xs.length cb, .int .i64 room] 25)).trans (hb.mono (by simp))
  have HB1 := Lib.hid hb0
  have HQ1 := Lib.hid (HQ.out.below hb0)
  have HL1 := Lib.hid (HL.out.below hb0)
  clear hb hb0
  go_wp2_with fail
  refine (long_any A q c 2000 w1 HQ1.out (by omega) (by omega)).mono ?_
  rintro e w2 ⟨n1, rfl, rfl, _⟩
  by_cases hn1 : 2000 < n1
  · have t1 : decide (2000 < n1) = true := decide_eq_true hn1
    go_wp2_with fail
    go_ret
    exact ⟨rfl, HB1.out⟩
  have t1 : decide (2000 < n1) = false := decide_eq_false hn1
  go_wp2_with fail
  refine (long_any A' l c' 2000 w2 HL1.out (by omega) (by omega)).mono ?_
  rintro e w3 ⟨n2, rfl, rfl, _⟩
  by_cases hn2 : 2000 < n2
  · have t2 : decide (2000 < n2) = true := decide_eq_true hn2
    go_wp2_with fail
    go_ret
    exact ⟨rfl, HB1.out⟩
  have t2 : decide (2000 < n2) = false := decide_eq_false hn2
  go_wp2_with fail
  go_ret
  exact ⟨rfl, HB1.out⟩

set_option maxRecDepth 100000 in
set_option maxHeartbeats 8000000 in
theorem walk_l (A : Option Addr) (q : List Msg) (c : Nat) (A' : Option Addr) (l : List Msg) (c' : Nat) (B : Option Addr) (xs : List Int) (cb : Nat) (room : Int) (w : World) (hq : Rq w A q) (hl : Rq w A' l) (hb : Rb w B xs) (H : q.length ≤ 100 ∧ 100 < l.length) :
    Calls Try.prog 3 #[.agg #[.slice A q.length c, .slice A' l.length c', .slice B xs.length cb, .int .i64 room]] w fun e w' => e = .returned (.bool true) ∧ Below w.heap.size w w' := by
  have hm := hq.len
  have hm' := hl.len
  have hm2 := hb.len
  unfold maxLen at hm hm' hm2
  have HQ := Lib.hid hq
  have HL := Lib.hid hl
  have an : decide (100 < q.length) = false := decide_eq_false (by omega)
  have ai : decide ((100 : Int) < q.length) = false := decide_eq_false (by omega)
  have bn : decide (100 < l.length) = true := decide_eq_true (by omega)
  have bi : decide ((100 : Int) < l.length) = true := decide_eq_true (by omega)
  clear hq hl hb H
  go_enter Try.func3, Try.ntmps3
  go_wp2_with fail
  refine (shown_ok _).mono ?_
  rintro e w1 ⟨rfl, hb⟩
  have hb0 := ((Below.refl _ w).alloc (Nat.le_refl _) (.cells #[.slice A q.length c, .slice A' l.length c', .slice B xs.length cb, .int .i64 room] 25)).trans (hb.mono (by simp))
  have HB1 := Lib.hid hb0
  have HQ1 := Lib.hid (HQ.out.below hb0)
  have HL1 := Lib.hid (HL.out.below hb0)
  clear hb hb0
  go_wp2_with fail
  refine (long_any A q c 2000 w1 HQ1.out (by omega) (by omega)).mono ?_
  rintro e w2 ⟨n1, rfl, rfl, _⟩
  by_cases hn1 : 2000 < n1
  · have t1 : decide (2000 < n1) = true := decide_eq_true hn1
    go_wp2_with fail
    go_ret
    exact ⟨rfl, HB1.out⟩
  have t1 : decide (2000 < n1) = false := decide_eq_false hn1
  go_wp2_with fail
  refine (long_any A' l c' 2000 w2 HL1.out (by omega) (by omega)).mono ?_
  rintro e w3 ⟨n2, rfl, rfl, _⟩
  by_cases hn2 : 2000 < n2
  · have t2 : decide (2000 < n2) = true := decide_eq_true hn2
    go_wp2_with fail
    go_ret
    exact ⟨rfl, HB1.out⟩
  have t2 : decide (2000 < n2) = false := decide_eq_false hn2
  go_wp2_with fail
  go_ret
  exact ⟨rfl, HB1.out⟩

set_option maxRecDepth 100000 in
set_option maxHeartbeats 8000000 in
theorem walk_b (A : Option Addr) (q : List Msg) (c : Nat) (A' : Option Addr) (l : List Msg) (c' : Nat) (B : Option Addr) (xs : List Int) (cb : Nat) (room : Int) (w : World) (hq : Rq w A q) (hl : Rq w A' l) (hb : Rb w B xs) (H : q.length ≤ 100 ∧ l.length ≤ 100 ∧ 1000 < xs.length) :
    Calls Try.prog 3 #[.agg #[.slice A q.length c, .slice A' l.length c', .slice B xs.length cb, .int .i64 room]] w fun e w' => e = .returned (.bool true) ∧ Below w.heap.size w w' := by
  have hm := hq.len
  have hm' := hl.len
  have hm2 := hb.len
  unfold maxLen at hm hm' hm2
  have HQ := Lib.hid hq
  have HL := Lib.hid hl
  have an : decide (100 < q.length) = false := decide_eq_false (by omega)
  have ai : decide ((100 : Int) < q.length) = false := decide_eq_false (by omega)
  have bn : decide (100 < l.length) = false := decide_eq_false (by omega)
  have bi : decide ((100 : Int) < l.length) = false := decide_eq_false (by omega)
  have dn : decide (1000 < xs.length) = true := decide_eq_true (by omega)
  have di : decide ((1000 : Int) < xs.length) = true := decide_eq_true (by omega)
  clear hq hl hb H
  go_enter Try.func3, Try.ntmps3
  go_wp2_with fail
  refine (shown_ok _).mono ?_
  rintro e w1 ⟨rfl, hb⟩
  have hb0 := ((Below.refl _ w).alloc (Nat.le_refl _) (.cells #[.slice A q.length c, .slice A' l.length c', .slice B xs.length cb, .int .i64 room] 25)).trans (hb.mono (by simp))
  have HB1 := Lib.hid hb0
  have HQ1 := Lib.hid (HQ.out.below hb0)
  have HL1 := Lib.hid (HL.out.below hb0)
  clear hb hb0
  go_wp2_with fail
  refine (long_any A q c 2000 w1 HQ1.out (by omega) (by omega)).mono ?_
  rintro e w2 ⟨n1, rfl, rfl, _⟩
  by_cases hn1 : 2000 < n1
  · have t1 : decide (2000 < n1) = true := decide_eq_true hn1
    go_wp2_with fail
    go_ret
    exact ⟨rfl, HB1.out⟩
  have t1 : decide (2000 < n1) = false := decide_eq_false hn1
  go_wp2_with fail
  refine (long_any A' l c' 2000 w2 HL1.out (by omega) (by omega)).mono ?_
  rintro e w3 ⟨n2, rfl, rfl, _⟩
  by_cases hn2 : 2000 < n2
  · have t2 : decide (2000 < n2) = true := decide_eq_true hn2
    go_wp2_with fail
    go_ret
    exact ⟨rfl, HB1.out⟩
  have t2 : decide (2000 < n2) = false := decide_eq_false hn2
  go_wp2_with fail
  go_ret
  exact ⟨rfl, HB1.out⟩

theorem first_bytes {W : World} {A : Option Addr} {q : List Msg} (h : Rq W A q) : Rb W (q.getD 0 Msg.none).A (q.getD 0 Msg.none).xs := by
  rcases Nat.eq_zero_or_pos q.length with h0 | h0
  · obtain rfl : q = [] := List.eq_nil_of_length_eq_zero h0
    exact Rs.nil _ _ _
  · exact h.msg h0

set_option maxRecDepth 100000 in
set_option maxHeartbeats 8000000 in
theorem walk_main (A : Option Addr) (q : List Msg) (c : Nat) (A' : Option Addr) (l : List Msg) (c' : Nat) (B : Option Addr) (xs : List Int) (cb : Nat) (room : Int) (w : World) (hq : Rq w A q) (hcq : q.length ≤ c) (hl : Rq w A' l) (hcl : l.length ≤ c') (hb : Rb w B xs) (H1 : q.length ≤ 100) (H2 : l.length ≤ 100) (H3 : xs.length ≤ 1000) :
    Calls Try.prog 3 #[.agg #[.slice A q.length c, .slice A' l.length c', .slice B xs.length cb, .int .i64 room]] w fun e w' => e = .returned (.bool true) ∧ Below w.heap.size w w' := by
  have hm := hq.len
  have hm' := hl.len
  have hm2 := hb.len
  unfold maxLen at hm hm' hm2
  have HQ := Lib.hid hq
  have HL := Lib.hid hl
  have HX := Lib.hid hb
  have HPT := Lib.hid (fun W (h : Rq W A q) (hx : Rb W B xs) => put_any A q c B xs cb room W h hcq (by omega) hx)
  have HRT := Lib.hid (fun W (h : Rq W A q) (hx : Rb W B xs) => rput_any A q c B xs cb room W h hcq hx)
  have HPR := Lib.hid (fun W (h : Rq W A q) (hx : Rq W A' l) => pour_any A q c A' l c' room W h hcq (by omega) hx (by omega))
  have HRR := Lib.hid (fun W (h : Rq W A q) (hx : Rq W A' l) => rpour_any A q c A' l c' room W h hcq (by omega) hx hcl (by omega))
  have HTK := Lib.hid (fun W (h : Rq W A q) => take_any A q c W h hcq (by omega))
  have HRK := Lib.hid (fun W (h : Rq W A q) => rtake_any A q c W h hcq)
  have HMS := Lib.hid (fun W (h : Rq W A q) => first_bytes h)
  have an : decide (100 < q.length) = false := decide_eq_false (by omega)
  have ai : decide ((100 : Int) < q.length) = false := decide_eq_false (by omega)
  have bn : decide (100 < l.length) = false := decide_eq_false (by omega)
  have bi : decide ((100 : Int) < l.length) = false := decide_eq_false (by omega)
  have dn : decide (1000 < xs.length) = false := decide_eq_false (by omega)
  have di : decide ((1000 : Int) < xs.length) = false := decide_eq_false (by omega)
  generalize (putQ q ⟨B, xs, cb⟩ room).1 = pp at *
  generalize (putQ q ⟨B, xs, cb⟩ room).2 = pe at *
  generalize (pourQ q l room).1 = po at *
  generalize (pourQ q l room).2.1 = pn at *
  generalize (pourQ q l room).2.2 = pf at *
  generalize q.getD 0 Msg.none = tm at *
  generalize q.tail = tt at *
  generalize (!q.isEmpty) = ti at *
  clear hq hl hb hcq hcl
  go_enter Try.func3, Try.ntmps3
  go_wp2_with fail
  refine (shown_ok _).mono ?_
  rintro e w1 ⟨rfl, hb⟩
  have hb0 := ((Below.refl _ w).alloc (Nat.le_refl _) (.cells #[.slice A q.length c, .slice A' l.length c', .slice B xs.length cb, .int .i64 room] 25)).trans (hb.mono (by simp))
  have HB1 := Lib.hid hb0
  have HQ1 := Lib.hid (HQ.out.below hb0)
  have HL1 := Lib.hid (HL.out.below hb0)
  have HX1 := Lib.hid (HX.out.below hb0)
  clear hb hb0
  go_wp2_with fail
  refine (long_any A q c 2000 w1 HQ1.out (by omega) (by omega)).mono ?_
  rintro e w2 ⟨n1, rfl, rfl, _⟩
  by_cases hn1 : 2000 < n1
  · have t1 : decide (2000 < n1) = true := decide_eq_true hn1
    go_wp2_with fail
    go_ret
    exact ⟨rfl, HB1.out⟩
  have t1 : decide (2000 < n1) = false := decide_eq_false hn1
  go_wp2_with fail
  refine (long_any A' l c' 2000 w2 HL1.out (by omega) (by omega)).mono ?_
  rintro e w3 ⟨n2, rfl, rfl, _⟩
  by_cases hn2 : 2000 < n2
  · have t2 : decide (2000 < n2) = true := decide_eq_true hn2
    go_wp2_with fail
    go_ret
    exact ⟨rfl, HB1.out⟩
  have t2 : decide (2000 < n2) = false := decide_eq_false hn2
  go_wp2_with fail
  refine (HPT.out _ HQ1.out HX1.out).mono ?_
  rintro e w4 ⟨B4, c4, rfl, _, h4, hb⟩
  have HP4 := Lib.hid h4
  have HQ4 := Lib.hid (HQ1.out.below hb)
  have HL4 := Lib.hid (HL1.out.below hb)
  have HX4 := Lib.hid (HX1.out.below hb)
  have HB4 := Lib.hid (HB1.out.trans (hb.mono HB1.out.size))
  clear hb h4
  go_wp2_with fail
  refine (HRT.out _ HQ4.out HX4.out).mono ?_
  rintro e w5 ⟨B5, c5, rfl, _, h5, hb⟩
  have HR5 := Lib.hid h5
  have HQ5 := Lib.hid (HQ4.out.below hb)
  have HL5 := Lib.hid (HL4.out.below hb)
  have HP5 := Lib.hid (HP4.out.below hb)
  have HB5 := Lib.hid (HB4.out.trans (hb.mono HB4.out.size))
  clear hb h5
  go_wp2_with fail
  refine (HPR.out _ HQ5.out HL5.out).mono ?_
  rintro e w6 ⟨B6, c6, rfl, _, h6, hb⟩
  have HS6 := Lib.hid h6
  have HQ6 := Lib.hid (HQ5.out.below hb)
  have HL6 := Lib.hid (HL5.out.below hb)
  have HP6 := Lib.hid (HP5.out.below hb)
  have HR6 := Lib.hid (HR5.out.below hb)
  have HB6 := Lib.hid (HB5.out.trans (hb.mono HB5.out.size))
  clear hb h6
  go_wp2_with fail
  refine (HRR.out _ HQ6.out HL6.out).mono ?_
  rintro e w7 ⟨B7, c7, rfl, _, h7, hb⟩
  have HT7 := Lib.hid h7
  have HQ7 := Lib.hid (HQ6.out.below hb)
  have HL7 := Lib.hid (HL6.out.below hb)
  have HP7 := Lib.hid (HP6.out.below hb)
  have HR7 := Lib.hid (HR6.out.below hb)
  have HS7 := Lib.hid (HS6.out.below hb)
  have HB7 := Lib.hid (HB6.out.trans (hb.mono HB6.out.size))
  clear hb h7
  go_wp2_with fail
  refine (HTK.out _ HQ7.out).mono ?_
  rintro e w8 ⟨B8, c8, rfl, _, h8, hb⟩
  have HU8 := Lib.hid h8
  have HQ8 := Lib.hid (HQ7.out.below hb)
  have HL8 := Lib.hid (HL7.out.below hb)
  have HP8 := Lib.hid (HP7.out.below hb)
  have HR8 := Lib.hid (HR7.out.below hb)
  have HS8 := Lib.hid (HS7.out.below hb)
  have HT8 := Lib.hid (HT7.out.below hb)
  have HB8 := Lib.hid (HB7.out.trans (hb.mono HB7.out.size))
  clear hb h8
  go_wp2_with fail
  refine (HRK.out _ HQ8.out).mono ?_
  rintro e w9 ⟨B9, c9, rfl, _, h9, hb⟩
  have HV9 := Lib.hid h9
  have HQ9 := Lib.hid (HQ8.out.below hb)
  have HL9 := Lib.hid (HL8.out.below hb)
  have HP9 := Lib.hid (HP8.out.below hb)
  have HR9 := Lib.hid (HR8.out.below hb)
  have HS9 := Lib.hid (HS8.out.below hb)
  have HT9 := Lib.hid (HT8.out.below hb)
  have HU9 := Lib.hid (HU8.out.below hb)
  have HB9 := Lib.hid (HB8.out.trans (hb.mono HB8.out.size))
  clear hb h9
  go_wp2_with fail
  refine (rows_any B4 pp c4 B5 pp c5 w9 HP9.out HR9.out).mono ?_
  rw [rows_self]
  rintro e wa ⟨rfl, hb⟩
  have HQa := Lib.hid (HQ9.out.below hb)
  have HLa := Lib.hid (HL9.out.below hb)
  have HSa := Lib.hid (HS9.out.below hb)
  have HTa := Lib.hid (HT9.out.below hb)
  have HUa := Lib.hid (HU9.out.below hb)
  have HVa := Lib.hid (HV9.out.below hb)
  have HBa := Lib.hid (HB9.out.trans (hb.mono HB9.out.size))
  clear hb
  go_wp2_with fail
  refine (rows_any B6 po c6 B7 po c7 wa HSa.out HTa.out).mono ?_
  rw [rows_self]
  rintro e wb ⟨rfl, hb⟩
  have HQb := Lib.hid (HQa.out.below hb)
  have HLb := Lib.hid (HLa.out.below hb)
  have HUb := Lib.hid (HUa.out.below hb)
  have HVb := Lib.hid (HVa.out.below hb)
  have HBb := Lib.hid (HBa.out.trans (hb.mono HBa.out.size))
  clear hb
  go_wp2_with fail
  refine (rsame_any tm.A tm.A tm.xs tm.xs tm.c tm.c wb (HMS.out _ HQb.out) (HMS.out _ HQb.out)).mono ?_
  rw [show sameL tm.xs tm.xs = true by unfold sameL; simp]
  rintro e wc ⟨rfl, rfl⟩
  go_wp2_with fail
  refine (rows_any B8 tt c8 B9 tt c9 wc HUb.out HVb.out).mono ?_
  rw [rows_self]
  rintro e wd ⟨rfl, hb⟩
  have HQd := Lib.hid (HQb.out.below hb)
  have HLd := Lib.hid (HLb.out.below hb)
  have HBd := Lib.hid (HBb.out.trans (hb.mono HBb.out.size))
  clear hb
  go_wp2_with fail
  refine (qsame_any A q c A' l c' wd HQd.out HLd.out).mono ?_
  rintro e we ⟨rfl, rfl⟩
  go_wp2_with fail
  refine (rows_any A q c A' l c' we HQd.out HLd.out).mono ?_
  generalize rowsB q l = bb at *
  rintro e wf ⟨rfl, hb⟩
  have HBf := Lib.hid (HBd.out.trans (hb.mono HBd.out.size))
  clear hb
  go_wp2_with fail
  go_ret
  exact ⟨rfl, HBf.out⟩

theorem walk (A : Option Addr) (q : List Msg) (c : Nat) (A' : Option Addr) (l : List Msg) (c' : Nat) (B : Option Addr) (xs : List Int) (cb : Nat) (room : Int) (w : World) (hq : Rq w A q) (hcq : q.length ≤ c) (hl : Rq w A' l) (hcl : l.length ≤ c') (hb : Rb w B xs) :
    Calls Try.prog 3 #[.agg #[.slice A q.length c, .slice A' l.length c', .slice B xs.length cb, .int .i64 room]] w fun e w' => e = .returned (.bool true) ∧ Below w.heap.size w w' := by
  by_cases h1 : 100 < q.length
  · exact walk_q A q c A' l c' B xs cb room w hq hl hb h1
  by_cases h2 : 100 < l.length
  · exact walk_l A q c A' l c' B xs cb room w hq hl hb ⟨by omega, h2⟩
  by_cases h3 : 1000 < xs.length
  · exact walk_b A q c A' l c' B xs cb room w hq hl hb ⟨by omega, by omega, h3⟩
  exact walk_main A q c A' l c' B xs cb room w hq hcq hl hcl hb (by omega) (by omega) (by omega)

set_option maxRecDepth 100000 in
theorem lifted (os : Os) (started : os.Started) (H : Type) (enc : TypeId × Value → H) :
    ReturnsInHanded {} Try.checked os 3 .any (Rows.queueTellsSpec.pre6 enc Try.prog Try.f3 Rows.queueTellsRow.domain false) (Rows.queueTellsSpec.post enc Try.prog Try.f3 false true false false) := by
  refine returnsInHanded_of_change (C := Try.checked) own started (by kernel_rfl) Try.func3
    (ChangeSpec.witness6 (enc := enc) (C := Try.checked) false ⟨#[], #[.agg #[.slice none 0 0, .slice none 0 0, .slice none 0 0, .int .i64 0]], []⟩ 8 (by kernel_rfl) (by kernel_rfl) (by kernel_rfl) (by kernel_rfl)) ?_
  intro W base args ds gs before hval0 hW _ _
  have hval : ∀ (j : Nat) t v, Try.f3.params[j]? = some t → args[j]? = some v → Value.okWide Try.prog W .any base t v := hval0
  have hW' := hW
  obtain ⟨p, q, hA0, hV, rfl, _, _⟩ := hW
  have hA : DataW.TrodAll enc Try.prog W 0 (fun _ => true) true Try.f3.params.toList args.toList ds p := hA0
  rw [Try.params3] at hA hval
  obtain ⟨v0, vs0, d0, ds0, p0, q0, hargs, rfl, rfl, h0, r0x⟩ := trodAll_cons hA
  obtain ⟨rfl, rfl, rfl⟩ := trodAll_nil r0x
  obtain rfl : args = #[v0] := by cases args; simp_all
  obtain ⟨A0, q0, cp0, A0x, l0, cq0, B0, xs0, cb0, room0, rfl, hx0, hcp0, hy0, hcq0, hz0⟩ := open_qtells (hval 0 25 v0 rfl rfl) h0
  clear hA0 hval0
  refine (walk A0 q0 cp0 A0x l0 cq0 B0 xs0 cb0 room0 W hx0 hcp0 hy0 hcq0 hz0).mono fun e W' ⟨he, hg⟩ => ?_
  subst he
  exact ⟨_, rfl, law_post hW' rfl rfl (fun h => by subst h; exact ⟨rfl, rfl, rfl⟩) (by rw [Try.params3]; intro t ht; simp at ht; rcases ht with rfl <;> exact ⟨by kernel_rfl, of_decide_eq_true (by kernel_rfl)⟩) hg⟩

theorem over : Rows.queueTellsRow.holds Try.pinned (OpenSpec.ofChange Rows.queueTellsSpec) :=
  OpenClaim.holds_of_wide 3 Try.f3 rfl rfl rfl rfl rfl rfl rfl ⟨rfl, rfl, rfl, rfl, rfl⟩ rfl rfl rfl rfl rfl (by kernel_rfl) Try.func3 (by kernel_rfl)
    (of_decide_eq_true (by kernel_rfl)) (by unfold Func.isWrapper; first | (rw [if_pos (by decide +kernel)]; kernel_rfl) | (rw [if_neg (by decide +kernel)]; exact ⟨rfl, rfl⟩))
    (fun os started H enc _ => lifted os started H enc)

theorem proved : Rows.QueueTellsSaid :=
  over
#print axioms proved
end queueTells
end Go.Proofs.Ytlkpnecionpnhaa
