/- QueuePours: what is poured is put one by one, up to the first that has no room; what waited stays ahead. -/
import Derived.Test.YtlkpnecionpnhaaK
namespace Go.Proofs.Ytlkpnecionpnhaa
open Go.ChangeShapes Go.WideShapes Go.ChangeAt Go.RowKit
namespace queuePours

theorem wpList_qslice_h_g {ops : Array Oper} {rest : List Oper} {o : Oper} {a : Act} {w : World} {Q : Exit → Act → World → Prop} {A : Option Addr} {q : List Msg} {c : Nat} {x : Operand} (hgd : Region.wanted o (yielded ops a.tmps) = true) {hi : Operand} (ho : o.op = .slice 22 x none (some hi) none) (hx : a.eval x = .slice A q.length c) {l : Nat} (hhi : a.eval hi = .int .i64 l) (hr : Rq w A q) (hl : l ≤ q.length) (hc : q.length ≤ c) {zs : List Msg} (hz : zs = q.take l)
    (h : ∀ B, Rq w B zs → zs.length ≤ c → wpList Try.prog ops Q rest (a.put o.dst (.slice B zs.length c)) w) : wpList Try.prog ops Q (o :: rest) a w :=
  wpList_step fun K hK => by
    rw [if_pos hgd]
    subst hz
    have hcut := hr.cut (l := 0) (m := l) (by omega) hl hc
    rw [List.drop_zero] at hcut
    have hlen : (q.take l).length = l := by rw [List.length_take]; omega
    have hrun := run_cut_h w A q.length c l (by omega)
    rw [← hlen] at hrun
    unfold Oper.wp execOp
    simp only [ho, hx, hhi, Option.map_some, Option.map_none, Sem.run_bind]
    rw [← hlen, hrun]
    simp only [Result.andThen_ok, Sem.run_pure]
    exact hK _ _ (h _ hcut (by omega))
theorem take_snoc {q l : List Msg} {k : Nat} (h : k < l.length) {m : Msg} (hm : l.getD k Msg.none = m) : q ++ l.take k ++ [m] = q ++ l.take (k + 1) := by
  rw [List.take_succ_eq_append_getElem h, ← hm, List.getD_eq_getElem?_getD, List.getElem?_eq_getElem h, List.append_assoc]; rfl

set_option maxRecDepth 100000 in
set_option maxHeartbeats 8000000 in
theorem walk_q (A : Option Addr) (q : List Msg) (c : Nat) (A' : Option Addr) (l : List Msg) (c' : Nat) (room : Int) (w : World) (hq : Rq w A q) (hl : Rq w A' l) (H : 70 < q.length) :
    Calls Try.prog 5 #[.slice A q.length c, .slice A' l.length c', .int .i64 room] w fun e w' => e = .returned (.bool true) ∧ Below w.heap.size w w' := by
  have hm := hq.len
  have hm' := hl.len
  unfold maxLen at hm hm'
  have HQ := Lib.hid hq
  have HL := Lib.hid hl
  have an : decide (70 < q.length) = true := decide_eq_true (by omega)
  have ai : decide ((70 : Int) < q.length) = true := decide_eq_true (by omega)
  clear hq hl H
  go_enter Try.func5, Try.ntmps5
  go_wp2_with fail
  refine (shown_ok _).mono ?_
  rintro e w1 ⟨rfl, hb⟩
  have HB1 := Lib.hid hb
  have HQ1 := Lib.hid (HQ.out.below hb)
  have HL1 := Lib.hid (HL.out.below hb)
  clear hb
  go_wp2_with fail
  refine (long_any A q c 1000 w1 HQ1.out (by omega) (by omega)).mono ?_
  rintro e w2 ⟨n1, rfl, rfl, _⟩
  by_cases hn1 : 1000 < n1
  · have t1 : decide (1000 < n1) = true := decide_eq_true hn1
    go_wp2_with fail
    go_ret
    exact ⟨rfl, HB1.out⟩
  have t1 : decide (1000 < n1) = false := decide_eq_false hn1
  go_wp2_with fail
  refine (long_any A' l c' 1000 w2 HL1.out (by omega) (by omega)).mono ?_
  rintro e w3 ⟨n2, rfl, rfl, _⟩
  by_cases hn2 : 1000 < n2
  · have t2 : decide (1000 < n2) = true := decide_eq_true hn2
    go_wp2_with fail
    go_ret
    exact ⟨rfl, HB1.out⟩
  have t2 : decide (1000 < n2) = false := decide_eq_false hn2
  go_wp2_with fail
  go_ret
  exact ⟨rfl, HB1.out⟩

set_option maxRecDepth 100000 in
set_option maxHeartbeats 8000000 in
theorem walk_l (A : Option Addr) (q : List Msg) (c : Nat) (A' : Option Addr) (l : List Msg) (c' : Nat) (room : Int) (w : World) (hq : Rq w A q) (hl : Rq w A' l) (H : q.length ≤ 70 ∧ 70 < l.length) :
    Calls Try.prog 5 #[.slice A q.length c, .slice A' l.length c', .int .i64 room] w fun e w' => e = .returned (.bool true) ∧ Below w.heap.size w w' := by
  have hm := hq.len
  have hm' := hl.len
  unfold maxLen at hm hm'
  have HQ := Lib.hid hq
  have HL := Lib.hid hl
  have an : decide (70 < q.length) = false := decide_eq_false (by omega)
  have ai : decide ((70 : Int) < q.length) = false := decide_eq_false (by omega)
  have bn : decide (70 < l.length) = true := decide_eq_true (by omega)
  have bi : decide ((70 : Int) < l.length) = true := decide_eq_true (by omega)
  clear hq hl H
  go_enter Try.func5, Try.ntmps5
  go_wp2_with fail
  refine (shown_ok _).mono ?_
  rintro e w1 ⟨rfl, hb⟩
  have HB1 := Lib.hid hb
  have HQ1 := Lib.hid (HQ.out.below hb)
  have HL1 := Lib.hid (HL.out.below hb)
  clear hb
  go_wp2_with fail
  refine (long_any A q c 1000 w1 HQ1.out (by omega) (by omega)).mono ?_
  rintro e w2 ⟨n1, rfl, rfl, _⟩
  by_cases hn1 : 1000 < n1
  · have t1 : decide (1000 < n1) = true := decide_eq_true hn1
    go_wp2_with fail
    go_ret
    exact ⟨rfl, HB1.out⟩
  have t1 : decide (1000 < n1) = false := decide_eq_false hn1
  go_wp2_with fail
  refine (long_any A' l c' 1000 w2 HL1.out (by omega) (by omega)).mono ?_
  rintro e w3 ⟨n2, rfl, rfl, _⟩
  by_cases hn2 : 1000 < n2
  · have t2 : decide (1000 < n2) = true := decide_eq_true hn2
    go_wp2_with fail
    go_ret
    exact ⟨rfl, HB1.out⟩
  have t2 : decide (1000 < n2) = false := decide_eq_false hn2
  go_wp2_with fail
  go_ret
  exact ⟨rfl, HB1.out⟩

set_option maxRecDepth 100000 in
set_option maxHeartbeats 8000000 in
theorem walk_bad (A : Option Addr) (q : List Msg) (c : Nat) (A' : Option Addr) (l : List Msg) (c' : Nat) (room : Int) (w : World) (hq : Rq w A q) (hl : Rq w A' l) (hcq : q.length ≤ c) (H1 : q.length ≤ 70) (H2 : l.length ≤ 70) (H : room < 1 ∨ 64 < room) :
    Calls Try.prog 5 #[.slice A q.length c, .slice A' l.length c', .int .i64 room] w fun e w' => e = .returned (.bool true) ∧ Below w.heap.size w w' := by
  have hm := hq.len
  have hm' := hl.len
  unfold maxLen at hm hm'
  have HQ := Lib.hid hq
  have HL := Lib.hid hl
  have HRB := Lib.hid H
  have HC := Lib.hid hcq
  have HPR : Hid (∀ W, Rq W A q → Calls Try.prog 11 #[.slice A q.length c, .slice A' l.length c', .int .i64 room] W (GivesP q 0 1 W)) := Lib.hid (fun W h => pour_bad A q c A' l c' room W h hcq H)
  have an : decide (70 < q.length) = false := decide_eq_false (by omega)
  have ai : decide ((70 : Int) < q.length) = false := decide_eq_false (by omega)
  have bn : decide (70 < l.length) = false := decide_eq_false (by omega)
  have bi : decide ((70 : Int) < l.length) = false := decide_eq_false (by omega)
  clear hq hl hcq H
  go_enter Try.func5, Try.ntmps5
  go_wp2_with fail
  refine (shown_ok _).mono ?_
  rintro e w1 ⟨rfl, hb⟩
  have HB1 := Lib.hid hb
  have HQ1 := Lib.hid (HQ.out.below hb)
  have HL1 := Lib.hid (HL.out.below hb)
  clear hb
  go_wp2_with fail
  refine (long_any A q c 1000 w1 HQ1.out (by omega) (by omega)).mono ?_
  rintro e w2 ⟨n1, rfl, rfl, _⟩
  by_cases hn1 : 1000 < n1
  · have t1 : decide (1000 < n1) = true := decide_eq_true hn1
    go_wp2_with fail
    go_ret
    exact ⟨rfl, HB1.out⟩
  have t1 : decide (1000 < n1) = false := decide_eq_false hn1
  go_wp2_with fail
  refine (long_any A' l c' 1000 w2 HL1.out (by omega) (by omega)).mono ?_
  rintro e w3 ⟨n2, rfl, rfl, _⟩
  by_cases hn2 : 1000 < n2
  · have t2 : decide (1000 < n2) = true := decide_eq_true hn2
    go_wp2_with fail
    go_ret
    exact ⟨rfl, HB1.out⟩
  have t2 : decide (1000 < n2) = false := decide_eq_false hn2
  go_wp2_with fail
  refine (HPR.out _ HQ1.out).mono ?_
  rintro e w4 ⟨B4, c4, rfl, _, h4, hb⟩
  have HP4 := Lib.hid h4
  have HQ4 := Lib.hid (HQ1.out.below hb)
  have HL4 := Lib.hid (HL1.out.below hb)
  have HB4 := Lib.hid (HB1.out.trans (hb.mono HB1.out.size))
  clear hb h4
  go_wp2_with fail
  go_loopw [11, 12, 13] (fun x k la wr => ∃ (Bx : Option Addr) (cx : Nat) (lv : Int), x = .slice Bx q.length cx ∧ k = .int .i64 0 ∧ la = .int .i64 lv ∧ (lv = 0 ∨ lv = 1) ∧ Hid (q.length ≤ cx) ∧ Hid (Rq wr Bx q) ∧ Hid (Below w.heap.size w wr) ∧ Hid (Below w4.heap.size w4 wr)) (fun _ _ la _ => if intOf la = 0 then 1 else 0)
  case atStart => exact ⟨A, c, 0, rfl, rfl, rfl, .inl rfl, HC, HQ4, HB4, Lib.hid (Below.refl _ _)⟩
  case round =>
    obtain ⟨Bx, cx, lv, rfl, rfl, rfl, hlv, HCX, HX, HBB, HB44⟩ := hrel
    have HPX := Lib.hid (HP4.out.below HB44.out)
    have HQX := Lib.hid (HQ4.out.below HB44.out)
    have HLX := Lib.hid (HL4.out.below HB44.out)
    by_cases hgo : 0 < l.length ∧ lv = 0
    · obtain ⟨hl0, rfl⟩ := hgo
      obtain ⟨b, off, rfl, hc⟩ := HLX.out.cell hl0
      have hx := HLX.out.msg hl0
      generalize l.getD 0 Msg.none = m1 at *
      obtain ⟨A1, x1, c1⟩ := m1
      have hck : wr.cell? ⟨b, off, none⟩ = some (.slice A1 x1.length c1) := hc
      have HX1 : Hid (Rb wr A1 x1) := Lib.hid hx
      clear hc hx
      go_wp2_with fail
      have hput := put_bad Bx q cx A1 x1 c1 room wr HX.out HCX.out HRB.out
      refine hput.mono ?_
      clear hput
      rintro e w6 ⟨B6, c6, rfl, _, _, hb⟩
      have HB6 := Lib.hid (HBB.out.trans (hb.mono HBB.out.size))
      have HB46 := Lib.hid (HB44.out.trans (hb.mono HB44.out.size))
      have HX6 := Lib.hid (HX.out.below hb)
      clear hb hck
      go_wp2_with fail
      exact ⟨⟨Bx, cx, 1, rfl, rfl, rfl, .inr rfl, HCX, HX6, HB6, HB46⟩, by simp [intOf]⟩
    · have hstop : l.length = 0 ∨ lv = 1 := by omega
      have HV : Hid (rowsB q q = true) := Lib.hid (rows_self q)
      rcases hstop with h0 | rfl
      case' inl => have l0 : decide ((0 : Int) < l.length) = false := decide_eq_false (by omega)
      case' inl => have l0n : decide (0 < l.length) = false := decide_eq_false (by omega)
      case' inl => clear h0
      case' inr => obtain ⟨bl, hbl⟩ : ∃ bl, decide ((0 : Int) < l.length) = bl := ⟨_, rfl⟩
      case' inr => have hbl2 : decide (0 < l.length) = bl := by rw [← hbl]; simp
      case' inr => cases bl
      all_goals
        clear hgo hlv
        go_wp2_with fail
        refine (rows_any B4 q c4 A q c wr HPX.out HQX.out).mono ?_
        rw [HV.out]
        rintro e wa ⟨rfl, hb⟩
        have HBA := Lib.hid (HBB.out.trans (hb.mono HBB.out.size))
        clear hb
        go_wp2_with fail
        go_ret
        exact ⟨rfl, HBA.out⟩

set_option maxRecDepth 100000 in
set_option maxHeartbeats 8000000 in
theorem walk_good (A : Option Addr) (q : List Msg) (c : Nat) (A' : Option Addr) (l : List Msg) (c' : Nat) (room : Int) (w : World) (hq : Rq w A q) (hl : Rq w A' l) (hcq : q.length ≤ c) (H1 : q.length ≤ 70) (H2 : l.length ≤ 70) (n : Nat) (hn : room = n) (h1 : 1 ≤ n) (h64 : n ≤ 64) :
    Calls Try.prog 5 #[.slice A q.length c, .slice A' l.length c', .int .i64 room] w fun e w' => e = .returned (.bool true) ∧ Below w.heap.size w w' := by
  subst hn
  have hm := hq.len
  have hm' := hl.len
  unfold maxLen at hm hm'
  have HQ := Lib.hid hq
  have HL := Lib.hid hl
  have HC := Lib.hid hcq
  have HPR : Hid (∀ W, Rq W A q → Rq W A' l → Calls Try.prog 11 #[.slice A q.length c, .slice A' l.length c', .int .i64 (n : Int)] W (GivesP (pourL q l n) (pourK q l n) 0 W)) := Lib.hid (fun W h hx => by
    have := pour_any A q c A' l c' n W h hcq (by omega) hx (by omega)
    unfold pourQ at this
    rwa [if_neg (by omega)] at this)
  have HKR : Hid (∀ _ : Unit, pourK q l n = min l.length (n - q.length)) := Lib.hid (fun _ => rfl)
  have hKl : pourK q l n ≤ l.length := by unfold pourK; omega
  have HPP : Hid (pourL q l n = q ++ l.take (pourK q l n)) := Lib.hid rfl
  have HPL : Hid ((pourL q l n).length = q.length + pourK q l n) := Lib.hid (by rw [HPP.out, List.length_append, List.length_take]; omega)
  generalize pourL q l n = pp at *
  generalize pourK q l n = K at *
  have an : decide (70 < q.length) = false := decide_eq_false (by omega)
  have ai : decide ((70 : Int) < q.length) = false := decide_eq_false (by omega)
  have bn : decide (70 < l.length) = false := decide_eq_false (by omega)
  have bi : decide ((70 : Int) < l.length) = false := decide_eq_false (by omega)
  clear hq hl hcq
  go_enter Try.func5, Try.ntmps5
  go_wp2_with fail
  refine (shown_ok _).mono ?_
  rintro e w1 ⟨rfl, hb⟩
  have HB1 := Lib.hid hb
  have HQ1 := Lib.hid (HQ.out.below hb)
  have HL1 := Lib.hid (HL.out.below hb)
  clear hb
  go_wp2_with fail
  refine (long_any A q c 1000 w1 HQ1.out (by omega) (by omega)).mono ?_
  rintro e w2 ⟨n1, rfl, rfl, _⟩
  by_cases hn1 : 1000 < n1
  · have t1 : decide (1000 < n1) = true := decide_eq_true hn1
    go_wp2_with fail
    go_ret
    exact ⟨rfl, HB1.out⟩
  have t1 : decide (1000 < n1) = false := decide_eq_false hn1
  go_wp2_with fail
  refine (long_any A' l c' 1000 w2 HL1.out (by omega) (by omega)).mono ?_
  rintro e w3 ⟨n2, rfl, rfl, _⟩
  by_cases hn2 : 1000 < n2
  · have t2 : decide (1000 < n2) = true := decide_eq_true hn2
    go_wp2_with fail
    go_ret
    exact ⟨rfl, HB1.out⟩
  have t2 : decide (1000 < n2) = false := decide_eq_false hn2
  go_wp2_with fail
  refine (HPR.out _ HQ1.out HL1.out).mono ?_
  rintro e w4 ⟨B4, c4, rfl, hc4, h4, hb⟩
  have HP4 := Lib.hid h4
  have HC4 := Lib.hid hc4
  have HQ4 := Lib.hid (HQ1.out.below hb)
  have HL4 := Lib.hid (HL1.out.below hb)
  have HB4 := Lib.hid (HB1.out.trans (hb.mono HB1.out.size))
  clear hb h4 hc4
  go_wp2_with fail
  go_loopw [11, 12, 13] (fun x k la wr => ∃ (kk : Nat) (z : List Msg) (Bx : Option Addr) (cx : Nat) (lv : Int), kk ≤ K ∧ Hid (z = q ++ l.take kk) ∧ x = .slice Bx z.length cx ∧ k = .int .i64 kk ∧ la = .int .i64 lv ∧ (lv = 0 ∨ lv = 8 ∧ kk = K) ∧ Hid (z.length ≤ cx) ∧ Hid (Rq wr Bx z) ∧ Hid (Below w.heap.size w wr) ∧ Hid (Below w4.heap.size w4 wr)) (fun _ k la _ => 2 * (l.length - (intOf k).toNat) + (if intOf la = 0 then 1 else 0))
  case atStart => exact ⟨0, q, A, c, 0, by omega, Lib.hid (by simp), rfl, rfl, rfl, .inl rfl, HC, HQ4, HB4, Lib.hid (Below.refl _ _)⟩
  case round =>
    obtain ⟨kk, z, Bx, cx, lv, hkK, HZ, rfl, rfl, rfl, hlv, HCX, HX, HBB, HB44⟩ := hrel
    have HPX := Lib.hid (HP4.out.below HB44.out)
    have HQX := Lib.hid (HQ4.out.below HB44.out)
    have HLX := Lib.hid (HL4.out.below HB44.out)
    have HZL : Hid (z.length = q.length + kk) := Lib.hid (by rw [HZ.out, List.length_append, List.length_take]; omega)
    by_cases hgo : kk < l.length ∧ lv = 0
    · obtain ⟨hl0, rfl⟩ := hgo
      obtain ⟨b, off, rfl, hc⟩ := HLX.out.cell hl0
      have hx := HLX.out.msg hl0
      obtain ⟨m1, hm1⟩ : ∃ m1, l.getD kk Msg.none = m1 := ⟨_, rfl⟩
      rw [hm1] at hc hx
      have HM1 := Lib.hid hm1
      clear hm1
      obtain ⟨A1, x1, c1⟩ := m1
      have hck : wr.cell? ⟨b, off + kk, none⟩ = some (.slice A1 x1.length c1) := hc
      have HX1 : Hid (Rb wr A1 x1) := Lib.hid hx
      clear hc hx
      have kl : (kk : Int) < l.length := by omega
      by_cases hroom : kk < K
      · have HPT : Hid (Calls Try.prog 9 #[.slice Bx z.length cx, .slice A1 x1.length c1, .int .i64 n] wr (GivesQ (z ++ [⟨A1, x1, c1⟩]) 0 wr)) := Lib.hid (by
          have h0 := put_any Bx z cx A1 x1 c1 n wr HX.out HCX.out (by rw [HZL.out]; omega) HX1.out
          have e1 := HKR.out ()
          have e2 := HZL.out
          unfold putQ at h0
          rwa [if_neg (by omega), if_neg (by omega)] at h0)
        have HZ2 : Hid (z ++ [⟨A1, x1, c1⟩] = q ++ l.take (kk + 1)) := Lib.hid (by rw [HZ.out]; exact take_snoc hl0 HM1.out)
        generalize z ++ [⟨A1, x1, c1⟩] = z2 at *
        go_wp2_with fail
        refine HPT.out.mono ?_
        rintro e w6 ⟨B6, c6, rfl, hc6, h6, hb⟩
        have HX6 := Lib.hid h6
        have HC6 := Lib.hid hc6
        have HB6 := Lib.hid (HBB.out.trans (hb.mono HBB.out.size))
        have HB46 := Lib.hid (HB44.out.trans (hb.mono HB44.out.size))
        clear hb hck h6 hc6 HPT
        go_wp2_with fail
        exact ⟨⟨kk + 1, z2, B6, c6, 0, by omega, HZ2, rfl, by go_num, rfl, .inl rfl, HC6, HX6, HB6, HB46⟩, by simp [intOf]; omega⟩
      · have HPT : Hid (Calls Try.prog 9 #[.slice Bx z.length cx, .slice A1 x1.length c1, .int .i64 n] wr (GivesQ z 8 wr)) := Lib.hid (by
          have h0 := put_any Bx z cx A1 x1 c1 n wr HX.out HCX.out (by rw [HZL.out]; omega) HX1.out
          have e1 := HKR.out ()
          have e2 := HZL.out
          unfold putQ at h0
          rwa [if_neg (by omega), if_pos (by omega)] at h0)
        go_wp2_with fail
        refine HPT.out.mono ?_
        rintro e w6 ⟨B6, c6, rfl, hc6, h6, hb⟩
        have HB6 := Lib.hid (HBB.out.trans (hb.mono HBB.out.size))
        have HB46 := Lib.hid (HB44.out.trans (hb.mono HB44.out.size))
        have HX6 := Lib.hid (HX.out.below hb)
        clear hb hck h6 hc6 HPT
        go_wp2_with fail
        exact ⟨⟨kk, z, Bx, cx, 8, hkK, HZ, rfl, rfl, rfl, .inr ⟨rfl, by omega⟩, HCX, HX6, HB6, HB46⟩, by simp [intOf]⟩
    · have hend : (lv = 0 ∧ kk = l.length) ∨ lv = 8 := by omega
      have hkk : kk = K := by omega
      subst hkk
      have HV : Hid (rowsB pp z = true) := Lib.hid (by rw [HZ.out, HPP.out]; exact rows_self _)
      have HV2 : Hid (rowsB q q = true) := Lib.hid (rows_self q)
      have HTK : Hid (q = pp.take q.length) := Lib.hid (by rw [HPP.out]; simp)
      have hpli : ((pp.length : Int) == (q.length : Int) + kk) = true := beq_iff_eq.2 (by have := HPL.out; omega)
      rcases hend with ⟨rfl, h0⟩ | rfl
      case' inl => have l0 : decide ((kk : Int) < l.length) = false := decide_eq_false (by omega)
      case' inl => have l0n : decide (kk < l.length) = false := decide_eq_false (by omega)
      case' inr => obtain ⟨bl, hbl⟩ : ∃ bl, decide ((kk : Int) < l.length) = bl := ⟨_, rfl⟩
      case' inr => have hbl2 : decide (kk < l.length) = bl := by rw [← hbl]; simp
      case' inr => cases bl
      case' inl => clear h0
      all_goals
        clear hgo hlv
        go_wp2_with fail
        refine (rows_any B4 pp c4 Bx z cx wr HPX.out HX.out).mono ?_
        rw [HV.out]
        rintro e wa ⟨rfl, hb⟩
        have HBA := Lib.hid (HBB.out.trans (hb.mono HBB.out.size))
        have HPA := Lib.hid (HPX.out.below hb)
        have HQA := Lib.hid (HQX.out.below hb)
        clear hb
        go_wp2_with (first | ((with_reducible refine at_dst 121 ?_); refine wpList_qslice_h_g rfl rfl rfl (l := q.length) rfl HPA.out (by have := HPL.out; omega) HC4.out HTK.out ?_; intro B7 h7 _; have H7 := Lib.hid h7; clear h7) | fail)
        refine (rows_any B7 q c4 A q c wa H7.out HQA.out).mono ?_
        rw [HV2.out]
        rintro e wb ⟨rfl, hb⟩
        have HBC := Lib.hid (HBA.out.trans (hb.mono HBA.out.size))
        clear hb
        go_wp2_with fail
        go_ret
        exact ⟨rfl, HBC.out⟩

theorem walk (A : Option Addr) (q : List Msg) (c : Nat) (A' : Option Addr) (l : List Msg) (c' : Nat) (room : Int) (w : World) (hq : Rq w A q) (hcq : q.length ≤ c) (hl : Rq w A' l) (_hcl : l.length ≤ c') :
    Calls Try.prog 5 #[.slice A q.length c, .slice A' l.length c', .int .i64 room] w fun e w' => e = .returned (.bool true) ∧ Below w.heap.size w w' := by
  by_cases h1 : 70 < q.length
  · exact walk_q A q c A' l c' room w hq hl h1
  by_cases h2 : 70 < l.length
  · exact walk_l A q c A' l c' room w hq hl ⟨by omega, h2⟩
  by_cases h3 : room < 1 ∨ 64 < room
  · exact walk_bad A q c A' l c' room w hq hl hcq (by omega) (by omega) h3
  · obtain ⟨n, hn⟩ := Int.eq_ofNat_of_zero_le (show 0 ≤ room by omega)
    exact walk_good A q c A' l c' room w hq hl hcq (by omega) (by omega) n hn (by omega) (by omega)
theorem walk' (A : Option Addr) (q : List Msg) (c : Nat) (A' : Option Addr) (l : List Msg) (c' : Nat) (room : Int) (_ : (Lit.int .i64 room).wf = true) (w : World) (hq : Rq w A q) (hcq : q.length ≤ c) (hl : Rq w A' l) (hcl : l.length ≤ c') :
    Calls Try.prog 5 #[.slice A q.length c, .slice A' l.length c', .int .i64 room] w fun e w' => e = .returned (.bool true) ∧ Below w.heap.size w w' := by
  exact walk A q c A' l c' room w hq hcq hl hcl

set_option maxRecDepth 100000 in
theorem lifted (os : Os) (started : os.Started) (H : Type) (enc : TypeId × Value → H) :
    ReturnsInHanded {} Try.checked os 5 .any (Rows.queuePoursSpec.pre6 enc Try.prog Try.f5 Rows.queuePoursRow.domain false) (Rows.queuePoursSpec.post enc Try.prog Try.f5 false true false false) := by
  refine returnsInHanded_of_change (C := Try.checked) own started (by kernel_rfl) Try.func5
    (ChangeSpec.witness6 (enc := enc) (C := Try.checked) false ⟨#[], #[.slice none 0 0, .slice none 0 0, .int .i64 0], []⟩ 8 (by kernel_rfl) (by kernel_rfl) (by kernel_rfl) (by kernel_rfl)) ?_
  intro W base args ds gs before hval0 hW _ _
  have hval : ∀ (j : Nat) t v, Try.f5.params[j]? = some t → args[j]? = some v → Value.okWide Try.prog W .any base t v := hval0
  have hW' := hW
  obtain ⟨p, q, hA0, hV, rfl, _, _⟩ := hW
  have hA : DataW.TrodAll enc Try.prog W 0 (fun _ => true) true Try.f5.params.toList args.toList ds p := hA0
  rw [Try.params5] at hA hval
  obtain ⟨v0, vs0, d0, ds0, p0, q0, hargs, rfl, rfl, h0, r0x⟩ := trodAll_cons hA
  obtain ⟨v1, vs1, d1, ds1, p1, q1, rfl, rfl, rfl, h1, r1x⟩ := trodAll_cons r0x
  obtain ⟨v2, vs2, d2, ds2, p2, q2, rfl, rfl, rfl, h2, r2x⟩ := trodAll_cons r1x
  obtain ⟨rfl, rfl, rfl⟩ := trodAll_nil r2x
  obtain rfl : args = #[v0, v1, v2] := by cases args; simp_all
  obtain ⟨A0, q0, cp0, rfl, hx0, hcp0⟩ := open_queue (hval 0 22 v0 rfl rfl) h0
  obtain ⟨A1, q1, cp1, rfl, hx1, hcp1⟩ := open_queue (hval 1 22 v1 rfl rfl) h1
  obtain ⟨a2, rfl, rfl, rfl, w2⟩ := open_int Try.underlying3 (hval 2 3 v2 rfl rfl) h2
  clear hA0 hval0
  refine (walk' A0 q0 cp0 A1 q1 cp1 a2 w2 W hx0 hcp0 hx1 hcp1).mono fun e W' ⟨he, hg⟩ => ?_
  subst he
  exact ⟨_, rfl, law_post hW' rfl rfl (fun h => by subst h; exact ⟨rfl, rfl, rfl⟩) (by rw [Try.params5]; intro t ht; simp at ht; rcases ht with rfl | rfl | rfl <;> exact ⟨by kernel_rfl, of_decide_eq_true (by kernel_rfl)⟩) hg⟩

theorem over : Rows.queuePoursRow.holds Try.pinned (OpenSpec.ofChange Rows.queuePoursSpec) :=
  OpenClaim.holds_of_wide 5 Try.f5 rfl rfl rfl rfl rfl rfl rfl ⟨rfl, rfl, rfl, rfl, rfl⟩ rfl rfl rfl rfl rfl (by kernel_rfl) Try.func5 (by kernel_rfl)
    (of_decide_eq_true (by kernel_rfl)) (by unfold Func.isWrapper; first | (rw [if_pos (by decide +kernel)]; kernel_rfl) | (rw [if_neg (by decide +kernel)]; exact ⟨rfl, rfl⟩))
    (fun os started H enc _ => lifted os started H enc)

theorem proved : Rows.QueuePoursSaid :=
  over
#print axioms proved
end queuePours
end Go.Proofs.Ytlkpnecionpnhaa
