/- QueueOrder: ORDER: what comes out is what went in, in order, each once; what is refused is refused just where there is no room; no more wait than there is room for. -/
import Derived.Test.YtlkpnecionpnhaaO
namespace Go.Proofs.Ytlkpnecionpnhaa
open Go.ChangeShapes Go.WideShapes Go.ChangeAt Go.RowKit
namespace queueOrder

theorem wpList_qslice_l_g {ops : Array Oper} {rest : List Oper} {o : Oper} {a : Act} {w : World} {Q : Exit → Act → World → Prop} {A : Option Addr} {q : List Msg} {c n : Nat} {x : Operand} (hgd : Region.wanted o (yielded ops a.tmps) = true) {lo : Operand} (ho : o.op = .slice 22 x (some lo) none none) (hx : a.eval x = .slice A n c) (hn : n = q.length) {li : Int} (hlo : a.eval lo = .int .i64 li) {l : Nat} (hli : li = l) (hr : Rq w A q) (hl : l ≤ q.length) (hc : q.length ≤ c) {zs : List Msg} (hz : zs = q.drop l)
    (h : ∀ B d, Rq w B zs → zs.length ≤ d → wpList Try.prog ops Q rest (a.put o.dst (.slice B zs.length d)) w) : wpList Try.prog ops Q (o :: rest) a w :=
  wpList_step fun K hK => by
    rw [if_pos hgd]
    subst hz
    subst hn
    subst hli
    have hcut := hr.cut (l := l) (m := q.length) hl (Nat.le_refl _) hc
    rw [List.take_length] at hcut
    have hlen : (q.drop l).length = q.length - l := List.length_drop
    have hrun := run_cut_l w A q.length c l hl
    rw [← hlen] at hrun
    unfold Oper.wp execOp
    simp only [ho, hx, hlo, Option.map_some, Option.map_none, Sem.run_bind, hrun, Result.andThen_ok, Sem.run_pure]
    exact hK _ _ (h _ _ hcut (by omega))
theorem mkRq {w W : World} {B : Option Addr} {Q N : List Msg} {o : Nat} (hv : Rv W B (Q.map Msg.v)) (hm : ∀ m ∈ N, Rb w m.A m.xs) (hq : Q = N.drop o) (hb : Below w.heap.size w W) : Rq W B Q :=
  ⟨hv, fun m h => (hm m (List.mem_of_mem_drop (hq ▸ h))).below hb⟩
theorem own_queue {w W : World} {B : Option Addr} {N : List Msg} {c : Nat} (ho : W.ownsRow w.heap.size 23 1 (.slice B N.length c) N.length (N.map Msg.v)) (hm : ∀ m ∈ N, Rb w m.A m.xs) (hb : Below w.heap.size w W) (hl : N.length ≤ 1000) : Rq W B N ∧ N.length ≤ c := by
  obtain ⟨A, c', e, hc, hr⟩ := Rq.of_own rfl ho (by unfold maxLen; omega) (fun m h => (hm m h).below hb)
  cases e
  exact ⟨hr, hc⟩
theorem drop_facts {N : List Msg} {o : Nat} (h : o < N.length) : (N.drop o).tail = N.drop (o + 1) ∧ (N.drop o).getD 0 Msg.none = N.getD o Msg.none ∧ (!(N.drop o).isEmpty) = true := by
  rw [List.drop_eq_getElem_cons h]
  refine ⟨rfl, ?_, rfl⟩
  rw [List.getD_eq_getElem?_getD, List.getD_eq_getElem?_getD, List.getElem?_eq_getElem h]; rfl
theorem drop_none {N : List Msg} {o : Nat} (h : N.length ≤ o) : (N.drop o).tail = N.drop o ∧ (!(N.drop o).isEmpty) = false := by
  rw [List.drop_eq_nil_of_le h]
  exact ⟨rfl, rfl⟩

set_option maxRecDepth 100000 in
set_option maxHeartbeats 8000000 in
theorem walk_long (A : Option Addr) (l : List Stp) (c : Nat) (n : Int) (w : World) (hx : Rst w A l) (H : 60 < l.length) :
    Calls Try.prog 4 #[.slice A l.length c, .int .u8 n] w fun e w' => e = .returned (.bool true) ∧ Below w.heap.size w w' := by
  have hm := hx.len
  unfold maxLen at hm
  have an : decide (60 < l.length) = true := decide_eq_true (by omega)
  have ai : decide ((60 : Int) < l.length) = true := decide_eq_true (by omega)
  clear hx H
  go_enter Try.func4, Try.ntmps4
  go_wp2_with fail
  refine (shown_ok _).mono ?_
  rintro e w1 ⟨rfl, hb⟩
  have HB1 := Lib.hid hb
  clear hb
  go_wp2_with fail
  go_ret
  exact ⟨rfl, HB1.out⟩

set_option maxRecDepth 100000 in
set_option maxHeartbeats 8000000 in
theorem walk_main (A : Option Addr) (l : List Stp) (c : Nat) (n : Int) (w : World) (hx : Rst w A l) (H : l.length ≤ 60) (h0 : 0 ≤ n) (h255 : n ≤ 255) :
    Calls Try.prog 4 #[.slice A l.length c, .int .u8 n] w fun e w' => e = .returned (.bool true) ∧ Below w.heap.size w w' := by
  obtain ⟨k, hk⟩ : ∃ k : Nat, 1 + n % 64 = (k : Int) := ⟨(1 + n % 64).toNat, by omega⟩
  have hk1 : 1 ≤ k := by omega
  have hk64 : k ≤ 64 := by omega
  have hk2 : 1 + n.tmod 64 = (k : Int) := by rw [Int.tmod_eq_emod_of_nonneg h0]; exact hk
  have HX := Lib.hid hx
  obtain ⟨i0, hi0, hz0, hz1, hz2⟩ := info_parts info23
  have an : decide (60 < l.length) = false := decide_eq_false (by omega)
  have ai : decide ((60 : Int) < l.length) = false := decide_eq_false (by omega)
  clear hx
  go_enter Try.func4, Try.ntmps4
  go_wp2_with fail
  refine (shown_ok _).mono ?_
  rintro e w1 ⟨rfl, hb⟩
  have HB1 := Lib.hid hb
  clear hb
  go_wp2_with fail
  clear hk hk2
  go_loopw [7, 8, 9, 10] (fun qv nv ov iv wr => ∃ (i o : Nat) (Q N : List Msg) (Bq : Option Addr) (cq : Nat) (Bi : Option Addr) (ci : Nat), i ≤ l.length ∧ Hid (Q = N.drop o) ∧ o ≤ N.length ∧ N.length ≤ i ∧ Q.length ≤ k ∧ qv = .slice Bq Q.length cq ∧ nv = .slice Bi N.length ci ∧ ov = .int .i64 o ∧ iv = .int .i64 i ∧ Hid (Q.length ≤ cq) ∧ Hid (Rv wr Bq (Q.map Msg.v)) ∧ Hid (wr.ownsRow w.heap.size 23 1 (.slice Bi N.length ci) N.length (N.map Msg.v)) ∧ Hid (∀ m ∈ N, Rb w m.A m.xs) ∧ Hid (Below w.heap.size w wr)) (fun _ _ _ iv _ => l.length - (intOf iv).toNat)
  case atStart =>
    have hown := own_empty (w1.alloc (.cells #[] 23)) w.heap.size 23 (by have := HB1.out.size; simp; omega)
    rw [World.size_alloc] at hown
    exact ⟨0, 0, [], [], some ⟨w1.heap.size, 0, none⟩, 0, some ⟨w1.heap.size + 1, 0, none⟩, 0, by omega, Lib.hid rfl, by omega, by simp, by simp, rfl, rfl, rfl, rfl, Lib.hid (Nat.le_refl _), Lib.hid (Rv.nil _ _), Lib.hid hown, Lib.hid (fun m h => by cases h), Lib.hid ((HB1.out.alloc HB1.out.size _).alloc (by have := HB1.out.size; simp; omega) _)⟩
  case round =>
    obtain ⟨i, o, Q, N, Bq, cq, Bi, ci, hi, HQN, ho, hNi, hQk, rfl, rfl, rfl, rfl, HCQ, HRV, HOWN, HMS, HBB⟩ := hrel
    have HQL : Hid (Q.length = N.length - o) := Lib.hid (by rw [HQN.out, List.length_drop])
    by_cases hgo : i < l.length
    · have HXr := Lib.hid (HX.out.below HBB.out)
      obtain ⟨b, off, rfl, hcells⟩ := HXr.out.cells (by omega)
      have hc := hcells i hgo
      have hmsg0 := HX.out.msg hgo
      have HRQ := Lib.hid (mkRq HRV.out HMS.out HQN.out HBB.out)
      clear hcells
      generalize l.getD i Stp.none = st at *
      obtain ⟨tk, ⟨A1, x1, c1⟩⟩ := st
      have hck0 : wr.cell? ⟨b, off + i * 2, none⟩ = some (.bool tk) := hc.1
      have hck1 : wr.cell? ⟨b, off + i * 2 + 1, none⟩ = some (.slice A1 x1.length c1) := hc.2
      have HM1 : Hid (Rb w A1 x1) := Lib.hid hmsg0
      have hx1 : x1.length ≤ 2 ^ 63 - 1 := (show Rb w A1 x1 from hmsg0).len
      clear hc hmsg0
      have il : (i : Int) < l.length := by omega
      by_cases hbig : 100 < x1.length
      · have b1 : decide (100 < x1.length) = true := decide_eq_true hbig
        have b2 : decide ((100 : Int) < x1.length) = true := decide_eq_true (by omega)
        go_wp2_with fail
        go_ret
        exact ⟨rfl, HBB.out⟩
      have b1 : decide (100 < x1.length) = false := decide_eq_false hbig
      have b2 : decide ((100 : Int) < x1.length) = false := decide_eq_false (by omega)
      cases tk
      · by_cases hroom : Q.length < k
        · have r1 : decide ((N.length : Int) - o < k) = true := decide_eq_true (by have := HQL.out; omega)
          obtain ⟨Q2, hQ2⟩ : ∃ Q2, Q ++ [(⟨A1, x1, c1⟩ : Msg)] = Q2 := ⟨_, rfl⟩
          obtain ⟨N2, hN2⟩ : ∃ N2, N ++ [(⟨A1, x1, c1⟩ : Msg)] = N2 := ⟨_, rfl⟩
          have HN2 := Lib.hid hN2
          have HN2L : Hid (N.length + 1 = N2.length) := Lib.hid (by rw [← hN2]; simp)
          have HQ2L : Hid (Q2.length = Q.length + 1) := Lib.hid (by rw [← hQ2]; simp)
          have HQ2N : Hid (Q2 = N2.drop o) := Lib.hid (by rw [← hQ2, ← hN2, HQN.out, List.drop_append_of_le_length ho])
          have hput := put_fresh Bq Q cq A1 x1 c1 k wr HRQ.out (HM1.out.below HBB.out) hk1 hk64 hroom
          rw [hQ2] at hput
          have HPUT := Lib.hid hput
          clear hput hQ2 hN2
          go_wp2_with fail
          refine HPUT.out.mono ?_
          rintro e w6 ⟨B6, c6, rfl, hc6, h6, hb, hfr⟩
          have HC6 := Lib.hid hc6
          have HR6 := Lib.hid h6
          have HB6 := Lib.hid (HBB.out.trans (hb.mono HBB.out.size))
          have HO6 := Lib.hid (own_below HOWN.out hb)
          have hck6 : w6.cell? ⟨b, off + i * 2 + 1, none⟩ = some (.slice A1 x1.length c1) := (hb.cell (p := ⟨b, off + i * 2 + 1, none⟩) (cell_lt hck1)).trans hck1
          have HFR := Lib.hid (fun b' off' e' => own_block_lt HOWN.out (hfr b' off' e'))
          clear hb hfr h6 hc6 hck0 hck1 HPUT
          go_wp2_with (first
            | ((with_reducible refine at_dst 111 ?_); refine wpList_append_rv rfl (.tmp 104) (.tmp 110) 22 rfl w.heap.size 23 i0 _ 24 Try.underlying22 hi0 hz0 hz1 hz2 rfl (.slice Bi N.length ci) N.length _ rfl (HO6.out.alloc _) (some ⟨w6.heap.size, 0, none⟩) [.slice A1 x1.length c1] 1 1 rfl rfl (one_msg (cb := c1) (HM1.out.below HB6.out)).row (by unfold maxLen; simp; omega) (by simp; omega) (by have := HB6.out.size; simp; omega) ?_; intro B8 c8 w8 hown8 hgr8; have HB8 := Lib.hid (below_own (Nat.le_refl _) (HB6.out.alloc HB6.out.size _) (HO6.out.alloc _) hgr8); have HV8 := Lib.hid (((HR6.out.row).keep (Keep.alloc w6 _)).past hgr8 HFR.out); rw [HN2L.out] at hown8 ⊢; have HO8 : Hid (w8.ownsRow w.heap.size 23 1 (.slice B8 N2.length c8) N2.length (N2.map Msg.v)) := Lib.hid (by rw [← HN2.out, List.map_append]; rw [← HN2.out] at hown8; exact hown8); have HMS8 : Hid (∀ m ∈ N2, Rb w m.A m.xs) := Lib.hid (by rw [← HN2.out]; intro m hm; rcases List.mem_append.1 hm with h | h; exact HMS.out m h; rw [List.mem_singleton] at h; subst h; exact HM1.out); have HRN8 := Lib.hid (own_queue HO8.out HMS8.out HB8.out (by have := HN2L.out; omega)); have HRQ8 := Lib.hid (mkRq HV8.out HMS8.out HQ2N.out HB8.out); have s1 : ((Q2.length : Int) != (N2.length : Int) - o) = false := (by rw [bne_eq_false_iff_eq]; have := HQ2L.out; have := HN2L.out; have := HQL.out; omega); have s2 : decide ((k : Int) < Q2.length) = false := decide_eq_false (by have := HQ2L.out; omega); have s3 : decide (k < Q2.length) = false := decide_eq_false (by have := HQ2L.out; omega); have hon : o ≤ N2.length := (by have := HN2L.out; omega); have hn2 : N2.length ≤ 61 := (by have := HN2L.out; omega); clear hown8 hgr8)
            | ((with_reducible refine at_dst 130 ?_); refine wpList_qslice_l_g rfl rfl rfl rfl rfl (l := o) (by omega) HRN8.out.1 hon HRN8.out.2 HQ2N.out ?_; intro B7 d7 h7 _; have H7 := Lib.hid h7; clear h7)
            | fail)
          refine (rows_any B6 Q2 c6 B7 Q2 d7 w8 HRQ8.out H7.out).mono ?_
          rw [rows_self]
          rintro e w9 ⟨rfl, hb⟩
          have HB9 := Lib.hid (HB8.out.trans (hb.mono HB8.out.size))
          have HV9 := Lib.hid ((HRQ8.out.below hb).row)
          have HO9 := Lib.hid (own_below HO8.out hb)
          clear hb
          go_wp2_with fail
          exact ⟨⟨i + 1, o, Q2, N2, B6, c6, B8, c8, by omega, HQ2N, hon, by have := HN2L.out; omega, by have := HQ2L.out; omega, rfl, rfl, rfl, by go_num, HC6, HV9, HO9, HMS8, HB9⟩, by simp [intOf]; omega⟩
        · have r1 : decide ((N.length : Int) - o < k) = false := decide_eq_false (by have := HQL.out; omega)
          have HRN := Lib.hid (own_queue HOWN.out HMS.out HBB.out (by omega))
          have HPUT : Hid (Calls Try.prog 9 #[.slice Bq Q.length cq, .slice A1 x1.length c1, .int .i64 k] wr (GivesQ Q 8 wr)) := Lib.hid (by
            have h0 := put_any Bq Q cq A1 x1 c1 k wr HRQ.out HCQ.out (by omega) (HM1.out.below HBB.out)
            unfold putQ at h0
            rwa [if_neg (by omega), if_pos (by omega)] at h0)
          have s1 : ((Q.length : Int) != (N.length : Int) - o) = false := by rw [bne_eq_false_iff_eq]; have := HQL.out; omega
          have s2 : decide ((k : Int) < Q.length) = false := decide_eq_false (by omega)
          have s3 : decide (k < Q.length) = false := decide_eq_false (by omega)
          go_wp2_with fail
          refine HPUT.out.mono ?_
          rintro e w6 ⟨B6, c6, rfl, hc6, h6, hb⟩
          have HC6 := Lib.hid hc6
          have HR6 := Lib.hid h6
          have HB6 := Lib.hid (HBB.out.trans (hb.mono HBB.out.size))
          have HO6 := Lib.hid (own_below HOWN.out hb)
          have HRN6 := Lib.hid (own_queue HO6.out HMS.out HB6.out (by omega))
          clear hb h6 hc6 hck0 hck1 HPUT
          go_wp2_with (first | ((with_reducible refine at_dst 130 ?_); refine wpList_qslice_l_g rfl rfl rfl rfl rfl (l := o) (by omega) HRN6.out.1 (by omega) HRN6.out.2 HQN.out ?_; intro B7 d7 h7 _; have H7 := Lib.hid h7; clear h7) | fail)
          refine (rows_any B6 Q c6 B7 Q d7 w6 HR6.out H7.out).mono ?_
          rw [rows_self]
          rintro e w9 ⟨rfl, hb⟩
          have HB9 := Lib.hid (HB6.out.trans (hb.mono HB6.out.size))
          have HV9 := Lib.hid ((HR6.out.below hb).row)
          have HO9 := Lib.hid (own_below HO6.out hb)
          clear hb
          go_wp2_with fail
          exact ⟨⟨i + 1, o, Q, N, B6, c6, Bi, ci, by omega, HQN, ho, by omega, hQk, rfl, rfl, rfl, by go_num, HC6, HV9, HO9, HMS, HB9⟩, by simp [intOf]; omega⟩
      · have htake := take_any Bq Q cq wr HRQ.out HCQ.out (by omega)
        obtain ⟨T, hT⟩ : ∃ T, Q.tail = T := ⟨_, rfl⟩
        obtain ⟨mm, hmm⟩ : ∃ mm, Q.getD 0 Msg.none = mm := ⟨_, rfl⟩
        by_cases hne : o < N.length
        · have n1 : decide ((o : Int) < N.length) = true := decide_eq_true (by omega)
          have n2 : decide (o < N.length) = true := decide_eq_true hne
          have his : (!Q.isEmpty) = true := by rw [HQN.out]; exact (drop_facts hne).2.2
          rw [hT, hmm, his] at htake
          have HT2 : Hid (T = N.drop (o + 1)) := Lib.hid (by rw [← hT, HQN.out]; exact (drop_facts hne).1)
          have hmN : N.getD o Msg.none = mm := by rw [← hmm, HQN.out]; exact (drop_facts hne).2.1.symm
          have HTL : Hid (T.length = N.length - (o + 1)) := Lib.hid (by rw [HT2.out, List.length_drop])
          have HMM := Lib.hid (HMS.out mm (by rw [← hmN]; exact getD_mem_q hne))
          have HNG : Hid ((N.map Msg.v)[o]? = some mm.v) := Lib.hid (by rw [← hmN, List.getElem?_map, List.getD_eq_getElem?_getD, List.getElem?_eq_getElem hne]; rfl)
          obtain ⟨gi, rfl, _, _, _⟩ := own_at HOWN.out (by omega)
          have HTK := Lib.hid htake
          clear htake hT hmm his hmN
          obtain ⟨mA, mx, mc⟩ := mm
          have s1 : ((T.length : Int) != (N.length : Int) - ((o : Int) + 1)) = false := by rw [bne_eq_false_iff_eq]; have := HTL.out; omega
          have s2 : decide ((k : Int) < T.length) = false := decide_eq_false (by have := HTL.out; have := HQL.out; omega)
          have s3 : decide (k < T.length) = false := decide_eq_false (by have := HTL.out; have := HQL.out; omega)
          go_wp2_with fail
          refine HTK.out.mono ?_
          rintro e w6 ⟨B6, c6, rfl, hc6, h6, hb⟩
          have HC6 := Lib.hid hc6
          have HR6 := Lib.hid h6
          have HB6 := Lib.hid (HBB.out.trans (hb.mono HBB.out.size))
          have HO6 := Lib.hid (own_below HOWN.out hb)
          have HRN6 := Lib.hid (own_queue HO6.out HMS.out HB6.out (by omega))
          have hcin : w6.cell? ⟨gi, o, none⟩ = some (.slice mA mx.length mc) := by
            obtain ⟨g2, e2, _, _, h2⟩ := own_at HO6.out (by omega)
            cases e2
            exact h2 o _ HNG.out
          have HMX : Hid (Rb w6 mA mx) := Lib.hid (HMM.out.below HB6.out)
          unfold Msg.v
          clear hb h6 hc6 hck0 hck1 HTK
          go_wp2_with fail
          refine (rsame_any mA mA mx mx mc mc w6 HMX.out HMX.out).mono ?_
          rw [show sameL mx mx = true by unfold sameL; simp]
          rintro e w7 ⟨rfl, rfl⟩
          clear hcin
          go_wp2_with (first | ((with_reducible refine at_dst 130 ?_); refine wpList_qslice_l_g rfl rfl rfl rfl rfl (l := o + 1) (by omega) HRN6.out.1 (by omega) HRN6.out.2 HT2.out ?_; intro B7 d7 h7 _; have H7 := Lib.hid h7; clear h7) | fail)
          refine (rows_any B6 T c6 B7 T d7 w7 HR6.out H7.out).mono ?_
          rw [rows_self]
          rintro e w9 ⟨rfl, hb⟩
          have HB9 := Lib.hid (HB6.out.trans (hb.mono HB6.out.size))
          have HV9 := Lib.hid ((HR6.out.below hb).row)
          have HO9 := Lib.hid (own_below HO6.out hb)
          clear hb
          go_wp2_with fail
          exact ⟨⟨i + 1, o + 1, T, N, B6, c6, some ⟨gi, 0, none⟩, ci, by omega, HT2, by omega, by omega, by have := HTL.out; have := HQL.out; omega, rfl, rfl, by go_num, by go_num, HC6, HV9, HO9, HMS, HB9⟩, by simp [intOf]; omega⟩
        · have n1 : decide ((o : Int) < N.length) = false := decide_eq_false (by omega)
          have n2 : decide (o < N.length) = false := decide_eq_false hne
          have his : (!Q.isEmpty) = false := by rw [HQN.out]; exact (drop_none (by omega)).2
          rw [hT, hmm, his] at htake
          have HT2 : Hid (T = N.drop o) := Lib.hid (by rw [← hT, HQN.out]; exact (drop_none (by omega)).1)
          have HTL : Hid (T.length = N.length - o) := Lib.hid (by rw [HT2.out, List.length_drop])
          have HTK := Lib.hid htake
          clear htake hT hmm his
          obtain ⟨mA, mx, mc⟩ := mm
          have s1 : ((T.length : Int) != (N.length : Int) - (o : Int)) = false := by rw [bne_eq_false_iff_eq]; have := HTL.out; omega
          have s2 : decide ((k : Int) < T.length) = false := decide_eq_false (by have := HTL.out; have := HQL.out; omega)
          have s3 : decide (k < T.length) = false := decide_eq_false (by have := HTL.out; have := HQL.out; omega)
          go_wp2_with fail
          refine HTK.out.mono ?_
          rintro e w6 ⟨B6, c6, rfl, hc6, h6, hb⟩
          have HC6 := Lib.hid hc6
          have HR6 := Lib.hid h6
          have HB6 := Lib.hid (HBB.out.trans (hb.mono HBB.out.size))
          have HO6 := Lib.hid (own_below HOWN.out hb)
          have HRN6 := Lib.hid (own_queue HO6.out HMS.out HB6.out (by omega))
          unfold Msg.v
          clear hb h6 hc6 hck0 hck1 HTK
          go_wp2_with (first | ((with_reducible refine at_dst 130 ?_); refine wpList_qslice_l_g rfl rfl rfl rfl rfl (l := o) (by omega) HRN6.out.1 (by omega) HRN6.out.2 HT2.out ?_; intro B7 d7 h7 _; have H7 := Lib.hid h7; clear h7) | fail)
          refine (rows_any B6 T c6 B7 T d7 w6 HR6.out H7.out).mono ?_
          rw [rows_self]
          rintro e w9 ⟨rfl, hb⟩
          have HB9 := Lib.hid (HB6.out.trans (hb.mono HB6.out.size))
          have HV9 := Lib.hid ((HR6.out.below hb).row)
          have HO9 := Lib.hid (own_below HO6.out hb)
          clear hb
          go_wp2_with fail
          exact ⟨⟨i + 1, o, T, N, B6, c6, Bi, ci, by omega, HT2, ho, by omega, by have := HTL.out; have := HQL.out; omega, rfl, rfl, rfl, by go_num, HC6, HV9, HO9, HMS, HB9⟩, by simp [intOf]; omega⟩
    · go_wp2_with fail
      go_ret
      exact ⟨rfl, HBB.out⟩

theorem walk (A : Option Addr) (l : List Stp) (c : Nat) (n : Int) (hn : (Lit.int .u8 n).wf = true) (w : World) (hx : Rst w A l) :
    Calls Try.prog 4 #[.slice A l.length c, .int .u8 n] w fun e w' => e = .returned (.bool true) ∧ Below w.heap.size w w' := by
  have hn' : 0 ≤ n ∧ n ≤ 255 := by simpa [Lit.wf, IntKind.min, IntKind.max, IntKind.signed, IntKind.bits] using hn
  by_cases h : 60 < l.length
  · exact walk_long A l c n w hx h
  · exact walk_main A l c n w hx (by omega) hn'.1 hn'.2

set_option maxRecDepth 100000 in
theorem lifted (os : Os) (started : os.Started) (H : Type) (enc : TypeId × Value → H) :
    ReturnsInHanded {} Try.checked os 4 .any (Rows.queueOrderSpec.pre6 enc Try.prog Try.f4 Rows.queueOrderRow.domain false) (Rows.queueOrderSpec.post enc Try.prog Try.f4 false true false false) := by
  refine returnsInHanded_of_change (C := Try.checked) own started (by kernel_rfl) Try.func4
    (ChangeSpec.witness6 (enc := enc) (C := Try.checked) false ⟨#[], #[.slice none 0 0, .int .u8 0], []⟩ 8 (by kernel_rfl) (by kernel_rfl) (by kernel_rfl) (by kernel_rfl)) ?_
  intro W base args ds gs before hval0 hW _ _
  have hval : ∀ (j : Nat) t v, Try.f4.params[j]? = some t → args[j]? = some v → Value.okWide Try.prog W .any base t v := hval0
  have hW' := hW
  obtain ⟨p, q, hA0, hV, rfl, _, _⟩ := hW
  have hA : DataW.TrodAll enc Try.prog W 0 (fun _ => true) true Try.f4.params.toList args.toList ds p := hA0
  rw [Try.params4] at hA hval
  obtain ⟨v0, vs0, d0, ds0, p0, q0, hargs, rfl, rfl, h0, r0x⟩ := trodAll_cons hA
  obtain ⟨v1, vs1, d1, ds1, p1, q1, rfl, rfl, rfl, h1, r1x⟩ := trodAll_cons r0x
  obtain ⟨rfl, rfl, rfl⟩ := trodAll_nil r1x
  obtain rfl : args = #[v0, v1] := by cases args; simp_all
  obtain ⟨A0, l0, cp0, rfl, hx0⟩ := open_steps (hval 0 42 v0 rfl rfl) h0
  obtain ⟨a1, rfl, rfl, rfl, w1⟩ := open_int Try.underlying5 (hval 1 5 v1 rfl rfl) h1
  clear hA0 hval0
  refine (walk A0 l0 cp0 a1 w1 W hx0).mono fun e W' ⟨he, hg⟩ => ?_
  subst he
  exact ⟨_, rfl, law_post hW' rfl rfl (fun h => by subst h; exact ⟨rfl, rfl, rfl⟩) (by rw [Try.params4]; intro t ht; simp at ht; rcases ht with rfl | rfl <;> exact ⟨by kernel_rfl, of_decide_eq_true (by kernel_rfl)⟩) hg⟩

theorem over : Rows.queueOrderRow.holds Try.pinned (OpenSpec.ofChange Rows.queueOrderSpec) :=
  OpenClaim.holds_of_wide 4 Try.f4 rfl rfl rfl rfl rfl rfl rfl ⟨rfl, rfl, rfl, rfl, rfl⟩ rfl rfl rfl rfl rfl (by kernel_rfl) Try.func4 (by kernel_rfl)
    (of_decide_eq_true (by kernel_rfl)) (by unfold Func.isWrapper; first | (rw [if_pos (by decide +kernel)]; kernel_rfl) | (rw [if_neg (by decide +kernel)]; exact ⟨rfl, rfl⟩))
    (fun os started H enc _ => lifted os started H enc)

theorem proved : Rows.QueueOrderSaid :=
  over
#print axioms proved
end queueOrder
end Go.Proofs.Ytlkpnecionpnhaa
