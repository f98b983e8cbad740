/- BitmapBack: what is written is read, whatever stands behind it; what is read is right, and written so. -/
import Derived.Test.YtalmgpcffbccoaaQ
namespace Go.Proofs.Ytalmgpcffbccoaa
open Go.ChangeShapes Go.WideShapes Go.ChangeAt Go.RowKit
namespace bitmapBack

theorem wpList_slice_lh_g {ops : Array Oper} {rest : List Oper} {o : Oper} {a : Act} {w : World} {Q : Exit → Act → World → Prop} {A : Option Addr} {xs : List Int} {c : Nat} {x : Operand} (hgd : Region.wanted o (yielded ops a.tmps) = true) {lo hi : Operand} (ho : o.op = .slice 24 x (some lo) (some hi) none) (hx : a.eval x = .slice A xs.length c) {l m : Nat} (hlo : a.eval lo = .int .i64 l) (hhi : a.eval hi = .int .i64 m) (hr : Rb w A xs) (hl : l ≤ m) (hm : m ≤ xs.length) (hc : xs.length ≤ c) {zs : List Int} (hz : zs = (xs.take m).drop l)
    (h : ∀ B d, Rb w B zs → zs.length ≤ d → wpList Try.prog ops Q rest (a.put o.dst (.slice B zs.length d)) w) : wpList Try.prog ops Q (o :: rest) a w :=
  wpList_step fun K hK => by
    rw [if_pos hgd]
    subst hz
    have hcut := hr.cut (l := l) (h := m) hl hm hc
    have hlen : ((xs.take m).drop l).length = m - l := by rw [List.length_drop, List.length_take]; omega
    have hrun : (Instr.sliceAt 24 (.slice A xs.length c) (some (.int .i64 l)) (some (.int .i64 m)) none).run Try.prog w = .ok (.slice (if c = l then A else A.map (·.add (l * 1))) ((xs.take m).drop l).length (c - l)) w := by
      rw [run_sliceAt_slice w 24 _ _ _ _ u24e, run_slice_lh w 24 A xs.length c u24e .i64 .i64 l m (by omega) (by omega) (by omega), size5, hlen]
      simp [Result.andThen, sliced]
    unfold Oper.wp execOp
    simp only [ho, hx, hlo, hhi, Option.map_some, Option.map_none, Sem.run_bind, hrun, Result.andThen_ok, Sem.run_pure]
    exact hK _ _ (h _ _ hcut (by omega))

theorem read_cases {xs : List Int} (hb : ∀ x ∈ xs, 0 ≤ x ∧ x ≤ 255) {i : Nat} (hi : i ≤ xs.length) :
    (∃ er, er ≠ 0 ∧ readR xs i = ([], 0, er)) ∨ (∃ (L : List Int) (s : Nat), readR xs i = (L, ((i + s : Nat) : Int), 0) ∧ rightL L = true ∧ outL L = (xs.take (i + s)).drop i ∧ 0 < s ∧ i + s ≤ xs.length) := by
  unfold readR
  rw [if_neg (by omega), show ((i : Nat) : Int).toNat = i from rfl]
  unfold readZ
  have hlen : (xs.drop i).length = xs.length - i := List.length_drop
  by_cases h1 : (xs.drop i).length < sizeR (xs.drop i)
  · rw [if_pos h1]; exact .inl ⟨3, by omega, rfl⟩
  · rw [if_neg h1]
    cases hbd : badR (xs.drop i)
    · rw [if_neg (by simp)]
      obtain ⟨h2, h3⟩ := read_back (zs := xs.drop i) (fun x hx => hb x (List.mem_of_mem_drop hx)) (by omega) hbd
      have h8 : 8 ≤ sizeR (xs.drop i) := by unfold sizeR; split <;> omega
      refine .inr ⟨_, sizeR (xs.drop i), by simp, h2, ?_, by omega, by omega⟩
      rw [h3, List.take_drop]
    · rw [if_pos rfl]; exact .inl ⟨2, by omega, rfl⟩
theorem own_bytes {w : World} {base : Nat} {B : Option Addr} {m cap : Nat} {zs : List Int} (hm : m = zs.length) (h : w.ownsRow base 5 1 (.slice B m cap) m (zs.map (Value.int .u8))) (hlen : zs.length ≤ maxLen) (hb : ∀ x ∈ zs, 0 ≤ x ∧ x ≤ 255) : Rb w B zs := by
  subst hm
  obtain ⟨A, c, e, hr⟩ := Rs.of_own (k := .u8) h hlen (fun x hx => u8_wf (hb x hx).1 (hb x hx).2) (fun j hj => by rw [List.getElem?_map, List.getD_eq_getElem?_getD, List.getElem?_eq_getElem hj]; rfl)
  injection e with h1
  rw [h1]; exact hr

set_option maxRecDepth 100000 in
set_option maxHeartbeats 8000000 in
theorem walk_long (A : Option Addr) (l : List Int) (c : Nat) (A' : Option Addr) (xs : List Int) (c' : Nat) (n : Int) (w : World) (hx : Ri w A l) (hy : Rb w A' xs) (_ : xs.length ≤ c') (hl : 150 < l.length) :
    Calls Try.prog 5 #[.slice A l.length c, .slice A' xs.length c', .int .u8 n] w fun e w' => e = .returned (.bool true) ∧ Below w.heap.size w w' := by
  have hm := hx.len
  have hm' := hy.len
  unfold maxLen at hm hm'
  have d0 : decide (150 < l.length) = true := decide_eq_true (by omega)
  have d1 : decide ((150 : Int) < l.length) = true := decide_eq_true (by omega)
  clear hx hy
  go_enter Try.func5, Try.ntmps5
  go_wp2_with fail
  refine (shown_ok _).mono ?_
  rintro e w1 ⟨rfl, hb⟩
  have HB := Lib.hid hb
  clear hb
  go_wp2_with fail
  go_ret
  exact ⟨rfl, HB.out⟩

set_option maxRecDepth 100000 in
set_option maxHeartbeats 8000000 in
theorem walk_long2 (A : Option Addr) (l : List Int) (c : Nat) (A' : Option Addr) (xs : List Int) (c' : Nat) (n : Int) (w : World) (hx : Ri w A l) (hy : Rb w A' xs) (_ : xs.length ≤ c') (hl : l.length ≤ 150) (hb : 100 < xs.length) :
    Calls Try.prog 5 #[.slice A l.length c, .slice A' xs.length c', .int .u8 n] w fun e w' => e = .returned (.bool true) ∧ Below w.heap.size w w' := by
  have hm := hx.len
  have hm' := hy.len
  unfold maxLen at hm hm'
  have d0 : decide (150 < l.length) = false := decide_eq_false (by omega)
  have d1 : decide ((150 : Int) < l.length) = false := decide_eq_false (by omega)
  have d2 : decide (100 < xs.length) = true := decide_eq_true (by omega)
  have d3 : decide ((100 : Int) < xs.length) = true := decide_eq_true (by omega)
  clear hx hy
  go_enter Try.func5, Try.ntmps5
  go_wp2_with fail
  refine (shown_ok _).mono ?_
  rintro e w1 ⟨rfl, hb⟩
  have HB := Lib.hid hb
  clear hb
  go_wp2_with fail
  go_ret
  exact ⟨rfl, HB.out⟩

/-- What lay below reads as it did, behind an append to a row of the call's own. -/
theorem xs_own {k : IntKind} {w0 w w' : World} {e : TypeId} {v : Value} {n : Nat} {vs : List Value} {A : Option Addr} {xs : List Int} (hb : Below w0.heap.size w0 w) (h : w.ownsRow w0.heap.size e 1 v n vs) (hg : w.grownBy w' v.ownBlock) (hx : Rs k w0 A xs) : Rs k w' A xs :=
  hx.below (below_own hb h hg)

set_option maxRecDepth 100000 in
set_option maxHeartbeats 8000000 in
theorem walk_false_no (A : Option Addr) (l : List Int) (c : Nat) (A' : Option Addr) (xs : List Int) (c' : Nat) (n : Int) (w : World) (hx : Ri w A l) (hy : Rb w A' xs) (hc' : xs.length ≤ c') (hl : l.length ≤ 150) (hb : xs.length ≤ 100) (hr : rightL l = false) (h0 : 0 ≤ n) (h255 : n ≤ 255) (i : Nat) (hi : n % (xs.length + 1) = (i : Int)) (_hin : i ≤ xs.length)
    (er : Int) (her : er ≠ 0) (hrd : readR xs i = ([], 0, er)) :
    Calls Try.prog 5 #[.slice A l.length c, .slice A' xs.length c', .int .u8 n] w fun e w' => e = .returned (.bool true) ∧ Below w.heap.size w w' := by
  have hm := hx.len
  have hm' := hy.len
  unfold maxLen at hm hm'
  have d0 : decide (150 < l.length) = false := decide_eq_false (by omega)
  have d1 : decide ((150 : Int) < l.length) = false := decide_eq_false (by omega)
  have d2 : decide (100 < xs.length) = false := decide_eq_false (by omega)
  have d3 : decide ((100 : Int) < xs.length) = false := decide_eq_false (by omega)
  have HX := Lib.hid hx
  have HXZ := Lib.hid hx
  have HY := Lib.hid hy
  have HR := Lib.hid hr
  have HI := Lib.hid hi
  have RD : Hid (∀ W, Rb W A' xs → Calls Try.prog 17 #[.slice A' xs.length c', .int .i64 (i : Int)] W (GivesL ([], 0, er) W)) := Lib.hid fun W h => by
    have := read_any A' xs c' i W h hc'
    rwa [hrd] at this
  have er0 : (er != 0) = true := bne_iff_ne.2 her
  clear hrd her
  clear hx hy hr hi
  go_enter Try.func5, Try.ntmps5
  go_wp2_with fail
  refine (shown_ok _).mono ?_
  rintro e w1 ⟨rfl, hb⟩
  have HB1 := Lib.hid hb
  have HX1 := Lib.hid (HX.out.below hb)
  have HY1 := Lib.hid (HY.out.below hb)
  clear hb
  go_wp2_with fail
  refine (write_no A l c _ HX1.out HR.out).mono ?_
  rintro e w2 ⟨rfl, rfl⟩
  go_wp2_with fail
  refine (right_any A l c _ HX1.out).mono ?_
  rw [HR.out]
  rintro e w3 ⟨rfl, rfl⟩
  have hi := HI.out
  have hi2 : n.tmod ((xs.length : Int) + 1) = (i : Int) := by rw [Int.tmod_eq_emod_of_nonneg h0]; exact hi
  go_wp2_with fail
  refine (RD.out _ HY1.out).mono ?_
  rintro e w8 ⟨B8, c8, rfl, _, h8, hb⟩
  have HB8 := Lib.hid (HB1.out.trans (hb.mono HB1.out.size))
  clear hb h8
  go_wp2_with fail
  go_ret
  exact ⟨rfl, HB8.out⟩

set_option maxRecDepth 100000 in
set_option maxHeartbeats 8000000 in
theorem walk_false_yes (A : Option Addr) (l : List Int) (c : Nat) (A' : Option Addr) (xs : List Int) (c' : Nat) (n : Int) (w : World) (hx : Ri w A l) (hy : Rb w A' xs) (hc' : xs.length ≤ c') (hl : l.length ≤ 150) (hb : xs.length ≤ 100) (hr : rightL l = false) (h0 : 0 ≤ n) (h255 : n ≤ 255) (i : Nat) (hi : n % (xs.length + 1) = (i : Int)) (_hin : i ≤ xs.length)
    (L : List Int) (nx : Nat) (hrd : readR xs i = (L, (nx : Int), 0)) (hrl : rightL L = true) (hol : outL L = (xs.take nx).drop i) (hnx : i < nx) (hnl : nx ≤ xs.length) :
    Calls Try.prog 5 #[.slice A l.length c, .slice A' xs.length c', .int .u8 n] w fun e w' => e = .returned (.bool true) ∧ Below w.heap.size w w' := by
  have hm := hx.len
  have hm' := hy.len
  unfold maxLen at hm hm'
  have d0 : decide (150 < l.length) = false := decide_eq_false (by omega)
  have d1 : decide ((150 : Int) < l.length) = false := decide_eq_false (by omega)
  have d2 : decide (100 < xs.length) = false := decide_eq_false (by omega)
  have d3 : decide ((100 : Int) < xs.length) = false := decide_eq_false (by omega)
  have HX := Lib.hid hx
  have HXZ := Lib.hid hx
  have HY := Lib.hid hy
  have HR := Lib.hid hr
  have HI := Lib.hid hi
  have RD : Hid (∀ W, Rb W A' xs → Calls Try.prog 17 #[.slice A' xs.length c', .int .i64 (i : Int)] W (GivesL (L, (nx : Int), 0) W)) := Lib.hid fun W h => by
    have := read_any A' xs c' i W h hc'
    rwa [hrd] at this
  have HRL := Lib.hid hrl
  have HOL := Lib.hid hol
  have t0 : decide ((i : Int) < nx) = true := decide_eq_true (by omega)
  have t0b : decide (i < nx) = true := decide_eq_true (by omega)
  have t1 : decide ((nx : Int) ≤ xs.length) = true := decide_eq_true (by omega)
  have t1b : decide (nx ≤ xs.length) = true := decide_eq_true (by omega)
  clear hrd hrl hol
  clear hx hy hr hi
  go_enter Try.func5, Try.ntmps5
  go_wp2_with fail
  refine (shown_ok _).mono ?_
  rintro e w1 ⟨rfl, hb⟩
  have HB1 := Lib.hid hb
  have HX1 := Lib.hid (HX.out.below hb)
  have HY1 := Lib.hid (HY.out.below hb)
  clear hb
  go_wp2_with fail
  refine (write_no A l c _ HX1.out HR.out).mono ?_
  rintro e w2 ⟨rfl, rfl⟩
  go_wp2_with fail
  refine (right_any A l c _ HX1.out).mono ?_
  rw [HR.out]
  rintro e w3 ⟨rfl, rfl⟩
  have hi := HI.out
  have hi2 : n.tmod ((xs.length : Int) + 1) = (i : Int) := by rw [Int.tmod_eq_emod_of_nonneg h0]; exact hi
  go_wp2_with fail
  refine (RD.out _ HY1.out).mono ?_
  rintro e w8 ⟨B8, c8, rfl, _, h8, hb⟩
  have HB8 := Lib.hid (HB1.out.trans (hb.mono HB1.out.size))
  have H8 : Hid (Ri w8 B8 L) := Lib.hid h8
  have HY8 := Lib.hid (HY1.out.below hb)
  clear hb h8
  go_wp2_with fail
  refine (write_ok B8 L c8 _ H8.out HRL.out).mono ?_
  rintro e w9 ⟨B9, c9, rfl, _, h9, hb⟩
  have H9 := Lib.hid h9
  have HB9 := Lib.hid (HB8.out.trans (hb.mono HB8.out.size))
  have HY9 := Lib.hid (HY8.out.below hb)
  have H89 := Lib.hid (H8.out.below hb)
  clear hb h9
  go_wp2_with fail
  refine (right_any B8 L c8 _ H89.out).mono ?_
  rw [HRL.out]
  rintro e w10 ⟨rfl, rfl⟩
  go_wp2_with (first | ((with_reducible refine at_dst 130 ?_); refine wpList_slice_lh_g rfl rfl rfl (l := i) (m := nx) rfl rfl HY9.out (by omega) (by omega) hc' HOL.out ?_; intro B11 d11 h11 _; have H11 := Lib.hid h11; clear h11) | fail)
  refine (rsame_self _ _ _ _ _ _ H9.out H11.out).mono ?_
  rintro e w12 ⟨rfl, rfl⟩
  go_wp2_with fail
  go_ret
  exact ⟨rfl, HB9.out⟩

set_option maxRecDepth 100000 in
set_option maxHeartbeats 8000000 in
theorem walk_true_no (A : Option Addr) (l : List Int) (c : Nat) (A' : Option Addr) (xs : List Int) (c' : Nat) (n : Int) (w : World) (hx : Ri w A l) (hy : Rb w A' xs) (hc' : xs.length ≤ c') (hl : l.length ≤ 150) (hb : xs.length ≤ 100) (hr : rightL l = true) (h0 : 0 ≤ n) (h255 : n ≤ 255) (i : Nat) (hi : n % (xs.length + 1) = (i : Int)) (_hin : i ≤ xs.length)
    (er : Int) (her : er ≠ 0) (hrd : readR xs i = ([], 0, er)) :
    Calls Try.prog 5 #[.slice A l.length c, .slice A' xs.length c', .int .u8 n] w fun e w' => e = .returned (.bool true) ∧ Below w.heap.size w w' := by
  have hm := hx.len
  have hm' := hy.len
  unfold maxLen at hm hm'
  have d0 : decide (150 < l.length) = false := decide_eq_false (by omega)
  have d1 : decide ((150 : Int) < l.length) = false := decide_eq_false (by omega)
  have d2 : decide (100 < xs.length) = false := decide_eq_false (by omega)
  have d3 : decide ((100 : Int) < xs.length) = false := decide_eq_false (by omega)
  have HX := Lib.hid hx
  have HXZ := Lib.hid hx
  have HY := Lib.hid hy
  have HR := Lib.hid hr
  have HI := Lib.hid hi
  have RD : Hid (∀ W, Rb W A' xs → Calls Try.prog 17 #[.slice A' xs.length c', .int .i64 (i : Int)] W (GivesL ([], 0, er) W)) := Lib.hid fun W h => by
    have := read_any A' xs c' i W h hc'
    rwa [hrd] at this
  have er0 : (er != 0) = true := bne_iff_ne.2 her
  clear hrd her
  have HWR : Hid (∀ W, Ri W A l → Calls Try.prog 10 #[.slice A l.length c] W (GivesB .i64 (outL l) 0 W)) := Lib.hid fun W h => write_ok A l c W h HR.out
  have HRO : Hid (∀ W B cap, Rb W B (outL l ++ xs) → (outL l ++ xs).length ≤ cap → Calls Try.prog 17 #[.slice B ((outL l).length + xs.length) cap, .int .i64 0] W (GivesL (l, ((outL l).length : Int), 0) W)) := Lib.hid fun W B cap h hc => by
    have := read_any B (outL l ++ xs) cap 0 W h hc
    rw [read_out HR.out, ← outL_len, List.length_append] at this
    exact this
  have HBY : Hid (∀ x ∈ outL l ++ xs, 0 ≤ x ∧ x ≤ 255) := Lib.hid fun x hm => by
    rcases List.mem_append.1 hm with h | h
    · exact outL_mem h
    · exact hy.byte x h
  have HSZ : Hid ((outL l).length = 8 ∨ (outL l).length = 16) := Lib.hid (by rw [outL_len]; unfold sizeL; split <;> omega)
  generalize outL l = X at *
  obtain ⟨i0, hi0, hz0, hz1, hz2⟩ := info_parts info5
  clear hx hy hr hi
  go_enter Try.func5, Try.ntmps5
  go_wp2_with fail
  refine (shown_ok _).mono ?_
  rintro e w1 ⟨rfl, hb⟩
  have HB1 := Lib.hid hb
  have HX1 := Lib.hid (HX.out.below hb)
  have HY1 := Lib.hid (HY.out.below hb)
  clear hb
  go_wp2_with fail
  refine (HWR.out _ HX1.out).mono ?_
  rintro e w2 ⟨B, cp, rfl, hcp, h2, hb⟩
  have H2 := Lib.hid h2
  have HB2 := Lib.hid (HB1.out.trans (hb.mono HB1.out.size))
  have HX2 := Lib.hid (HX1.out.below hb)
  have HY2 := Lib.hid (HY1.out.below hb)
  clear hb h2 HX HX1 HB1 hcp HWR
  go_wp2_with fail
  refine (right_any A l c _ HX2.out).mono ?_
  rw [HR.out]
  rintro e w3 ⟨rfl, rfl⟩
  have hXl : X.length ≤ 16 := by rcases HSZ.out with h | h <;> omega
  go_wp2_with (first | ((with_reducible refine at_dst 44 ?_); refine wpList_append_rs (k := .u8) rfl (.tmp 42) (.tmp 43) 24 rfl w.heap.size 5 i0 _ 1 Try.underlying24 hi0 hz0 hz1 hz2 rfl _ 0 [] rfl (own_empty w3 w.heap.size 5 HB2.out.size) B X cp rfl (H2.out.alloc _) (by unfold maxLen; omega) (by omega) (by have := HB2.out.size; simp; omega) ?_; intro B3 cap3 w4 hown3 hgrow3; have HB4 := Lib.hid (below_own (HB2.out.alloc HB2.out.size _) (own_empty w3 w.heap.size 5 HB2.out.size) hgrow3); have HYX4 := Lib.hid (xs_own (HB2.out.alloc HB2.out.size _) (own_empty w3 w.heap.size 5 HB2.out.size) hgrow3 HY.out); have HXX4 := Lib.hid (xs_own (HB2.out.alloc HB2.out.size _) (own_empty w3 w.heap.size 5 HB2.out.size) hgrow3 HXZ.out); have HO3 := Lib.hid hown3; clear hown3 hgrow3; rw [Nat.zero_add] at HO3 ⊢) | ((with_reducible refine at_dst 46 ?_); refine wpList_append_rs (k := .u8) rfl (.tmp 44) (.tmp 45) 24 rfl w.heap.size 5 i0 _ 1 Try.underlying24 hi0 hz0 hz1 hz2 rfl _ X.length _ rfl HO3.out A' xs c' rfl HYX4.out (by unfold maxLen; omega) (by omega) (by have := HB4.out.size; omega) ?_; intro B5 cap5 w5 hown5 hgrow5; have HB5 := Lib.hid (below_own HB4.out HO3.out hgrow5); have HY5 := Lib.hid (xs_own HB4.out HO3.out hgrow5 HY.out); have HX5 := Lib.hid (xs_own HB4.out HO3.out hgrow5 HXZ.out); have HO5 := Lib.hid hown5; clear hown5 hgrow5) | fail)
  have HR5 : Hid (Rb w5 B5 (X ++ xs)) := Lib.hid (own_bytes (by rw [List.length_append]) (by have := HO5.out; simpa using this) (by rw [List.length_append]; unfold maxLen; omega) HBY.out)
  refine (HRO.out _ _ _ HR5.out (by rw [List.length_append]; exact own_cap HO5.out)).mono ?_
  rintro e w6 ⟨B6, c6, rfl, _, h6, hb⟩
  have H6 : Hid (Ri w6 B6 l) := Lib.hid h6
  have HB6 := Lib.hid (HB5.out.trans (hb.mono HB5.out.size))
  have HX6 := Lib.hid (HX5.out.below hb)
  have HY6 := Lib.hid (HY5.out.below hb)
  clear hb h6 HO5 HR5 HRO HO3 HYX4 HXX4 HB5 HB4 HX5 HY5
  go_wp2_with fail
  refine (ints_self B6 A l c6 c _ H6.out HX6.out).mono ?_
  rintro e w7 ⟨rfl, hb⟩
  have HB7 := Lib.hid (HB6.out.trans (hb.mono HB6.out.size))
  have HY7 := Lib.hid (HY6.out.below hb)
  clear hb H6 HX6 HY6 HB6
  have hi := HI.out
  have hi2 : n.tmod ((xs.length : Int) + 1) = (i : Int) := by rw [Int.tmod_eq_emod_of_nonneg h0]; exact hi
  have hsz := HSZ.out
  obtain ⟨v8, e8⟩ : ∃ v8, ((X.length : Int) != 8) = v8 := ⟨_, rfl⟩
  have HV8 : Hid (v8 = true → ((X.length : Int) != 16) = false) := Lib.hid fun h => by
    subst h
    rw [bne_iff_ne] at e8
    rw [bne_eq_false_iff_eq]; omega
  clear hsz
  cases v8
  case' true => have e16 := HV8.out rfl
  all_goals
    clear HV8
    go_wp2_with fail
    refine (RD.out _ HY7.out).mono ?_
    rintro e w8 ⟨B8, c8, rfl, _, h8, hb⟩
    have HB8 := Lib.hid (HB7.out.trans (hb.mono HB7.out.size))
    clear hb h8
    go_wp2_with fail
    go_ret
    exact ⟨rfl, HB8.out⟩

set_option maxRecDepth 100000 in
set_option maxHeartbeats 8000000 in
theorem walk_true_yes (A : Option Addr) (l : List Int) (c : Nat) (A' : Option Addr) (xs : List Int) (c' : Nat) (n : Int) (w : World) (hx : Ri w A l) (hy : Rb w A' xs) (hc' : xs.length ≤ c') (hl : l.length ≤ 150) (hb : xs.length ≤ 100) (hr : rightL l = true) (h0 : 0 ≤ n) (h255 : n ≤ 255) (i : Nat) (hi : n % (xs.length + 1) = (i : Int)) (_hin : i ≤ xs.length)
    (L : List Int) (nx : Nat) (hrd : readR xs i = (L, (nx : Int), 0)) (hrl : rightL L = true) (hol : outL L = (xs.take nx).drop i) (hnx : i < nx) (hnl : nx ≤ xs.length) :
    Calls Try.prog 5 #[.slice A l.length c, .slice A' xs.length c', .int .u8 n] w fun e w' => e = .returned (.bool true) ∧ Below w.heap.size w w' := by
  have hm := hx.len
  have hm' := hy.len
  unfold maxLen at hm hm'
  have d0 : decide (150 < l.length) = false := decide_eq_false (by omega)
  have d1 : decide ((150 : Int) < l.length) = false := decide_eq_false (by omega)
  have d2 : decide (100 < xs.length) = false := decide_eq_false (by omega)
  have d3 : decide ((100 : Int) < xs.length) = false := decide_eq_false (by omega)
  have HX := Lib.hid hx
  have HXZ := Lib.hid hx
  have HY := Lib.hid hy
  have HR := Lib.hid hr
  have HI := Lib.hid hi
  have RD : Hid (∀ W, Rb W A' xs → Calls Try.prog 17 #[.slice A' xs.length c', .int .i64 (i : Int)] W (GivesL (L, (nx : Int), 0) W)) := Lib.hid fun W h => by
    have := read_any A' xs c' i W h hc'
    rwa [hrd] at this
  have HRL := Lib.hid hrl
  have HOL := Lib.hid hol
  have t0 : decide ((i : Int) < nx) = true := decide_eq_true (by omega)
  have t0b : decide (i < nx) = true := decide_eq_true (by omega)
  have t1 : decide ((nx : Int) ≤ xs.length) = true := decide_eq_true (by omega)
  have t1b : decide (nx ≤ xs.length) = true := decide_eq_true (by omega)
  clear hrd hrl hol
  have HWR : Hid (∀ W, Ri W A l → Calls Try.prog 10 #[.slice A l.length c] W (GivesB .i64 (outL l) 0 W)) := Lib.hid fun W h => write_ok A l c W h HR.out
  have HRO : Hid (∀ W B cap, Rb W B (outL l ++ xs) → (outL l ++ xs).length ≤ cap → Calls Try.prog 17 #[.slice B ((outL l).length + xs.length) cap, .int .i64 0] W (GivesL (l, ((outL l).length : Int), 0) W)) := Lib.hid fun W B cap h hc => by
    have := read_any B (outL l ++ xs) cap 0 W h hc
    rw [read_out HR.out, ← outL_len, List.length_append] at this
    exact this
  have HBY : Hid (∀ x ∈ outL l ++ xs, 0 ≤ x ∧ x ≤ 255) := Lib.hid fun x hm => by
    rcases List.mem_append.1 hm with h | h
    · exact outL_mem h
    · exact hy.byte x h
  have HSZ : Hid ((outL l).length = 8 ∨ (outL l).length = 16) := Lib.hid (by rw [outL_len]; unfold sizeL; split <;> omega)
  generalize outL l = X at *
  obtain ⟨i0, hi0, hz0, hz1, hz2⟩ := info_parts info5
  clear hx hy hr hi
  go_enter Try.func5, Try.ntmps5
  go_wp2_with fail
  refine (shown_ok _).mono ?_
  rintro e w1 ⟨rfl, hb⟩
  have HB1 := Lib.hid hb
  have HX1 := Lib.hid (HX.out.below hb)
  have HY1 := Lib.hid (HY.out.below hb)
  clear hb
  go_wp2_with fail
  refine (HWR.out _ HX1.out).mono ?_
  rintro e w2 ⟨B, cp, rfl, hcp, h2, hb⟩
  have H2 := Lib.hid h2
  have HB2 := Lib.hid (HB1.out.trans (hb.mono HB1.out.size))
  have HX2 := Lib.hid (HX1.out.below hb)
  have HY2 := Lib.hid (HY1.out.below hb)
  clear hb h2 HX HX1 HB1 hcp HWR
  go_wp2_with fail
  refine (right_any A l c _ HX2.out).mono ?_
  rw [HR.out]
  rintro e w3 ⟨rfl, rfl⟩
  have hXl : X.length ≤ 16 := by rcases HSZ.out with h | h <;> omega
  go_wp2_with (first | ((with_reducible refine at_dst 44 ?_); refine wpList_append_rs (k := .u8) rfl (.tmp 42) (.tmp 43) 24 rfl w.heap.size 5 i0 _ 1 Try.underlying24 hi0 hz0 hz1 hz2 rfl _ 0 [] rfl (own_empty w3 w.heap.size 5 HB2.out.size) B X cp rfl (H2.out.alloc _) (by unfold maxLen; omega) (by omega) (by have := HB2.out.size; simp; omega) ?_; intro B3 cap3 w4 hown3 hgrow3; have HB4 := Lib.hid (below_own (HB2.out.alloc HB2.out.size _) (own_empty w3 w.heap.size 5 HB2.out.size) hgrow3); have HYX4 := Lib.hid (xs_own (HB2.out.alloc HB2.out.size _) (own_empty w3 w.heap.size 5 HB2.out.size) hgrow3 HY.out); have HXX4 := Lib.hid (xs_own (HB2.out.alloc HB2.out.size _) (own_empty w3 w.heap.size 5 HB2.out.size) hgrow3 HXZ.out); have HO3 := Lib.hid hown3; clear hown3 hgrow3; rw [Nat.zero_add] at HO3 ⊢) | ((with_reducible refine at_dst 46 ?_); refine wpList_append_rs (k := .u8) rfl (.tmp 44) (.tmp 45) 24 rfl w.heap.size 5 i0 _ 1 Try.underlying24 hi0 hz0 hz1 hz2 rfl _ X.length _ rfl HO3.out A' xs c' rfl HYX4.out (by unfold maxLen; omega) (by omega) (by have := HB4.out.size; omega) ?_; intro B5 cap5 w5 hown5 hgrow5; have HB5 := Lib.hid (below_own HB4.out HO3.out hgrow5); have HY5 := Lib.hid (xs_own HB4.out HO3.out hgrow5 HY.out); have HX5 := Lib.hid (xs_own HB4.out HO3.out hgrow5 HXZ.out); have HO5 := Lib.hid hown5; clear hown5 hgrow5) | fail)
  have HR5 : Hid (Rb w5 B5 (X ++ xs)) := Lib.hid (own_bytes (by rw [List.length_append]) (by have := HO5.out; simpa using this) (by rw [List.length_append]; unfold maxLen; omega) HBY.out)
  refine (HRO.out _ _ _ HR5.out (by rw [List.length_append]; exact own_cap HO5.out)).mono ?_
  rintro e w6 ⟨B6, c6, rfl, _, h6, hb⟩
  have H6 : Hid (Ri w6 B6 l) := Lib.hid h6
  have HB6 := Lib.hid (HB5.out.trans (hb.mono HB5.out.size))
  have HX6 := Lib.hid (HX5.out.below hb)
  have HY6 := Lib.hid (HY5.out.below hb)
  clear hb h6 HO5 HR5 HRO HO3 HYX4 HXX4 HB5 HB4 HX5 HY5
  go_wp2_with fail
  refine (ints_self B6 A l c6 c _ H6.out HX6.out).mono ?_
  rintro e w7 ⟨rfl, hb⟩
  have HB7 := Lib.hid (HB6.out.trans (hb.mono HB6.out.size))
  have HY7 := Lib.hid (HY6.out.below hb)
  clear hb H6 HX6 HY6 HB6
  have hi := HI.out
  have hi2 : n.tmod ((xs.length : Int) + 1) = (i : Int) := by rw [Int.tmod_eq_emod_of_nonneg h0]; exact hi
  have hsz := HSZ.out
  obtain ⟨v8, e8⟩ : ∃ v8, ((X.length : Int) != 8) = v8 := ⟨_, rfl⟩
  have HV8 : Hid (v8 = true → ((X.length : Int) != 16) = false) := Lib.hid fun h => by
    subst h
    rw [bne_iff_ne] at e8
    rw [bne_eq_false_iff_eq]; omega
  clear hsz
  cases v8
  case' true => have e16 := HV8.out rfl
  all_goals
    clear HV8
    go_wp2_with fail
    refine (RD.out _ HY7.out).mono ?_
    rintro e w8 ⟨B8, c8, rfl, _, h8, hb⟩
    have HB8 := Lib.hid (HB7.out.trans (hb.mono HB7.out.size))
    have H8 : Hid (Ri w8 B8 L) := Lib.hid h8
    have HY8 := Lib.hid (HY7.out.below hb)
    clear hb h8
    go_wp2_with fail
    refine (write_ok B8 L c8 _ H8.out HRL.out).mono ?_
    rintro e w9 ⟨B9, c9, rfl, _, h9, hb⟩
    have H9 := Lib.hid h9
    have HB9 := Lib.hid (HB8.out.trans (hb.mono HB8.out.size))
    have HY9 := Lib.hid (HY8.out.below hb)
    have H89 := Lib.hid (H8.out.below hb)
    clear hb h9
    go_wp2_with fail
    refine (right_any B8 L c8 _ H89.out).mono ?_
    rw [HRL.out]
    rintro e w10 ⟨rfl, rfl⟩
    go_wp2_with (first | ((with_reducible refine at_dst 130 ?_); refine wpList_slice_lh_g rfl rfl rfl (l := i) (m := nx) rfl rfl HY9.out (by omega) (by omega) hc' HOL.out ?_; intro B11 d11 h11 _; have H11 := Lib.hid h11; clear h11) | fail)
    refine (rsame_self _ _ _ _ _ _ H9.out H11.out).mono ?_
    rintro e w12 ⟨rfl, rfl⟩
    go_wp2_with fail
    go_ret
    exact ⟨rfl, HB9.out⟩

theorem walk (A : Option Addr) (l : List Int) (c : Nat) (A' : Option Addr) (xs : List Int) (c' : Nat) (n : Int) (hn : (Lit.int .u8 n).wf = true) (w : World) (hx : Ri w A l) (_ : l.length ≤ c) (hy : Rb w A' xs) (hc' : xs.length ≤ c') :
    Calls Try.prog 5 #[.slice A l.length c, .slice A' xs.length c', .int .u8 n] w fun e w' => e = .returned (.bool true) ∧ Below w.heap.size w w' := by
  have hn' : 0 ≤ n ∧ n ≤ 255 := by simpa [Lit.wf, IntKind.min, IntKind.max, IntKind.signed, IntKind.bits] using hn
  by_cases hl : l.length ≤ 150
  · by_cases hb : xs.length ≤ 100
    · have h1 : 0 ≤ n % (xs.length + 1) := Int.emod_nonneg _ (by omega)
      have h2 : n % (xs.length + 1) < xs.length + 1 := Int.emod_lt_of_pos _ (by omega)
      obtain ⟨i, hi⟩ : ∃ i : Nat, n % (xs.length + 1) = (i : Int) := ⟨(n % (xs.length + 1)).toNat, by omega⟩
      have hin : i ≤ xs.length := by omega
      rcases read_cases hy.byte hin with ⟨er, her, hrd⟩ | ⟨L, s, hrd, hrl, hol, hs, hsl⟩
      · cases hr : rightL l
        · exact walk_false_no A l c A' xs c' n w hx hy hc' hl hb hr hn'.1 hn'.2 i hi hin er her hrd
        · exact walk_true_no A l c A' xs c' n w hx hy hc' hl hb hr hn'.1 hn'.2 i hi hin er her hrd
      · cases hr : rightL l
        · exact walk_false_yes A l c A' xs c' n w hx hy hc' hl hb hr hn'.1 hn'.2 i hi hin L (i + s) hrd hrl hol (by omega) hsl
        · exact walk_true_yes A l c A' xs c' n w hx hy hc' hl hb hr hn'.1 hn'.2 i hi hin L (i + s) hrd hrl hol (by omega) hsl
    · exact walk_long2 A l c A' xs c' n w hx hy hc' hl (by omega)
  · exact walk_long A l c A' xs c' n w hx hy hc' (by omega)

set_option maxRecDepth 100000 in
theorem lifted (os : Os) (started : os.Started) (H : Type) (enc : TypeId × Value → H) :
    ReturnsInHanded {} Try.checked os 5 .any (Rows.bitmapBackSpec.pre6 enc Try.prog Try.f5 Rows.bitmapBackRow.domain false) (Rows.bitmapBackSpec.post enc Try.prog Try.f5 false true false false) := by
  refine returnsInHanded_of_change (C := Try.checked) own started (by kernel_rfl) Try.func5
    (ChangeSpec.witness6 (enc := enc) (C := Try.checked) false ⟨#[], #[.slice none 0 0, .slice none 0 0, .int .u8 0], []⟩ 8 (by kernel_rfl) (by kernel_rfl) (by kernel_rfl) (by kernel_rfl)) ?_
  intro W base args ds gs before hval0 hW _ _
  have hval : ∀ (j : Nat) t v, Try.f5.params[j]? = some t → args[j]? = some v → Value.okWide Try.prog W .any base t v := hval0
  have hW' := hW
  obtain ⟨p, q, hA0, hV, rfl, _, _⟩ := hW
  have hA : DataW.TrodAll enc Try.prog W 0 (fun _ => true) true Try.f5.params.toList args.toList ds p := hA0
  rw [Try.params5] at hA hval
  obtain ⟨v0, vs0, d0, ds0, p0, q0, hargs, rfl, rfl, h0, r0x⟩ := trodAll_cons hA
  obtain ⟨v1, vs1, d1, ds1, p1, q1, rfl, rfl, rfl, h1, r1x⟩ := trodAll_cons r0x
  obtain ⟨v2, vs2, d2, ds2, p2, q2, rfl, rfl, rfl, h2, r2x⟩ := trodAll_cons r1x
  obtain ⟨rfl, rfl, rfl⟩ := trodAll_nil r2x
  obtain rfl : args = #[v0, v1, v2] := by cases args; simp_all
  obtain ⟨A0, xs0, cp0, rfl, hx0, hcp0⟩ := open_bints (hval 0 22 v0 rfl rfl) h0
  obtain ⟨A1, xs1, cp1, rfl, hx1, hcp1⟩ := open_bbytes (hval 1 24 v1 rfl rfl) h1
  obtain ⟨a2, rfl, rfl, rfl, w2⟩ := open_int Try.underlying5 (hval 2 5 v2 rfl rfl) h2
  clear hA0 hval0
  refine (walk A0 xs0 cp0 A1 xs1 cp1 a2 w2 W hx0 hcp0 hx1 hcp1).mono fun e W' ⟨he, hg⟩ => ?_
  subst he
  exact ⟨_, rfl, law_post hW' rfl rfl (fun h => by subst h; exact ⟨rfl, rfl, rfl⟩) (by rw [Try.params5]; intro t ht; simp at ht; rcases ht with rfl | rfl | rfl <;> exact ⟨by kernel_rfl, of_decide_eq_true (by kernel_rfl)⟩) hg⟩

theorem over : Rows.bitmapBackRow.holds Try.pinned (OpenSpec.ofChange Rows.bitmapBackSpec) :=
  OpenClaim.holds_of_wide 5 Try.f5 rfl rfl rfl rfl rfl rfl rfl ⟨rfl, rfl, rfl, rfl, rfl⟩ rfl rfl rfl rfl rfl (by kernel_rfl) Try.func5 (by kernel_rfl)
    (of_decide_eq_true (by kernel_rfl)) (by unfold Func.isWrapper; first | (rw [if_pos (by decide +kernel)]; kernel_rfl) | (rw [if_neg (by decide +kernel)]; exact ⟨rfl, rfl⟩))
    (fun os started H enc _ => lifted os started H enc)

theorem proved : Rows.BitmapBackSaid :=
  over
#print axioms proved
end bitmapBack
end Go.Proofs.Ytalmgpcffbccoaa
