/- Contracts: Read. -/
import Derived.Test.YtalmgpcffbccoaaH
import Derived.Maps.AppendAt
namespace Go.Proofs.Ytalmgpcffbccoaa
open Go.RowKit Go.Shelf

attribute [local go_sem] Oper.semAt_some

section
variable {F : Fence} {m : Nat} {ops : Array Oper} {rest : List Oper} {o : Oper} {a : Act} {w : World} {Q : Exit → Act → World → Prop} {A : Option Addr} {xs : List Int} {c : Nat} {x : Operand}
theorem in_dst (n : Tmp) {op : Op} {tp : TypeId} {ps : String} {af : Array Edge} {gd : Option (Nat × Bool)} (h : wpListIn F m Try.prog ops Q (⟨some n, op, tp, ps, af, gd⟩ :: rest) a w) : wpListIn F m Try.prog ops Q (⟨some n, op, tp, ps, af, gd⟩ :: rest) a w := h
theorem wpListIn_slice_l (hgd : o.guard = none) {lo : Operand} (ho : o.op = .slice 24 x (some lo) none none) (hx : a.eval x = .slice A xs.length c) {l : Nat} (hlo : a.eval lo = .int .i64 l) (hr : Rb w A xs) (hl : l ≤ xs.length) (hc : xs.length ≤ c) {zs : List Int} (hz : zs = xs.drop l)
    (h : ∀ B d, Rb w B zs → zs.length ≤ d → wpListIn F m Try.prog ops Q rest (a.put o.dst (.slice B zs.length d)) w) : wpListIn F m Try.prog ops Q (o :: rest) a w := by
  refine wpListIn_plain hgd fun K hK => ?_
  subst hz
  have hcut := hr.cut (l := l) (h := xs.length) hl (Nat.le_refl _) hc
  rw [List.take_length] at hcut
  have hlen : (xs.drop l).length = xs.length - l := List.length_drop
  have hrun := run_cut_l w A xs.length c l hl
  rw [← hlen] at hrun
  unfold Oper.wpIn
  refine ⟨by simp [Oper.about, ho], ?_⟩
  rw [Oper.semAt_plain F _ _ (by rw [ho]; intro c hc'; cases hc')]
  simp only [execOp, ho, hx, hlo, Option.map_some, Option.map_none, Sem.run_bind, hrun, Result.andThen_ok, Sem.run_pure]
  exact hK _ _ (h _ _ hcut (by omega))
theorem wpListIn_slice_h (hgd : o.guard = none) {hi : Operand} (ho : o.op = .slice 24 x none (some hi) none) (hx : a.eval x = .slice A xs.length c) {l : Nat} (hhi : a.eval hi = .int .i64 l) (hr : Rb w A xs) (hl : l ≤ xs.length) (hc : xs.length ≤ c) {zs : List Int} (hz : zs = xs.take l)
    (h : ∀ B, Rb w B zs → zs.length ≤ c → wpListIn F m Try.prog ops Q rest (a.put o.dst (.slice B zs.length c)) w) : wpListIn F m Try.prog ops Q (o :: rest) a w := by
  refine wpListIn_plain hgd fun K hK => ?_
  subst hz
  have hcut := hr.cut (l := 0) (h := l) (by omega) hl hc
  rw [List.drop_zero] at hcut
  have hlen : (xs.take l).length = l := by rw [List.length_take]; omega
  have hrun := run_cut_h w A xs.length c l (by omega)
  unfold Oper.wpIn
  refine ⟨by simp [Oper.about, ho], ?_⟩
  rw [Oper.semAt_plain F _ _ (by rw [ho]; intro c hc'; cases hc')]
  simp only [execOp, ho, hx, hhi, Option.map_some, Option.map_none, Sem.run_bind, hrun, Result.andThen_ok, Sem.run_pure]
  rw [hlen] at h
  exact hK _ _ (h _ hcut (by omega))
end

set_option maxRecDepth 100000 in
set_option maxHeartbeats 2000000 in
theorem set_any (A : Option Addr) (n c : Nat) (w : World) : Calls Try.prog 21 #[.slice A n c] w fun e w' => e = .returned (.func (.func 24) #[] #[.pointer (some ⟨w.heap.size, 0, none⟩)]) ∧ w' = w.alloc (.cells #[.slice A n c] 24) := by
  go_enter Try.func21, Try.ntmps21
  go_wp2_with fail
  go_ret
  exact ⟨rfl, rfl⟩

set_option maxRecDepth 100000 in
set_option maxHeartbeats 4000000 in
theorem read_bad (A : Option Addr) (xs : List Int) (c : Nat) (a : Int) (w : World) (hx : Rb w A xs) (h : a < 0 ∨ (xs.length : Int) < a) :
    Calls Try.prog 17 #[.slice A xs.length c, .int .i64 a] w (GivesL ([], 0, 1) w) := by
  have hm := hx.len
  unfold maxLen at hm
  clear hx
  have HB : Hid (Below w.heap.size w (((w.alloc (.cells #[.slice none 0 0] 22)).alloc (.cells #[.int .i64 0] 3)).alloc (.cells #[.int .i64 1] 25))) := Lib.hid ((((Below.refl _ _).alloc (Nat.le_refl _) _).alloc (by simp) _).alloc (by simp; omega) _)
  refine (callsIn_wide (n := 3)).1 ?_
  by_cases h0 : a < 0
  · have d0 : decide (a < 0) = true := decide_eq_true h0
    clear h h0
    refine callsIn_of_wp_marks Try.func17 rfl trivial ?_ rfl
    simp only [Try.ntmps17, List.size_toArray, List.length_cons, List.length_nil, Nat.reduceAdd, Nat.reduceSub, Array.replicate_succ, Array.replicate_zero, List.push_toArray, List.append_toArray, List.nil_append, List.cons_append]
    gi_wp2
    exact ⟨.tuple #[.slice none 0 0, .int .i64 0, .int .i64 1], by simp [results, Try.f17, go_sem], gives_no 1 rfl HB.out⟩
  · have d0 : decide (a < 0) = false := decide_eq_false h0
    have d1 : decide ((xs.length : Int) < a) = true := decide_eq_true (by omega)
    clear h h0
    refine callsIn_of_wp_marks Try.func17 rfl trivial ?_ rfl
    simp only [Try.ntmps17, List.size_toArray, List.length_cons, List.length_nil, Nat.reduceAdd, Nat.reduceSub, Array.replicate_succ, Array.replicate_zero, List.push_toArray, List.append_toArray, List.nil_append, List.cons_append]
    gi_wp2
    exact ⟨.tuple #[.slice none 0 0, .int .i64 0, .int .i64 1], by simp [results, Try.f17, go_sem], gives_no 1 rfl HB.out⟩

theorem bit_one {x : Int} (h0 : 0 ≤ x) (h1 : x ≤ 255) : (bits .and .u8 x 128 != 0) = x.toNat.testBit 7 := and_test (k := 7) h0 h1 (by omega)

/-! @@MAIN -/
theorem set_stops (m M Bn n₀ : Nat) (hm : 1 ≤ m) (A : Option Addr) (ys : List Int) (hM : ys.length = M) (c : Nat) (hM16 : M ≤ 16) (w : World) (hBlt : Bn < w.heap.size) (hn₀ : n₀ ≤ w.heap.size) (hBn : w.cell? ⟨Bn, 0, none⟩ = some (.slice A M c))
    (hr : Rb w A ys) (hb : ∀ b off, A = some ⟨b, off, none⟩ → b < n₀) :
    SeqStopsK Fence.wide m Try.prog 24 #[.pointer (some ⟨Bn, 0, none⟩)] (fun x : Int => #[Value.int .i64 x]) (Kps n₀ Bn) (fun xs => xs = bitsTo ys (8 * M)) (fun pre => ∃ k, k ≤ 8 * M ∧ pre = bitsTo ys k) (8 * M) w := by
  subst hM
  intro l J Jx W hW hJ hJx hY h0
  refine set1_in m hm l Bn n₀ A ys c hM16 hr.byte J Jx W hJ hY (Nat.le_trans hn₀ hW.size) ((hW.cell (p := ⟨Bn, 0, none⟩) hBlt).trans hBn) (fun h => ?_) h0
  obtain ⟨b, off, rfl, hbl, hc⟩ := hr.cells h
  exact ⟨b, off, rfl, hb b off rfl, fun j hj => (hW.cell (p := ⟨b, off + j, none⟩) hbl).trans (hc j hj)⟩

/-- A range over what set hands back. -/
theorem wp_range {a : Act} {w : World} {assign body : Code} {Q : Exit → Act → World → Prop} {g : Operand} {gf : Nat} {lb : Array Value} (hg : a.eval g = .func (.func gf) #[] lb) (eg : ∀ args w, (callFunc gf args).run Try.prog w = .ok (.enter gf args) w)
    {Kp : World → World → Prop} {S Sp : List Int → Prop} {N : Nat} (hseq : SeqStopsK Fence.wide 2 Try.prog gf lb (fun x : Int => #[Value.int .i64 x]) Kp S Sp N w)
    (hKt : ∀ {A B C : World}, Kp A B → Kp B C → Kp A C) (hKb : ∀ (W : World) (l : Nat) (o o' : Obj), w.heap.size ≤ l → W.heap[l]? = some o → o.isCells = false → o.isWalk = false → Kp W (W.putObj l o'))
    (I : List Int → World → Prop) (Ix : Code → List Int → World → Prop) (hI : OwnFrom w.heap.size I) (hIx : ∀ c, OwnFrom w.heap.size (Ix c)) (h0 : I [] w)
    (hassign : ∀ (l : Nat) (x : Int) (W : World) (K : Act → World → Prop), K { tmps := (a.tmps.setIfInBounds 40 (.int .i64 x)).setIfInBounds 9 (.int .i64 x), defers := [] } W →
      assign.wpIn (Fence.wide.inRound l) 1 Try.prog (Exit.then K (fun _ _ _ => False)) { tmps := a.tmps.setIfInBounds 40 (.int .i64 x), defers := [] } W)
    (hbody : ∀ (l : Nat) (pre : List Int) (x : Int) (W : World), I pre W → pre.length < N → body.wpIn (Fence.wide.inRound l) 1 Try.prog (ownPostG w.heap.size Kp I Ix (pre ++ [x]) W) { tmps := (a.tmps.setIfInBounds 40 (.int .i64 x)).setIfInBounds 9 (.int .i64 x), defers := [] } W)
    (hdone : ∀ (D : Nat) (xs : List Int) (W : World), w.heap.size ≤ D → S xs → I xs W → W.heap[D]? = some (.deferred (some [])) → Q .normal { a with defers := { target := .collected D, args := #[] } :: a.defers } W)
    (hstop : ∀ (D : Nat) (c : Code) (pre : List Int) (W : World), w.heap.size ≤ D → Sp pre → Ix c pre W → W.heap[D]? = some (.deferred (some [])) → c.wpIn Fence.wide 3 Try.prog Q { a with defers := { target := .collected D, args := #[] } :: a.defers } W) :
    (Code.rangeFunc g #[40] assign body).wpIn Fence.wide 3 Try.prog Q a w :=
  wpIn_rangeFunc_ownG rfl (by omega) hg trivial eg hseq hKt hKb (Below.refl _ _) (fun _ => rfl) I Ix hI hIx h0 (fun x => { tmps := (a.tmps.setIfInBounds 40 (.int .i64 x)).setIfInBounds 9 (.int .i64 x), defers := [] }) (fun l x W K hK => by have h := hassign l x W K hK; simpa using h) hbody hdone hstop

def sel (pre : List Int) : List Int := pre.filter fun x => decide (1 < x)
theorem sel_hit (pre : List Int) {x : Int} (h : 1 < x) : sel (pre ++ [x]) = sel pre ++ [x] := by unfold sel; rw [List.filter_append]; simp [h]
theorem sel_miss (pre : List Int) {x : Int} (h : ¬ 1 < x) : sel (pre ++ [x]) = sel pre := by unfold sel; rw [List.filter_append]; simp [h]
theorem sel_len (pre : List Int) : (sel pre).length ≤ pre.length := List.length_filter_le _ _

/-- Between two rounds. -/
structure Ist (w : World) (sv : Value) (pre : List Int) (W : World) : Prop where
  row : ∃ v, Boxed W (w.heap.size + 1 + 1 + 1 + 1) 22 v ∧ W.ownsRow (w.heap.size + 1 + 1 + 1) 3 1 v (sel pre).length ((sel pre).map (Value.int .i64)) ∧ True
  b4 : Boxed W w.heap.size 22 (.slice none 0 0)
  b5 : Boxed W (w.heap.size + 1) 3 (.int .i64 0)
  b6 : Boxed W (w.heap.size + 1 + 1) 25 (.int .i64 0)
  bs : Boxed W (w.heap.size + 1 + 1 + 1 + 1 + 1) 24 sv
  no : (65 : Int) ∉ pre
  below : Below w.heap.size w W
/-- A round has left. -/
structure Ixs (w : World) (c : Code) (pre : List Int) (W : World) : Prop where
  ret : c = .ret
  yes : (65 : Int) ∈ pre
  b4 : Boxed W w.heap.size 22 (.slice none 0 0)
  b5 : Boxed W (w.heap.size + 1) 3 (.int .i64 0)
  b6 : Boxed W (w.heap.size + 1 + 1) 25 (.int .i64 2)
  below : Below w.heap.size w W
theorem ist_own (w : World) (sv : Value) {B : Nat} (hB : w.heap.size ≤ B) : OwnFrom B (Ist w sv) := fun s X Y row hs hg hr =>
  ⟨holdsRow_own (w.heap.size + 1 + 1 + 1) (w.heap.size + 1 + 1 + 1 + 1) 22 3 1 (fun pre => (sel pre).length) (fun pre => (sel pre).map (Value.int .i64)) (fun _ _ => True) s X Y row hs.row hg (fun r e => (hr r e).2),
    boxed_own _ _ (fun _ => _) s X Y row hs.b4 hg (fun r e => (hr r e).2), boxed_own _ _ (fun _ => _) s X Y row hs.b5 hg (fun r e => (hr r e).2), boxed_own _ _ (fun _ => _) s X Y row hs.b6 hg (fun r e => (hr r e).2),
    boxed_own _ _ (fun _ => sv) s X Y row hs.bs hg (fun r e => (hr r e).2), hs.no, ownFrom_below (Nat.le_refl _) hB s X Y row hs.below hg hr⟩
theorem ixs_own (w : World) (c : Code) {B : Nat} (hB : w.heap.size ≤ B) : OwnFrom B (Ixs w c) := fun s X Y row hs hg hr =>
  ⟨hs.ret, hs.yes, boxed_own _ _ (fun _ => _) s X Y row hs.b4 hg (fun r e => (hr r e).2), boxed_own _ _ (fun _ => _) s X Y row hs.b5 hg (fun r e => (hr r e).2), boxed_own _ _ (fun _ => _) s X Y row hs.b6 hg (fun r e => (hr r e).2),
    ownFrom_below (Nat.le_refl _) hB s X Y row hs.below hg hr⟩
theorem kps_t {n₀ Bn : Nat} {A B C : World} (h : Kps n₀ Bn A B) (k : Kps n₀ Bn B C) : Kps n₀ Bn A C := ⟨h.1.trans k.1, k.2.trans h.2⟩
theorem kps_b {n₀ Bn : Nat} {w : World} (hn : n₀ ≤ w.heap.size) (hB : Bn < w.heap.size) (W : World) (l : Nat) (o o' : Obj) (hl : w.heap.size ≤ l) (h : W.heap[l]? = some o) (h1 : o.isCells = false) (h2 : o.isWalk = false) : Kps n₀ Bn W (W.putObj l o') :=
  ⟨belowK_b hn W l o o' hl h h1 h2, by
    have := belowK_b (n₀ := w.heap.size) (Nat.le_refl _) W l o o' hl h h1 h2
    exact this.cell (p := ⟨Bn, 0, none⟩) hB⟩

def readM (W : Bool) (zs : List Int) (M : Nat) (a : Int) : List Int × Int × Int := resR (W && (testB zs 65 || badL (fieldsTo zs (8 * M)))) (fieldsTo zs (8 * M)) (a + M)
theorem testB_take {zs : List Int} {M n : Nat} (h : (n - 1) / 8 < M) : testB (zs.take M) n = testB zs n := by
  unfold testB
  rw [List.getD_eq_getElem?_getD, List.getD_eq_getElem?_getD, List.getElem?_take, if_pos h]
theorem bitsTo_take {zs : List Int} {M : Nat} : ∀ m, m ≤ 8 * M → bitsTo (zs.take M) m = bitsTo zs m
  | 0, _ => rfl
  | m + 1, h => by
    show bitsTo (zs.take M) m ++ _ = bitsTo zs m ++ _
    rw [bitsTo_take m (by omega), testB_take (by simp <;> omega)]
theorem sel_bits (zs : List Int) : ∀ m, sel (bitsTo zs m) = fieldsTo zs m
  | 0 => rfl
  | m + 1 => by
    cases h : testB zs (m + 1)
    · rw [bitsTo_no h, fieldsTo_no h, sel_bits zs m]
    · rw [bitsTo_yes h]
      by_cases hm : 1 ≤ m
      · rw [fieldsTo_yes hm h, sel_hit _ (by omega), sel_bits zs m]; rfl
      · rw [sel_miss _ (by omega), sel_bits zs m]
        show _ = fieldsTo zs m ++ _
        rw [if_neg (by simp <;> omega), List.append_nil]
theorem bits_65 (zs : List Int) : ∀ m, (65 : Int) ∈ bitsTo zs m ↔ (65 ≤ m ∧ testB zs 65 = true)
  | 0 => by simp [bitsTo]
  | m + 1 => by
    have ih := bits_65 zs m
    cases h : testB zs (m + 1)
    · rw [bitsTo_no h, ih]
      constructor
      · rintro ⟨h1, h2⟩; exact ⟨by omega, h2⟩
      · rintro ⟨h1, h2⟩
        refine ⟨?_, h2⟩
        by_cases e : m = 64
        · subst e; rw [h] at h2; cases h2
        · omega
    · rw [bitsTo_yes h, List.mem_append, ih]
      constructor
      · rintro (⟨h1, h2⟩ | h1)
        · exact ⟨by omega, h2⟩
        · simp at h1
          obtain rfl : m = 64 := by omega
          exact ⟨by omega, h⟩
      · rintro ⟨h1, h2⟩
        by_cases e : m = 64
        · subst e; exact .inr (by simp)
        · exact .inl ⟨by omega, h2⟩

theorem putObj_keep {W : World} {D : Nat} (o' : Obj) {B : Nat} {t : TypeId} {v : Value} (b : Boxed W B t v) (h : B < D) : Boxed (W.putObj D o') B t v :=
  b.kept (grownBy_putObj' W D o') (fun e => by cases e; omega)
theorem putObj_below {W : World} {n₀ D : Nat} (o' : Obj) (hD : n₀ ≤ D) {o : Obj} (hK : W.heap[D]? = some o) : Below n₀ W (W.putObj D o') :=
  (Below.refl n₀ W).grown (grownBy_putObj' W D o') (by have := (Array.getElem?_eq_some_iff.1 hK).1; omega) (fun k e => by cases e; exact hD)
theorem res17 {W : World} {tmps : Array Value} {g4 g5 g6 : Nat} {v4 : Value} {x e : Int} {B : Option Addr} {n c : Nat} (hv : v4 = .slice B n c) (h4 : tmps.getD 4 undef = .pointer (some ⟨g4, 0, none⟩)) (h5 : tmps.getD 5 undef = .pointer (some ⟨g5, 0, none⟩)) (h6 : tmps.getD 6 undef = .pointer (some ⟨g6, 0, none⟩))
    (b4 : Boxed W g4 22 v4) (b5 : Boxed W g5 3 (.int .i64 x)) (b6 : Boxed W g6 25 (.int .i64 e)) : (results Try.f17 tmps).run Try.prog W = .ok (.tuple #[v4, .int .i64 x, .int .i64 e]) W := by
  subst hv
  have k4 := b4.cell
  have k5 := b5.cell
  have k6 := b6.cell
  have h4' : tmps[4]?.getD undef = .pointer (some ⟨g4, 0, none⟩) := by simpa using h4
  have h5' : tmps[5]?.getD undef = .pointer (some ⟨g5, 0, none⟩) := by simpa using h5
  have h6' : tmps[6]?.getD undef = .pointer (some ⟨g6, 0, none⟩) := by simpa using h6
  simp [results, Try.f17, go_sem, h4', h5', h6', k4, k5, k6]
theorem leave_no {w W : World} {tmps : Array Value} {D : Nat} {r : List Int × Int × Int} {er : Int} (hr : r = ([], 0, er)) (h4 : tmps.getD 4 undef = .pointer (some ⟨w.heap.size, 0, none⟩)) (h5 : tmps.getD 5 undef = .pointer (some ⟨w.heap.size + 1, 0, none⟩)) (h6 : tmps.getD 6 undef = .pointer (some ⟨w.heap.size + 1 + 1, 0, none⟩))
    (b4 : Boxed W w.heap.size 22 (.slice none 0 0)) (b5 : Boxed W (w.heap.size + 1) 3 (.int .i64 0)) (b6 : Boxed W (w.heap.size + 1 + 1) 25 (.int .i64 er)) (hK : W.heap[D]? = some (.deferred (some []))) (hD : w.heap.size + 1 + 1 + 1 ≤ D) (hB : Below w.heap.size w W) :
    bodyPostM Fence.wide 3 Try.prog Try.f17 (GivesL r w) .ret { tmps := tmps, defers := [{ target := .collected D, args := #[] }] } W := by
  subst hr
  refine ⟨by simp, .inl ⟨_, _, rfl, run_takeDeferred hK, ?_⟩⟩
  exact ⟨_, res17 rfl h4 h5 h6 (putObj_keep _ b4 (by omega)) (putObj_keep _ b5 (by omega)) (putObj_keep _ b6 (by omega)), gives_no er rfl (hB.trans (putObj_below _ (by omega) hK))⟩
theorem leave_ok {w W : World} {tmps : Array Value} {D : Nat} {r : List Int × Int × Int} {A2 : Option Addr} {c2 : Nat} {L : List Int} {x : Int} (hr : r = (L, x, 0)) (h4 : tmps.getD 4 undef = .pointer (some ⟨w.heap.size, 0, none⟩)) (h5 : tmps.getD 5 undef = .pointer (some ⟨w.heap.size + 1, 0, none⟩)) (h6 : tmps.getD 6 undef = .pointer (some ⟨w.heap.size + 1 + 1, 0, none⟩))
    (b4 : Boxed W w.heap.size 22 (.slice none 0 0)) (b5 : Boxed W (w.heap.size + 1) 3 (.int .i64 0)) (b6 : Boxed W (w.heap.size + 1 + 1) 25 (.int .i64 0)) (hK : W.heap[D]? = some (.deferred (some []))) (hD : w.heap.size + 1 + 1 + 1 ≤ D) (hB : Below w.heap.size w W)
    (hrow : W.ownsRow (w.heap.size + 1 + 1 + 1) 3 1 (.slice A2 L.length c2) L.length (L.map (Value.int .i64))) (hL : Ri W A2 L) :
    bodyPostM Fence.wide 3 Try.prog Try.f17 (GivesL r w) .ret { tmps := tmps, defers := [{ target := .collected D, args := #[] }] }
      (((W.setCell ⟨w.heap.size, 0, none⟩ (.slice A2 L.length c2)).setCell ⟨w.heap.size + 1, 0, none⟩ (.int .i64 x)).setCell ⟨w.heap.size + 1 + 1, 0, none⟩ (.int .i64 0)) := by
  subst hr
  have hK3 := (((KeepsOthers.setCell W ⟨w.heap.size, 0, none⟩ (.slice A2 L.length c2)).trans (KeepsOthers.setCell _ ⟨w.heap.size + 1, 0, none⟩ (.int .i64 x))).trans (KeepsOthers.setCell _ ⟨w.heap.size + 1 + 1, 0, none⟩ (.int .i64 0))).same D _ hK rfl
  have hg3 : ∀ k, w.heap.size + 1 + 1 + 1 ≤ k → (((W.setCell ⟨w.heap.size, 0, none⟩ (.slice A2 L.length c2)).setCell ⟨w.heap.size + 1, 0, none⟩ (.int .i64 x)).setCell ⟨w.heap.size + 1 + 1, 0, none⟩ (.int .i64 0)).heap[k]? = W.heap[k]? := fun k hk => by
    rw [Below.heap_setCell _ _ _ k (by dsimp only; omega), Below.heap_setCell _ _ _ k (by dsimp only; omega), Below.heap_setCell _ _ _ k (by dsimp only; omega)]
  refine ⟨by simp, .inl ⟨_, _, rfl, run_takeDeferred hK3, ?_⟩⟩
  refine ⟨_, res17 rfl h4 h5 h6 (putObj_keep _ (((b4.set _).other (by omega) _).other (by omega) _) (by omega)) (putObj_keep _ (((b5.other (by omega) _).set _).other (by omega) _) (by omega)) (putObj_keep _ (((b6.other (by omega) _).other (by omega) _).set _) (by omega)), A2, c2, rfl, own_cap hrow, ?_,
    (((hB.setCell (p := ⟨w.heap.size, 0, none⟩) (Nat.le_refl _) _).setCell (p := ⟨w.heap.size + 1, 0, none⟩) (by simp) _).setCell (p := ⟨w.heap.size + 1 + 1, 0, none⟩) (by simp <;> omega) _).trans (putObj_below _ (by omega) hK3)⟩
  refine ⟨hL.len, hL.wf, fun h0 => ?_⟩
  obtain ⟨b, off, rfl, hb, hc⟩ := hL.cells h0
  have hbb : w.heap.size + 1 + 1 + 1 ≤ b ∧ ∃ cur, W.heap[b]? = some (.cells cur 3 (0, 0)) := by
    rcases hrow.2 with ⟨h, _⟩ | ⟨g, cap, cur, h, hg, hh, _⟩
    · cases h
    · cases h; exact ⟨hg, cur, hh⟩
  obtain ⟨cur, hcur⟩ := hbb.2
  have hbD : b ≠ D := fun e => by subst e; rw [hK] at hcur; cases hcur
  refine ⟨b, off, rfl, ?_, fun j hj => ?_⟩
  · refine Nat.lt_of_lt_of_le ?_ (grownBy_putObj' _ D (.deferred none)).size
    simpa using hb
  · refine (World.cell?_of_block ?_).trans (hc j hj)
    refine Eq.trans ?_ (hg3 b hbb.1)
    exact (grownBy_putObj' _ D (.deferred none)).block b (by simp; omega) (fun e => hbD (by cases e; rfl))

set_option maxRecDepth 100000 in
set_option maxHeartbeats 8000000 in
theorem read_empty (A : Option Addr) (xs : List Int) (c a : Nat) (w : World) (hx : Rb w A xs) (hc : xs.length ≤ c) (ha : a ≤ xs.length) (zs : List Int) (hzs : zs = xs.drop a) (h8 : zs.length = 0) :
    Calls Try.prog 17 #[.slice A xs.length c, .int .i64 (a : Nat)] w (GivesL ([], 0, 3) w) := by
  have hm := hx.len
  unfold maxLen at hm
  have HX := Lib.hid (((hx.alloc (.cells #[.slice none 0 0] 22)).alloc (.cells #[.int .i64 0] 3)).alloc (.cells #[.int .i64 0] 25))
  have HZS := Lib.hid hzs
  have d0 : decide ((a : Int) < 0) = false := decide_eq_false (by omega)
  have d1 : decide (xs.length < a) = false := decide_eq_false (by omega)
  have HBE : Hid (Below w.heap.size w (((w.alloc (.cells #[.slice none 0 0] 22)).alloc (.cells #[.int .i64 0] 3)).alloc (.cells #[.int .i64 3] 25))) := Lib.hid ((((Below.refl _ _).alloc (Nat.le_refl _) _).alloc (by simp) _).alloc (by simp <;> omega) _)
  have d2 : decide (0 < zs.length) = false := decide_eq_false (by omega)
  have d4 : decide (zs.length < 8) = true := decide_eq_true (by omega)
  have d5 : decide ((zs.length : Int) < 8) = true := decide_eq_true (by omega)
  clear hx hzs h8
  refine (callsIn_wide (n := 3)).1 ?_
  refine callsIn_of_wp_marks Try.func17 rfl trivial ?_ rfl
  simp only [Try.ntmps17, List.size_toArray, List.length_cons, List.length_nil, Nat.reduceAdd, Nat.reduceSub, Array.replicate_succ, Array.replicate_zero, List.push_toArray, List.append_toArray, List.nil_append, List.cons_append]
  gi_wp2_with (first | ((with_reducible refine in_dst 20 ?_); refine wpListIn_slice_l rfl rfl rfl (l := a) rfl HX.out (by omega) hc HZS.out ?_; intro B d hB hd; have HZ := Lib.hid hB; clear hB) | fail)
  exact ⟨.tuple #[.slice none 0 0, .int .i64 0, .int .i64 3], by simp [results, Try.f17, go_sem], gives_no 3 rfl HBE.out⟩

set_option maxRecDepth 100000 in
set_option maxHeartbeats 8000000 in
theorem read_short_false (A : Option Addr) (xs : List Int) (c a : Nat) (w : World) (hx : Rb w A xs) (hc : xs.length ≤ c) (ha : a ≤ xs.length) (zs : List Int) (hzs : zs = xs.drop a) (h0 : 0 < zs.length) (h8 : zs.length < 8) (ht : testB zs 1 = false) :
    Calls Try.prog 17 #[.slice A xs.length c, .int .i64 (a : Nat)] w (GivesL ([], 0, 3) w) := by
  have hm := hx.len
  unfold maxLen at hm
  have HX := Lib.hid (((hx.alloc (.cells #[.slice none 0 0] 22)).alloc (.cells #[.int .i64 0] 3)).alloc (.cells #[.int .i64 0] 25))
  have HZS := Lib.hid hzs
  have d0 : decide ((a : Int) < 0) = false := decide_eq_false (by omega)
  have d1 : decide (xs.length < a) = false := decide_eq_false (by omega)
  have HBE : Hid (Below w.heap.size w (((w.alloc (.cells #[.slice none 0 0] 22)).alloc (.cells #[.int .i64 0] 3)).alloc (.cells #[.int .i64 3] 25))) := Lib.hid ((((Below.refl _ _).alloc (Nat.le_refl _) _).alloc (by simp) _).alloc (by simp <;> omega) _)
  have HT := Lib.hid ht
  have d2 : decide (0 < zs.length) = true := decide_eq_true (by omega)
  have d4 : decide (zs.length < 8) = true := decide_eq_true (by omega)
  have d5 : decide ((zs.length : Int) < 8) = true := decide_eq_true (by omega)
  clear hx hzs ht
  refine (callsIn_wide (n := 3)).1 ?_
  refine callsIn_of_wp_marks Try.func17 rfl trivial ?_ rfl
  simp only [Try.ntmps17, List.size_toArray, List.length_cons, List.length_nil, Nat.reduceAdd, Nat.reduceSub, Array.replicate_succ, Array.replicate_zero, List.push_toArray, List.append_toArray, List.nil_append, List.cons_append]
  gi_wp2_with (first | ((with_reducible refine in_dst 20 ?_); refine wpListIn_slice_l rfl rfl rfl (l := a) rfl HX.out (by omega) hc HZS.out ?_; intro B d hB hd; obtain ⟨b, off, rfl, hb, hcell⟩ := hB.cells (by omega); have hc0 := hcell 0 (by omega); rw [Nat.add_zero] at hc0; have hbd := hB.byte _ (getD_mem (show 0 < zs.length by omega)); have hT : (bits .and .u8 (zs.getD 0 0) 128 != 0) = false := (bit_one hbd.1 hbd.2).trans HT.out; generalize zs.getD 0 0 = x0 at hc0 hT; have HZ := Lib.hid hB; clear hB hcell hbd) | fail)
  exact ⟨.tuple #[.slice none 0 0, .int .i64 0, .int .i64 3], by simp [results, Try.f17, go_sem], gives_no 3 rfl HBE.out⟩

set_option maxRecDepth 100000 in
set_option maxHeartbeats 8000000 in
theorem read_short_true (A : Option Addr) (xs : List Int) (c a : Nat) (w : World) (hx : Rb w A xs) (hc : xs.length ≤ c) (ha : a ≤ xs.length) (zs : List Int) (hzs : zs = xs.drop a) (h0 : 0 < zs.length) (h8 : zs.length < 16) (ht : testB zs 1 = true) :
    Calls Try.prog 17 #[.slice A xs.length c, .int .i64 (a : Nat)] w (GivesL ([], 0, 3) w) := by
  have hm := hx.len
  unfold maxLen at hm
  have HX := Lib.hid (((hx.alloc (.cells #[.slice none 0 0] 22)).alloc (.cells #[.int .i64 0] 3)).alloc (.cells #[.int .i64 0] 25))
  have HZS := Lib.hid hzs
  have d0 : decide ((a : Int) < 0) = false := decide_eq_false (by omega)
  have d1 : decide (xs.length < a) = false := decide_eq_false (by omega)
  have HBE : Hid (Below w.heap.size w (((w.alloc (.cells #[.slice none 0 0] 22)).alloc (.cells #[.int .i64 0] 3)).alloc (.cells #[.int .i64 3] 25))) := Lib.hid ((((Below.refl _ _).alloc (Nat.le_refl _) _).alloc (by simp) _).alloc (by simp <;> omega) _)
  have HT := Lib.hid ht
  have d2 : decide (0 < zs.length) = true := decide_eq_true (by omega)
  have d4 : decide (zs.length < 16) = true := decide_eq_true (by omega)
  have d5 : decide ((zs.length : Int) < 16) = true := decide_eq_true (by omega)
  clear hx hzs ht
  refine (callsIn_wide (n := 3)).1 ?_
  refine callsIn_of_wp_marks Try.func17 rfl trivial ?_ rfl
  simp only [Try.ntmps17, List.size_toArray, List.length_cons, List.length_nil, Nat.reduceAdd, Nat.reduceSub, Array.replicate_succ, Array.replicate_zero, List.push_toArray, List.append_toArray, List.nil_append, List.cons_append]
  gi_wp2_with (first | ((with_reducible refine in_dst 20 ?_); refine wpListIn_slice_l rfl rfl rfl (l := a) rfl HX.out (by omega) hc HZS.out ?_; intro B d hB hd; obtain ⟨b, off, rfl, hb, hcell⟩ := hB.cells (by omega); have hc0 := hcell 0 (by omega); rw [Nat.add_zero] at hc0; have hbd := hB.byte _ (getD_mem (show 0 < zs.length by omega)); have hT : (bits .and .u8 (zs.getD 0 0) 128 != 0) = true := (bit_one hbd.1 hbd.2).trans HT.out; generalize zs.getD 0 0 = x0 at hc0 hT; have HZ := Lib.hid hB; clear hB hcell hbd) | fail)
  exact ⟨.tuple #[.slice none 0 0, .int .i64 0, .int .i64 3], by simp [results, Try.f17, go_sem], gives_no 3 rfl HBE.out⟩

set_option maxRecDepth 100000 in
set_option maxHeartbeats 16000000 in
theorem read_main_false (A : Option Addr) (xs : List Int) (c a : Nat) (w : World) (hx : Rb w A xs) (hc : xs.length ≤ c) (ha : a ≤ xs.length) (zs : List Int) (hzs : zs = xs.drop a) (h8 : 8 ≤ zs.length) (ht : testB zs 1 = false) :
    Calls Try.prog 17 #[.slice A xs.length c, .int .i64 (a : Nat)] w (GivesL (readM false zs 8 a) w) := by
  have hm := hx.len
  unfold maxLen at hm
  have HX := Lib.hid (((hx.alloc (.cells #[.slice none 0 0] 22)).alloc (.cells #[.int .i64 0] 3)).alloc (.cells #[.int .i64 0] 25))
  have HZS := Lib.hid hzs
  have d0 : decide ((a : Int) < 0) = false := decide_eq_false (by omega)
  have d1 : decide (xs.length < a) = false := decide_eq_false (by omega)
  have HBE : Hid (Below w.heap.size w (((w.alloc (.cells #[.slice none 0 0] 22)).alloc (.cells #[.int .i64 0] 3)).alloc (.cells #[.int .i64 3] 25))) := Lib.hid ((((Below.refl _ _).alloc (Nat.le_refl _) _).alloc (by simp) _).alloc (by simp <;> omega) _)
  have HT := Lib.hid ht
  have d2 : decide (0 < zs.length) = true := decide_eq_true (by omega)
  have d4 : decide (zs.length < 8) = false := decide_eq_false (by omega)
  have d5 : decide ((zs.length : Int) < 8) = false := decide_eq_false (by omega)
  have hzl : zs.length = xs.length - a := by rw [hzs]; exact List.length_drop
  have HOV : Hid (a + 8 ≤ xs.length) := Lib.hid (by omega)
  obtain ⟨i0, hi0, hz0, hz1, hz2⟩ := info_parts info3
  clear hx hzs ht hzl HBE
  refine (callsIn_wide (n := 3)).1 ?_
  refine callsIn_of_wp_marks Try.func17 rfl trivial ?_ rfl
  simp only [Try.ntmps17, List.size_toArray, List.length_cons, List.length_nil, Nat.reduceAdd, Nat.reduceSub, Array.replicate_succ, Array.replicate_zero, List.push_toArray, List.append_toArray, List.nil_append, List.cons_append]
  gi_wp2_with (first | ((with_reducible refine in_dst 20 ?_); refine wpListIn_slice_l rfl rfl rfl (l := a) rfl HX.out (by omega) hc HZS.out ?_; intro B d hB hd; obtain ⟨b, off, rfl, hb, hcell⟩ := hB.cells (by omega); have hc0 := hcell 0 (by omega); rw [Nat.add_zero] at hc0; have hbd := hB.byte _ (getD_mem (show 0 < zs.length by omega)); have hT : (bits .and .u8 (zs.getD 0 0) 128 != 0) = false := (bit_one hbd.1 hbd.2).trans HT.out; generalize zs.getD 0 0 = x0 at hc0 hT; have HZ := Lib.hid hB; clear hB hcell hbd) | (refine ⟨trivial, ?_⟩; gi_at_call 21; refine (callsIn_wide.2 (set_any _ _ _ _)).mono ?_; rintro e w' ⟨rfl, rfl⟩) | fail)
  have hsv : ∃ sv, sv = Value.slice (some ⟨b, off, none⟩) 8 d := ⟨_, rfl⟩
  have HBl : Below w.heap.size w ((((((w.alloc (.cells #[.slice none 0 0] 22)).alloc (.cells #[.int .i64 0] 3)).alloc (.cells #[.int .i64 0] 25)).alloc (.cells #[] 3)).alloc (.cells #[.slice (some ⟨w.heap.size + 1 + 1 + 1, 0, none⟩) 0 0] 22)).alloc (.cells #[.slice (some ⟨b, off, none⟩) 8 d] 24)) := ((((((Below.refl _ _).alloc (Nat.le_refl _) _).alloc (by simp) _).alloc (by simp <;> omega) _).alloc (by simp <;> omega) _).alloc (by simp <;> omega) _).alloc (by simp <;> omega) _
  have b4 := ((((Boxed.new w 22 (.slice none 0 0)).alloc (.cells #[.int .i64 0] 3)).alloc (.cells #[.int .i64 0] 25)).alloc (.cells #[] 3)).alloc (.cells #[.slice (some ⟨w.heap.size + 1 + 1 + 1, 0, none⟩) 0 0] 22)
  have b5 := (((Boxed.new (w.alloc (.cells #[.slice none 0 0] 22)) 3 (.int .i64 0)).alloc (.cells #[.int .i64 0] 25)).alloc (.cells #[] 3)).alloc (.cells #[.slice (some ⟨w.heap.size + 1 + 1 + 1, 0, none⟩) 0 0] 22)
  have b6 := ((Boxed.new ((w.alloc (.cells #[.slice none 0 0] 22)).alloc (.cells #[.int .i64 0] 3)) 25 (.int .i64 0)).alloc (.cells #[] 3)).alloc (.cells #[.slice (some ⟨w.heap.size + 1 + 1 + 1, 0, none⟩) 0 0] 22)
  have b8 := Boxed.new ((((w.alloc (.cells #[.slice none 0 0] 22)).alloc (.cells #[.int .i64 0] 3)).alloc (.cells #[.int .i64 0] 25)).alloc (.cells #[] 3)) 22 (.slice (some ⟨w.heap.size + 1 + 1 + 1, 0, none⟩) 0 0)
  have bs := Boxed.new (((((w.alloc (.cells #[.slice none 0 0] 22)).alloc (.cells #[.int .i64 0] 3)).alloc (.cells #[.int .i64 0] 25)).alloc (.cells #[] 3)).alloc (.cells #[.slice (some ⟨w.heap.size + 1 + 1 + 1, 0, none⟩) 0 0] 22)) 24 (.slice (some ⟨b, off, none⟩) 8 d)
  have ho := own_empty (((w.alloc (.cells #[.slice none 0 0] 22)).alloc (.cells #[.int .i64 0] 3)).alloc (.cells #[.int .i64 0] 25)) (w.heap.size + 1 + 1 + 1) 3 (by simp)
  have hys : Rb (((w.alloc (.cells #[.slice none 0 0] 22)).alloc (.cells #[.int .i64 0] 3)).alloc (.cells #[.int .i64 0] 25)) (some ⟨b, off, none⟩) (zs.take 8) := by
    have := HZ.out.cut (l := 0) (h := 8) (c := d) (by omega) h8 hd
    rw [List.drop_zero, if_neg (by omega)] at this
    simpa [Addr.add_mid] using this
  have hyl : (zs.take 8).length = 8 := by rw [List.length_take]; omega
  simp only [World.size_alloc] at b5 b6 b8 bs hb ho
  have HDONE : Hid (bitsTo (zs.take 8) (8 * 8) = bitsTo zs 64) := Lib.hid (bitsTo_take _ (by omega))
  clear hT hc0 d2 d4 d5 d0 d1 hsv
  refine wp_range rfl (enters_of Try.func24 (by kernel_rfl) rfl) (set_stops 2 8 (w.heap.size + 1 + 1 + 1 + 1 + 1) (w.heap.size + 1 + 1 + 1) (by omega) (some ⟨b, off, none⟩) (zs.take 8) hyl d (by omega) _ (by simp) (by simp <;> omega) bs.cell (((hys.alloc _).alloc _).alloc _) (fun b' off' e => by cases e; exact hb))
    kps_t (kps_b (by simp <;> omega) (by simp)) (Ist w (.slice (some ⟨b, off, none⟩) 8 d)) (Ixs w) (ist_own w _ (by simp <;> omega)) (fun c => ixs_own w c (by simp <;> omega))
    ⟨⟨_, b8.alloc _, (ho.alloc _).alloc _, trivial⟩, b4.alloc _, b5.alloc _, b6.alloc _, bs, by simp, HBl⟩ ?assign ?body ?done ?stop
  case assign =>
    intro l x W K hK
    simp only [List.setIfInBounds_toArray, List.set_cons_succ, List.set_cons_zero] at hK ⊢
    gi_wp2
    exact hK
  case body =>
    rintro l pre x W hI hlt
    clear b4 b5 b6 b8 bs ho hys HBl
    obtain ⟨⟨v, hv, hrow, _⟩, b4, b5, b6, bs, hno, hB⟩ := hI
    have hpl := sel_len pre
    simp only [List.setIfInBounds_toArray, List.set_cons_succ, List.set_cons_zero]
    have HB := Lib.hid hB
    have HBS := Lib.hid bs
    have hBz : w.heap.size + 1 + 1 + 1 ≤ W.heap.size := by have := bs.lt; omega
    clear hB
    cases h65 : (x == 65)
    · have HNE : Hid ((65 : Int) ∉ pre ++ [x]) := Lib.hid (by
        rw [List.mem_append]
        rintro (h | h)
        · exact hno h
        · simp at h; subst h; simp at h65)
      clear hno
      by_cases h1 : 1 < x
      · have e1 : decide (1 < x) = true := decide_eq_true h1
        have HS := Lib.hid (sel_hit pre h1)
        have HR := Lib.hid hrow
        have hc := hv.cell
        clear h1
        gi_wp2_with (gi_at_builtin; refine wpListIn_append_own _ rfl _ _ 22 rfl (w.heap.size + 1 + 1 + 1) 3 i0 (.int .i64 0) 1 8 Try.underlying22 hi0 hz0 hz1 hz2 rfl (by decide) _ _ _ rfl (hrow.alloc _) ⟨W.heap.size, 0, none⟩ 1 1 [.int .i64 x] rfl rfl (cell_one_new _ _ _) (by simp [Value.oneCell']) (by unfold maxLen; omega) (by omega) (by simp <;> omega) ?_; intro v' w1 hown' hgrow _; obtain ⟨g', cap', rfl⟩ := ownsRow_succ hown'; obtain ⟨hv1, hv2, hr2, hk2, hb2⟩ := hv.appended (by decide) hrow hBz (by omega) hown' hgrow; have hc1 := hv1.cell; have hf1 := hv1.frozen)
        have hs2 := ((HBS.out.alloc (.cells #[.int .i64 x] 3)).kept hgrow ((HBS.out.alloc (.cells #[.int .i64 x] 3)).not_row (by decide) (HR.out.alloc (.cells #[.int .i64 x] 3)))).other (B' := w.heap.size + 1 + 1 + 1 + 1) (by omega) (.slice (some ⟨g', 0, none⟩) ((sel pre).length + 1) cap')
        have b42 := ((b4.alloc (.cells #[.int .i64 x] 3)).kept hgrow ((b4.alloc (.cells #[.int .i64 x] 3)).not_row (by decide) (HR.out.alloc (.cells #[.int .i64 x] 3)))).other (B' := w.heap.size + 1 + 1 + 1 + 1) (by omega) (.slice (some ⟨g', 0, none⟩) ((sel pre).length + 1) cap')
        have b52 : Boxed _ (w.heap.size + 1) 3 (.int .i64 0) := hb2.block (w.heap.size + 1) (by omega) |>.trans b5
        have b62 : Boxed _ (w.heap.size + 1 + 1) 25 (.int .i64 0) := hb2.block (w.heap.size + 1 + 1) (by omega) |>.trans b6
        exact ⟨hk2.from _, ⟨hb2, hs2.cell.trans HBS.out.cell.symm⟩, ⟨_, hv2, by rw [HS.out, List.length_append, List.map_append]; exact hr2, trivial⟩, b42, b52, b62, hs2, HNE.out, HB.out.trans (hb2.mono (by omega))⟩
      · have e1 : decide (1 < x) = false := decide_eq_false h1
        have HS := Lib.hid (sel_miss pre h1)
        have HV := Lib.hid hv
        have HR := Lib.hid hrow
        clear h1 hv hrow
        gi_wp2
        exact ⟨KeepsFrom.refl _ _, ⟨Below.refl _ _, rfl⟩, ⟨v, HV.out, by rw [HS.out]; exact HR.out, trivial⟩, b4, b5, b6, HBS.out, HNE.out, HB.out⟩
    · have HY : Hid ((65 : Int) ∈ pre ++ [x]) := Lib.hid (by rw [eq_of_beq h65]; simp)
      have c4 := b4.cell
      have c5 := b5.cell
      have c6 := b6.cell
      have f4 := b4.frozen
      have f5 := b5.frozen
      have f6 := b6.frozen
      have B4 := Lib.hid b4
      have B5 := Lib.hid b5
      have B6 := Lib.hid b6
      clear b4 b5 b6 hv hrow bs hno
      gi_wp2
      exact ⟨(((KeepsOthers.setCell _ _ _).trans (KeepsOthers.setCell _ _ _)).trans (KeepsOthers.setCell _ _ _)).from _, rfl, HY.out, ((B4.out.set _).other (by omega) _).other (by omega) _, ((B5.out.other (by omega) _).set _).other (by omega) _, ((B6.out.other (by omega) _).other (by omega) _).set _,
        ((HB.out.setCell (p := ⟨w.heap.size, 0, none⟩) (Nat.le_refl _) _).setCell (p := ⟨w.heap.size + 1, 0, none⟩) (by simp) _).setCell (p := ⟨w.heap.size + 1 + 1, 0, none⟩) (by simp <;> omega) _⟩
  case done =>
    intro D ys W hD hyz hI hK
    have HYS : Hid (ys = bitsTo zs 64) := Lib.hid (Eq.trans hyz HDONE.out)
    clear hyz b4 b5 b6 b8 bs ho hys HBl
    obtain ⟨⟨v, hv, hrow, _⟩, b4, b5, b6, bs, hno, hB⟩ := hI
    have HL : Hid (sel ys = fieldsTo zs 64) := Lib.hid (by rw [HYS.out]; exact sel_bits zs 64)
    have H65 : Hid ((65 : Int) ∉ sel ys) := Lib.hid (fun h => hno (List.mem_filter.1 h).1)
    have HT65 : Hid (false = true → testB zs 65 = false) := Lib.hid (fun hw => by
      cases hb : testB zs 65
      · rfl
      · exfalso; apply hno; rw [HYS.out]
        have h65n : 65 ≤ 64 := by first | omega | (cases hw)
        exact (bits_65 zs 64).2 ⟨h65n, hb⟩)
    clear hno bs
    generalize sel ys = L at *
    obtain ⟨A2, c2, rfl, hL⟩ := Rs.of_own hrow (by rw [HL.out]; have := fieldsTo_len zs 64; unfold maxLen; omega) (by rw [HL.out]; exact fields_wf (by omega)) (fun j hj => by rw [List.getElem?_map, List.getD_eq_getElem?_getD, List.getElem?_eq_getElem hj]; rfl)
    have HROW := Lib.hid hrow
    have HRL := Lib.hid hL
    have B4 := Lib.hid b4
    have B5 := Lib.hid b5
    have B6 := Lib.hid b6
    have HK := Lib.hid hK
    have HB := Lib.hid hB
    have HD : Hid (w.heap.size + 1 + 1 + 1 ≤ D) := Lib.hid (by simp at hD; omega)
    have c8 := hv.cell
    have c4 := b4.cell
    have c5 := b5.cell
    have c6 := b6.cell
    have f4 := b4.frozen
    have f5 := b5.frozen
    have f6 := b6.frozen
    have HLN : Hid (L.length ≤ 128) := Lib.hid (by rw [HL.out]; have := fieldsTo_len zs 64; omega)
    clear hrow hv b4 b5 b6 hB hK hD
    have HRES : Hid (readM false zs 8 (a : Int) = (L, (a : Int) + 8, 0)) := Lib.hid (by unfold readM; rw [← HL.out]; rfl)
    have hov := HOV.out
    gi_wp2_with (first | ((with_reducible refine in_dst 53 ?_); refine wpListIn_skip rfl rfl ?_; simp only [Act.put, List.setIfInBounds_toArray, List.set_cons_succ, List.set_cons_zero]) | ((with_reducible refine in_dst 58 ?_); refine wpListIn_skip rfl rfl ?_; simp only [Act.put, List.setIfInBounds_toArray, List.set_cons_succ, List.set_cons_zero]) | fail)
    exact leave_ok HRES.out rfl rfl rfl B4.out B5.out B6.out HK.out HD.out HB.out HROW.out HRL.out
  case stop =>
    rintro D c pre W hD ⟨k, hk, rfl⟩ hI hK
    clear b4 b5 b6 b8 bs ho hys HBl
    obtain ⟨rfl, hyes, b4, b5, b6, hB⟩ := hI
    rw [bitsTo_take _ hk] at hyes
    have HY := Lib.hid ((bits_65 zs k).1 hyes)
    clear hyes
    have HD : Hid (w.heap.size + 1 + 1 + 1 ≤ D) := Lib.hid (by simp at hD; omega)
    exact absurd HY.out.1 (by omega)

set_option maxRecDepth 100000 in
set_option maxHeartbeats 16000000 in
theorem read_main_true (A : Option Addr) (xs : List Int) (c a : Nat) (w : World) (hx : Rb w A xs) (hc : xs.length ≤ c) (ha : a ≤ xs.length) (zs : List Int) (hzs : zs = xs.drop a) (h8 : 16 ≤ zs.length) (ht : testB zs 1 = true) :
    Calls Try.prog 17 #[.slice A xs.length c, .int .i64 (a : Nat)] w (GivesL (readM true zs 16 a) w) := by
  have hm := hx.len
  unfold maxLen at hm
  have HX := Lib.hid (((hx.alloc (.cells #[.slice none 0 0] 22)).alloc (.cells #[.int .i64 0] 3)).alloc (.cells #[.int .i64 0] 25))
  have HZS := Lib.hid hzs
  have d0 : decide ((a : Int) < 0) = false := decide_eq_false (by omega)
  have d1 : decide (xs.length < a) = false := decide_eq_false (by omega)
  have HBE : Hid (Below w.heap.size w (((w.alloc (.cells #[.slice none 0 0] 22)).alloc (.cells #[.int .i64 0] 3)).alloc (.cells #[.int .i64 3] 25))) := Lib.hid ((((Below.refl _ _).alloc (Nat.le_refl _) _).alloc (by simp) _).alloc (by simp <;> omega) _)
  have HT := Lib.hid ht
  have d2 : decide (0 < zs.length) = true := decide_eq_true (by omega)
  have d4 : decide (zs.length < 16) = false := decide_eq_false (by omega)
  have d5 : decide ((zs.length : Int) < 16) = false := decide_eq_false (by omega)
  have hzl : zs.length = xs.length - a := by rw [hzs]; exact List.length_drop
  have HOV : Hid (a + 16 ≤ xs.length) := Lib.hid (by omega)
  obtain ⟨i0, hi0, hz0, hz1, hz2⟩ := info_parts info3
  clear hx hzs ht hzl HBE
  refine (callsIn_wide (n := 3)).1 ?_
  refine callsIn_of_wp_marks Try.func17 rfl trivial ?_ rfl
  simp only [Try.ntmps17, List.size_toArray, List.length_cons, List.length_nil, Nat.reduceAdd, Nat.reduceSub, Array.replicate_succ, Array.replicate_zero, List.push_toArray, List.append_toArray, List.nil_append, List.cons_append]
  gi_wp2_with (first | ((with_reducible refine in_dst 20 ?_); refine wpListIn_slice_l rfl rfl rfl (l := a) rfl HX.out (by omega) hc HZS.out ?_; intro B d hB hd; obtain ⟨b, off, rfl, hb, hcell⟩ := hB.cells (by omega); have hc0 := hcell 0 (by omega); rw [Nat.add_zero] at hc0; have hbd := hB.byte _ (getD_mem (show 0 < zs.length by omega)); have hT : (bits .and .u8 (zs.getD 0 0) 128 != 0) = true := (bit_one hbd.1 hbd.2).trans HT.out; generalize zs.getD 0 0 = x0 at hc0 hT; have HZ := Lib.hid hB; clear hB hcell hbd) | (refine ⟨trivial, ?_⟩; gi_at_call 21; refine (callsIn_wide.2 (set_any _ _ _ _)).mono ?_; rintro e w' ⟨rfl, rfl⟩) | fail)
  have hsv : ∃ sv, sv = Value.slice (some ⟨b, off, none⟩) 16 d := ⟨_, rfl⟩
  have HBl : Below w.heap.size w ((((((w.alloc (.cells #[.slice none 0 0] 22)).alloc (.cells #[.int .i64 0] 3)).alloc (.cells #[.int .i64 0] 25)).alloc (.cells #[] 3)).alloc (.cells #[.slice (some ⟨w.heap.size + 1 + 1 + 1, 0, none⟩) 0 0] 22)).alloc (.cells #[.slice (some ⟨b, off, none⟩) 16 d] 24)) := ((((((Below.refl _ _).alloc (Nat.le_refl _) _).alloc (by simp) _).alloc (by simp <;> omega) _).alloc (by simp <;> omega) _).alloc (by simp <;> omega) _).alloc (by simp <;> omega) _
  have b4 := ((((Boxed.new w 22 (.slice none 0 0)).alloc (.cells #[.int .i64 0] 3)).alloc (.cells #[.int .i64 0] 25)).alloc (.cells #[] 3)).alloc (.cells #[.slice (some ⟨w.heap.size + 1 + 1 + 1, 0, none⟩) 0 0] 22)
  have b5 := (((Boxed.new (w.alloc (.cells #[.slice none 0 0] 22)) 3 (.int .i64 0)).alloc (.cells #[.int .i64 0] 25)).alloc (.cells #[] 3)).alloc (.cells #[.slice (some ⟨w.heap.size + 1 + 1 + 1, 0, none⟩) 0 0] 22)
  have b6 := ((Boxed.new ((w.alloc (.cells #[.slice none 0 0] 22)).alloc (.cells #[.int .i64 0] 3)) 25 (.int .i64 0)).alloc (.cells #[] 3)).alloc (.cells #[.slice (some ⟨w.heap.size + 1 + 1 + 1, 0, none⟩) 0 0] 22)
  have b8 := Boxed.new ((((w.alloc (.cells #[.slice none 0 0] 22)).alloc (.cells #[.int .i64 0] 3)).alloc (.cells #[.int .i64 0] 25)).alloc (.cells #[] 3)) 22 (.slice (some ⟨w.heap.size + 1 + 1 + 1, 0, none⟩) 0 0)
  have bs := Boxed.new (((((w.alloc (.cells #[.slice none 0 0] 22)).alloc (.cells #[.int .i64 0] 3)).alloc (.cells #[.int .i64 0] 25)).alloc (.cells #[] 3)).alloc (.cells #[.slice (some ⟨w.heap.size + 1 + 1 + 1, 0, none⟩) 0 0] 22)) 24 (.slice (some ⟨b, off, none⟩) 16 d)
  have ho := own_empty (((w.alloc (.cells #[.slice none 0 0] 22)).alloc (.cells #[.int .i64 0] 3)).alloc (.cells #[.int .i64 0] 25)) (w.heap.size + 1 + 1 + 1) 3 (by simp)
  have hys : Rb (((w.alloc (.cells #[.slice none 0 0] 22)).alloc (.cells #[.int .i64 0] 3)).alloc (.cells #[.int .i64 0] 25)) (some ⟨b, off, none⟩) (zs.take 16) := by
    have := HZ.out.cut (l := 0) (h := 16) (c := d) (by omega) h8 hd
    rw [List.drop_zero, if_neg (by omega)] at this
    simpa [Addr.add_mid] using this
  have hyl : (zs.take 16).length = 16 := by rw [List.length_take]; omega
  simp only [World.size_alloc] at b5 b6 b8 bs hb ho
  have HDONE : Hid (bitsTo (zs.take 16) (8 * 16) = bitsTo zs 128) := Lib.hid (bitsTo_take _ (by omega))
  clear hT hc0 d2 d4 d5 d0 d1 hsv
  refine wp_range rfl (enters_of Try.func24 (by kernel_rfl) rfl) (set_stops 2 16 (w.heap.size + 1 + 1 + 1 + 1 + 1) (w.heap.size + 1 + 1 + 1) (by omega) (some ⟨b, off, none⟩) (zs.take 16) hyl d (by omega) _ (by simp) (by simp <;> omega) bs.cell (((hys.alloc _).alloc _).alloc _) (fun b' off' e => by cases e; exact hb))
    kps_t (kps_b (by simp <;> omega) (by simp)) (Ist w (.slice (some ⟨b, off, none⟩) 16 d)) (Ixs w) (ist_own w _ (by simp <;> omega)) (fun c => ixs_own w c (by simp <;> omega))
    ⟨⟨_, b8.alloc _, (ho.alloc _).alloc _, trivial⟩, b4.alloc _, b5.alloc _, b6.alloc _, bs, by simp, HBl⟩ ?assign ?body ?done ?stop
  case assign =>
    intro l x W K hK
    simp only [List.setIfInBounds_toArray, List.set_cons_succ, List.set_cons_zero] at hK ⊢
    gi_wp2
    exact hK
  case body =>
    rintro l pre x W hI hlt
    clear b4 b5 b6 b8 bs ho hys HBl
    obtain ⟨⟨v, hv, hrow, _⟩, b4, b5, b6, bs, hno, hB⟩ := hI
    have hpl := sel_len pre
    simp only [List.setIfInBounds_toArray, List.set_cons_succ, List.set_cons_zero]
    have HB := Lib.hid hB
    have HBS := Lib.hid bs
    have hBz : w.heap.size + 1 + 1 + 1 ≤ W.heap.size := by have := bs.lt; omega
    clear hB
    cases h65 : (x == 65)
    · have HNE : Hid ((65 : Int) ∉ pre ++ [x]) := Lib.hid (by
        rw [List.mem_append]
        rintro (h | h)
        · exact hno h
        · simp at h; subst h; simp at h65)
      clear hno
      by_cases h1 : 1 < x
      · have e1 : decide (1 < x) = true := decide_eq_true h1
        have HS := Lib.hid (sel_hit pre h1)
        have HR := Lib.hid hrow
        have hc := hv.cell
        clear h1
        gi_wp2_with (gi_at_builtin; refine wpListIn_append_own _ rfl _ _ 22 rfl (w.heap.size + 1 + 1 + 1) 3 i0 (.int .i64 0) 1 8 Try.underlying22 hi0 hz0 hz1 hz2 rfl (by decide) _ _ _ rfl (hrow.alloc _) ⟨W.heap.size, 0, none⟩ 1 1 [.int .i64 x] rfl rfl (cell_one_new _ _ _) (by simp [Value.oneCell']) (by unfold maxLen; omega) (by omega) (by simp <;> omega) ?_; intro v' w1 hown' hgrow _; obtain ⟨g', cap', rfl⟩ := ownsRow_succ hown'; obtain ⟨hv1, hv2, hr2, hk2, hb2⟩ := hv.appended (by decide) hrow hBz (by omega) hown' hgrow; have hc1 := hv1.cell; have hf1 := hv1.frozen)
        have hs2 := ((HBS.out.alloc (.cells #[.int .i64 x] 3)).kept hgrow ((HBS.out.alloc (.cells #[.int .i64 x] 3)).not_row (by decide) (HR.out.alloc (.cells #[.int .i64 x] 3)))).other (B' := w.heap.size + 1 + 1 + 1 + 1) (by omega) (.slice (some ⟨g', 0, none⟩) ((sel pre).length + 1) cap')
        have b42 := ((b4.alloc (.cells #[.int .i64 x] 3)).kept hgrow ((b4.alloc (.cells #[.int .i64 x] 3)).not_row (by decide) (HR.out.alloc (.cells #[.int .i64 x] 3)))).other (B' := w.heap.size + 1 + 1 + 1 + 1) (by omega) (.slice (some ⟨g', 0, none⟩) ((sel pre).length + 1) cap')
        have b52 : Boxed _ (w.heap.size + 1) 3 (.int .i64 0) := hb2.block (w.heap.size + 1) (by omega) |>.trans b5
        have b62 : Boxed _ (w.heap.size + 1 + 1) 25 (.int .i64 0) := hb2.block (w.heap.size + 1 + 1) (by omega) |>.trans b6
        exact ⟨hk2.from _, ⟨hb2, hs2.cell.trans HBS.out.cell.symm⟩, ⟨_, hv2, by rw [HS.out, List.length_append, List.map_append]; exact hr2, trivial⟩, b42, b52, b62, hs2, HNE.out, HB.out.trans (hb2.mono (by omega))⟩
      · have e1 : decide (1 < x) = false := decide_eq_false h1
        have HS := Lib.hid (sel_miss pre h1)
        have HV := Lib.hid hv
        have HR := Lib.hid hrow
        clear h1 hv hrow
        gi_wp2
        exact ⟨KeepsFrom.refl _ _, ⟨Below.refl _ _, rfl⟩, ⟨v, HV.out, by rw [HS.out]; exact HR.out, trivial⟩, b4, b5, b6, HBS.out, HNE.out, HB.out⟩
    · have HY : Hid ((65 : Int) ∈ pre ++ [x]) := Lib.hid (by rw [eq_of_beq h65]; simp)
      have c4 := b4.cell
      have c5 := b5.cell
      have c6 := b6.cell
      have f4 := b4.frozen
      have f5 := b5.frozen
      have f6 := b6.frozen
      have B4 := Lib.hid b4
      have B5 := Lib.hid b5
      have B6 := Lib.hid b6
      clear b4 b5 b6 hv hrow bs hno
      gi_wp2
      exact ⟨(((KeepsOthers.setCell _ _ _).trans (KeepsOthers.setCell _ _ _)).trans (KeepsOthers.setCell _ _ _)).from _, rfl, HY.out, ((B4.out.set _).other (by omega) _).other (by omega) _, ((B5.out.other (by omega) _).set _).other (by omega) _, ((B6.out.other (by omega) _).other (by omega) _).set _,
        ((HB.out.setCell (p := ⟨w.heap.size, 0, none⟩) (Nat.le_refl _) _).setCell (p := ⟨w.heap.size + 1, 0, none⟩) (by simp) _).setCell (p := ⟨w.heap.size + 1 + 1, 0, none⟩) (by simp <;> omega) _⟩
  case done =>
    intro D ys W hD hyz hI hK
    have HYS : Hid (ys = bitsTo zs 128) := Lib.hid (Eq.trans hyz HDONE.out)
    clear hyz b4 b5 b6 b8 bs ho hys HBl
    obtain ⟨⟨v, hv, hrow, _⟩, b4, b5, b6, bs, hno, hB⟩ := hI
    have HL : Hid (sel ys = fieldsTo zs 128) := Lib.hid (by rw [HYS.out]; exact sel_bits zs 128)
    have H65 : Hid ((65 : Int) ∉ sel ys) := Lib.hid (fun h => hno (List.mem_filter.1 h).1)
    have HT65 : Hid (true = true → testB zs 65 = false) := Lib.hid (fun hw => by
      cases hb : testB zs 65
      · rfl
      · exfalso; apply hno; rw [HYS.out]
        have h65n : 65 ≤ 128 := by first | omega | (cases hw)
        exact (bits_65 zs 128).2 ⟨h65n, hb⟩)
    clear hno bs
    generalize sel ys = L at *
    obtain ⟨A2, c2, rfl, hL⟩ := Rs.of_own hrow (by rw [HL.out]; have := fieldsTo_len zs 128; unfold maxLen; omega) (by rw [HL.out]; exact fields_wf (by omega)) (fun j hj => by rw [List.getElem?_map, List.getD_eq_getElem?_getD, List.getElem?_eq_getElem hj]; rfl)
    have HROW := Lib.hid hrow
    have HRL := Lib.hid hL
    have B4 := Lib.hid b4
    have B5 := Lib.hid b5
    have B6 := Lib.hid b6
    have HK := Lib.hid hK
    have HB := Lib.hid hB
    have HD : Hid (w.heap.size + 1 + 1 + 1 ≤ D) := Lib.hid (by simp at hD; omega)
    have c8 := hv.cell
    have c4 := b4.cell
    have c5 := b5.cell
    have c6 := b6.cell
    have f4 := b4.frozen
    have f5 := b5.frozen
    have f6 := b6.frozen
    have HLN : Hid (L.length ≤ 128) := Lib.hid (by rw [HL.out]; have := fieldsTo_len zs 128; omega)
    clear hrow hv b4 b5 b6 hB hK hD
    have hov := HOV.out
    by_cases h0 : L.length = 0
    · have f0 : (L.length == 0) = true := by simpa using h0
      have f1 : ((L.length : Int) == 0) = true := by rw [beq_iff_eq]; omega
      have HRES : Hid (readM true zs 16 (a : Int) = ([], 0, 2)) := Lib.hid (by unfold readM; rw [HT65.out rfl, ← HL.out]; unfold badL; rw [f0]; rfl)
      clear h0
      gi_wp2
      exact leave_no HRES.out rfl rfl rfl (((B4.out.set _).other (by omega) _).other (by omega) _) (((B5.out.other (by omega) _).set _).other (by omega) _) (((B6.out.other (by omega) _).other (by omega) _).set _) ((((KeepsOthers.setCell _ _ _).trans (KeepsOthers.setCell _ _ _)).trans (KeepsOthers.setCell _ _ _)).same D _ HK.out rfl) HD.out
        (((HB.out.setCell (p := ⟨w.heap.size, 0, none⟩) (Nat.le_refl _) _).setCell (p := ⟨w.heap.size + 1, 0, none⟩) (by simp) _).setCell (p := ⟨w.heap.size + 1 + 1, 0, none⟩) (by simp <;> omega) _)
    · have f0 : (L.length == 0) = false := by simpa using h0
      have f1 : ((L.length : Int) == 0) = false := by rw [beq_eq_false_iff_ne]; omega
      obtain ⟨g, o, rfl, hg, hcl⟩ := HRL.out.cells (by omega)
      have hcl := hcl (L.length - 1) (by omega)
      have hne : L.getD (L.length - 1) 0 ≠ 65 := fun e => H65.out (e ▸ getD_mem (by omega))
      have hLl : L.length ≤ 128 := HLN.out
      by_cases h65 : L.getD (L.length - 1) 0 ≤ 65
      · have f2 : decide (L.getD (L.length - 1) 0 < 65) = true := decide_eq_true (by omega)
        have f3 : decide (L.getD (L.length - 1) 0 ≤ 65) = true := decide_eq_true h65
        have HRES : Hid (readM true zs 16 (a : Int) = ([], 0, 2)) := Lib.hid (by unfold readM; rw [HT65.out rfl, ← HL.out]; unfold badL; rw [f0, f3]; rfl)
        clear h65 hne f3
        generalize L.getD (L.length - 1) 0 = z at *
        gi_wp2
        exact leave_no HRES.out rfl rfl rfl (((B4.out.set _).other (by omega) _).other (by omega) _) (((B5.out.other (by omega) _).set _).other (by omega) _) (((B6.out.other (by omega) _).other (by omega) _).set _) ((((KeepsOthers.setCell _ _ _).trans (KeepsOthers.setCell _ _ _)).trans (KeepsOthers.setCell _ _ _)).same D _ HK.out rfl) HD.out
          (((HB.out.setCell (p := ⟨w.heap.size, 0, none⟩) (Nat.le_refl _) _).setCell (p := ⟨w.heap.size + 1, 0, none⟩) (by simp) _).setCell (p := ⟨w.heap.size + 1 + 1, 0, none⟩) (by simp <;> omega) _)
      · have f2 : decide (L.getD (L.length - 1) 0 < 65) = false := decide_eq_false (by omega)
        have f3 : decide (L.getD (L.length - 1) 0 ≤ 65) = false := decide_eq_false h65
        have HRES : Hid (readM true zs 16 (a : Int) = (L, (a : Int) + 16, 0)) := Lib.hid (by unfold readM; rw [HT65.out rfl, ← HL.out]; unfold badL; rw [f0, f3]; rfl)
        clear h65 hne f3
        generalize L.getD (L.length - 1) 0 = z at *
        gi_wp2
        exact leave_ok HRES.out rfl rfl rfl B4.out B5.out B6.out HK.out HD.out HB.out HROW.out HRL.out
  case stop =>
    rintro D c pre W hD ⟨k, hk, rfl⟩ hI hK
    clear b4 b5 b6 b8 bs ho hys HBl
    obtain ⟨rfl, hyes, b4, b5, b6, hB⟩ := hI
    rw [bitsTo_take _ hk] at hyes
    have HY := Lib.hid ((bits_65 zs k).1 hyes)
    clear hyes
    have HD : Hid (w.heap.size + 1 + 1 + 1 ≤ D) := Lib.hid (by simp at hD; omega)
    gi_wp2
    exact leave_no (by unfold readM; rw [HY.out.2]; rfl) rfl rfl rfl b4 b5 b6 hK HD.out hB

theorem read_any (A : Option Addr) (xs : List Int) (c : Nat) (a : Int) (w : World) (hx : Rb w A xs) (hc : xs.length ≤ c) :
    Calls Try.prog 17 #[.slice A xs.length c, .int .i64 a] w (GivesL (readR xs a) w) := by
  by_cases h : a < 0 ∨ (xs.length : Int) < a
  · unfold readR; rw [if_pos h]; exact read_bad A xs c a w hx h
  · unfold readR; rw [if_neg h]
    obtain ⟨n, rfl⟩ := Int.eq_ofNat_of_zero_le (show 0 ≤ a by omega)
    rw [show ((n : Nat) : Int).toNat = n from rfl]
    have hn : n ≤ xs.length := by omega
    unfold readZ
    by_cases h0 : (xs.drop n).length = 0
    · rw [if_pos (by have : 8 ≤ sizeR (xs.drop n) := by (unfold sizeR; split <;> omega)
                     omega)]
      exact read_empty A xs c n w hx hc hn _ rfl h0
    · cases ht : testB (xs.drop n) 1
      · have hw : wideR (xs.drop n) = false := by unfold wideR; rw [ht]; simp
        have hs : sizeR (xs.drop n) = 8 := by unfold sizeR; rw [hw]; rfl
        by_cases h8 : (xs.drop n).length < 8
        · rw [if_pos (by omega)]
          exact read_short_false A xs c n w hx hc hn _ rfl (by omega) h8 ht
        · rw [if_neg (by omega)]
          have h := read_main_false A xs c n w hx hc hn _ rfl (by omega) ht
          unfold badR fieldsR
          rw [hw, hs]
          exact h
      · have hw : wideR (xs.drop n) = true := by unfold wideR; rw [ht, decide_eq_true (show 0 < (xs.drop n).length by omega)]; rfl
        have hs : sizeR (xs.drop n) = 16 := by unfold sizeR; rw [hw]; rfl
        by_cases h16 : (xs.drop n).length < 16
        · rw [if_pos (by omega)]
          exact read_short_true A xs c n w hx hc hn _ rfl (by omega) h16 ht
        · rw [if_neg (by omega)]
          have h := read_main_true A xs c n w hx hc hn _ rfl (by omega) ht
          unfold badR fieldsR
          rw [hw, hs]
          exact h
end Go.Proofs.Ytalmgpcffbccoaa
