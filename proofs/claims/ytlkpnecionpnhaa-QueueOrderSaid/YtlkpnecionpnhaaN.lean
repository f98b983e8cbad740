/- Rows of messages: what they read as; laws for appends and cuts. -/
import Derived.Test.YtlkpnecionpnhaaZ
import Derived.Deep.AppendSrc
import Derived.Deep.AppendLies
import Derived.Laws.Slices
namespace Go.Proofs.Ytlkpnecionpnhaa
open Go.RowKit

/-- All cells that were there are as they were. -/
structure Keep (w w' : World) : Prop where
  size : w.heap.size ≤ w'.heap.size
  cell : ∀ a v, w.cell? a = some v → w'.cell? a = some v
theorem cell_lt {w : World} {a : Addr} {v : Value} (h : w.cell? a = some v) : a.block < w.heap.size := World.block_lt_of_cell? w a h
theorem Keep.refl (w : World) : Keep w w := ⟨Nat.le_refl _, fun _ _ h => h⟩
theorem Keep.trans {w w' w'' : World} (h : Keep w w') (h' : Keep w' w'') : Keep w w'' := ⟨Nat.le_trans h.size h'.size, fun a v e => h'.cell a v (h.cell a v e)⟩
theorem Keep.of_below {w w' : World} (h : Below w.heap.size w w') : Keep w w' := ⟨h.size, fun a _v e => (h.cell (p := a) (cell_lt e)).trans e⟩
theorem Keep.alloc (w : World) (o : Obj) : Keep w (w.alloc o) := Keep.of_below ((Below.refl _ _).alloc (Nat.le_refl _) o)
theorem Keep.of_chan {w w' : World} {c cap s r : Nat} {buf : Array Value} {cl tm : Bool} (hc : w.heap[c]? = some (.chan cap buf cl s r tm)) (hg : w.grownBy w' (some c)) : Keep w w' :=
  ⟨hg.size, fun a v e => by
    have hne : a.block ≠ c := fun h => by
      simp [World.cell?, h, hc] at e
    rw [World.cell?_of_block (hg.block a.block (cell_lt e) (fun h => hne (Option.some.inj h)))]
    exact e⟩
theorem Keep.of_own {w0 w w' : World} {e : TypeId} {size : Nat} {v : Value} {n : Nat} {vs : List Value} (hb : Below w0.heap.size w0 w) (h : w.ownsRow w0.heap.size e size v n vs) (hg : w.grownBy w' v.ownBlock) : Keep w0 w' :=
  Keep.of_below (hb.grown hg hb.size (fun k hk => by
    rcases h.2 with ⟨rfl, _⟩ | ⟨g, cap, cur, rfl, hge, _⟩
    · simp [Value.ownBlock] at hk
    · have : g = k := by simpa [Value.ownBlock] using hk
      omega))

section
variable {k : IntKind} {w w' : World} {A : Option Addr} {xs : List Int}
theorem Rs.keep (h : Rs k w A xs) (hb : Keep w w') : Rs k w' A xs :=
  ⟨h.len, h.wf, fun h0 => by
    obtain ⟨b, off, e, hlt, hc⟩ := h.cells h0
    exact ⟨b, off, e, Nat.lt_of_lt_of_le hlt hb.size, fun j hj => hb.cell _ _ (hc j hj)⟩⟩
end

/-- A slice whose cells hold the values vs. -/
structure Rv (w : World) (A : Option Addr) (vs : List Value) : Prop where
  len : vs.length ≤ maxLen
  one : ∀ u ∈ vs, u.oneCell' = true
  cells : 0 < vs.length → ∃ b off, A = some ⟨b, off, none⟩ ∧ b < w.heap.size ∧ ∀ j u, vs[j]? = some u → w.cell? ⟨b, off + j, none⟩ = some u

section
variable {w w' : World} {A : Option Addr} {vs : List Value}
theorem Rv.keep (h : Rv w A vs) (hb : Keep w w') : Rv w' A vs :=
  ⟨h.len, h.one, fun h0 => by
    obtain ⟨b, off, e, hlt, hc⟩ := h.cells h0
    exact ⟨b, off, e, Nat.lt_of_lt_of_le hlt hb.size, fun j u hj => hb.cell _ _ (hc j u hj)⟩⟩
theorem Rv.nil (w : World) (A : Option Addr) : Rv w A [] := ⟨Nat.zero_le _, (fun u h => by cases h), (fun h => absurd h (by simp))⟩
theorem Rv.of_own {base : Nat} {e : TypeId} {v : Value} (h : w.ownsRow base e 1 v vs.length vs) (hlen : vs.length ≤ maxLen) (hone : ∀ u ∈ vs, u.oneCell' = true) :
    ∃ A c, v = .slice A vs.length c ∧ vs.length ≤ c ∧ Rv w A vs := by
  rcases Nat.eq_zero_or_pos vs.length with h0 | h0
  · obtain rfl : vs = [] := List.eq_nil_of_length_eq_zero h0
    obtain ⟨A, c, e⟩ := own_shape h
    exact ⟨A, c, e, Nat.zero_le _, Rv.nil _ _⟩
  · rcases h.2 with ⟨rfl, h00⟩ | ⟨g, cap, cur, rfl, hbg, hh, hnc, _, _, ht⟩
    · omega
    · refine ⟨_, cap, rfl, hnc, ⟨hlen, hone, fun _ => ⟨g, 0, rfl, ?_, fun j u hj => ?_⟩⟩⟩
      · rcases Nat.lt_or_ge g w.heap.size with hlt | hge
        · exact hlt
        · rw [Array.getElem?_eq_none hge] at hh; cases hh
      · rw [Nat.zero_add, h.cellAt j (by rw [Nat.mul_one]; rcases Nat.lt_or_ge j vs.length with h' | h'; exact h'; rw [List.getElem?_eq_none h'] at hj; cases hj)]; exact hj
/-- Out of a block that is known whole. -/
theorem Rv.of_blk {g : Nat} {t : TypeId} {cs : Array Value} (hg : Blk w g t cs) {o : Nat} (hlen : vs.length ≤ maxLen) (hone : ∀ u ∈ vs, u.oneCell' = true) (hc : ∀ j u, vs[j]? = some u → cs[o + j]? = some u) : Rv w (some ⟨g, o, none⟩) vs :=
  ⟨hlen, hone, fun _ => ⟨g, o, rfl, hg.lt, fun j u hj => by rw [hg.cell]; exact hc j u hj⟩⟩
/-- vs[l:h]. -/
theorem Rv.cut (hx : Rv w A vs) {l h c : Nat} (hl : l ≤ h) (hh : h ≤ vs.length) (hc : vs.length ≤ c) : Rv w (if c = l then A else A.map (·.add (l * 1))) ((vs.take h).drop l) := by
  have hlen : ((vs.take h).drop l).length = h - l := by rw [List.length_drop, List.length_take]; omega
  refine ⟨by rw [hlen]; have := hx.len; omega, fun x hm => hx.one x (List.mem_of_mem_take (List.mem_of_mem_drop hm)), fun h0 => ?_⟩
  rw [hlen] at h0
  obtain ⟨b, off, rfl, hb, hcell⟩ := hx.cells (by omega)
  rw [if_neg (by omega)]
  refine ⟨b, off + l, by simp [Addr.add_mid], hb, fun j u hj => ?_⟩
  rw [Nat.add_assoc]
  rw [List.getElem?_drop, List.getElem?_take] at hj
  split at hj
  · exact hcell (l + j) u hj
  · cases hj
end

theorem run_append_rv {w : World} (base : Nat) (t ty e : TypeId) (i : TypeInfo) (z : Value) (bytes : Nat) (ht : Try.prog.underlying t = some (.slice e)) (hi : Try.prog.info? e = some i) (hz : i.zero = some z)
    (hsize : i.size = 1) (hby : i.bytes = bytes) (hzs : z.cells.size = 1) (v : Value) (n : Nat) (vs : List Value) (hown : w.ownsRow base e 1 v n vs) (A : Option Addr) (us : List Value) (c : Nat) (hx : Rv w A us)
    (h63 : n + us.length ≤ maxLen) (hbytes : (n + us.length) * bytes ≤ 140737488355328) (hbase : base ≤ w.heap.size) :
    ∃ v' w', (Builtin.append_ #[t, t] ty #[v, .slice A us.length c]).run Try.prog w = .ok v' w' ∧ w'.ownsRow base e 1 v' (n + us.length) (vs ++ us) ∧ w.grownBy w' v.ownBlock := by
  cases A with
  | some a =>
    obtain ⟨v', w', hr, h1, h2, _⟩ := run_append_own (P := Try.prog) w base t ty e i z 1 bytes ht hi hz hsize hby hzs (by omega) v n vs hown a us.length c us (by simp) (fun j u hu => by
      have hj : j < us.length := by
        rcases Nat.lt_or_ge j us.length with h | h
        · exact h
        · rw [List.getElem?_eq_none h] at hu; cases hu
      obtain ⟨b, off, e', _, hc⟩ := hx.cells (by omega)
      cases e'
      rw [Addr.add_mid]
      exact hc j u hu) hx.one h63 hbytes hbase
    exact ⟨v', w', hr, h1, h2⟩
  | none =>
    have h0 : us.length = 0 := by
      rcases Nat.eq_zero_or_pos us.length with h | h
      · exact h
      · obtain ⟨b, off, e', _⟩ := hx.cells h
        cases e'
    obtain rfl : us = [] := List.eq_nil_of_length_eq_zero h0
    refine ⟨v, w, ?_, by simpa using hown, World.grownBy.refl w _⟩
    rcases hown.2 with ⟨rfl, rfl⟩ | ⟨g, cap, cur, rfl, hbg, hg, hnc, hcm, hcs, htake⟩
    · simp [Builtin.append_, run_underlying ht, sizeOf, typeInfo, hi, Builtin.lenOf, Builtin.firstCells]
    · have h := run_append_room_src (P := Try.prog) w t t ty e i ht hi g 0 n cap (.slice none 0 c) 0 [] (by rw [hsize]; exact Src.ofNil w ht c) (by omega) (fun j hj => absurd hj (by simp)) (fun j hj => absurd hj (by simp))
      exact h

theorem wpList_append_rv {ops : Array Oper} {rest : List Oper} {o : Oper} {a : Act} {w : World} {Q : Exit → Act → World → Prop} (hgd : o.guard = none) (s x : Operand) (t : TypeId)
    (ho : o.op = .call { callee := .builtin .append, args := #[s, x], argTypes := #[t, t] })
    (base : Nat) (e : TypeId) (i : TypeInfo) (z : Value) (bytes : Nat) (ht : Try.prog.underlying t = some (.slice e)) (hi : Try.prog.info? e = some i) (hz : i.zero = some z)
    (hsize : i.size = 1) (hby : i.bytes = bytes) (hzs : z.cells.size = 1) (v : Value) (n : Nat) (vs : List Value) (hs : a.eval s = v) (hown : w.ownsRow base e 1 v n vs) (A : Option Addr) (us : List Value) (c m : Nat) (hm : m = us.length) (hx : a.eval x = .slice A m c) (hr : Rv w A us)
    (h63 : n + us.length ≤ maxLen) (hbytes : (n + us.length) * bytes ≤ 140737488355328) (hbase : base ≤ w.heap.size)
    (h : ∀ B cap w', w'.ownsRow base e 1 (.slice B (n + m) cap) (n + m) (vs ++ us) → w.grownBy w' v.ownBlock → wpList Try.prog ops Q rest (a.put o.dst (.slice B (n + m) cap)) w') : wpList Try.prog ops Q (o :: rest) a w :=
  wpList_plain hgd fun K hK => by
    subst hm
    obtain ⟨v', w', hrun, h2, h3⟩ := run_append_rv base t o.type e i z bytes ht hi hz hsize hby hzs v n vs hown A us c hr h63 hbytes hbase
    obtain ⟨B, cap, rfl⟩ := own_shape h2
    unfold Oper.wp execOp
    simp only [ho, resolve, invoke, builtin, Sem.run_bind, Sem.run_pure, Result.andThen_ok, List.map_toArray, List.map_cons, List.map_nil, hs, hx, hrun]
    exact hK _ _ (h B cap w' h2 h3)

/-- An empty slice of the call's own: 'T{}'. -/
theorem own_empty (w : World) (base : Nat) (e : TypeId) (hb : base ≤ w.heap.size) : (w.alloc (.cells #[] e)).ownsRow base e 1 (.slice (some ⟨w.heap.size, 0, none⟩) 0 0) 0 [] :=
  ⟨rfl, .inr ⟨w.heap.size, 0, #[], rfl, hb, heap_alloc_new w _, Nat.le_refl _, Nat.zero_le _, rfl, rfl⟩⟩
/-- What lay below lies on, behind a write to a row of the call's own. -/
theorem below_own {w0 w w' : World} {B : Nat} {e : TypeId} {size : Nat} {v : Value} {n : Nat} {xs : List Value} (hB : B ≤ w0.heap.size) (hb : Below B w0 w) (h : w.ownsRow B e size v n xs) (hg : w.grownBy w' v.ownBlock) : Below B w0 w' :=
  hb.grown hg (Nat.le_trans hB hb.size) (fun k hk => by
    rcases h.2 with ⟨rfl, _⟩ | ⟨g, cap, cur, rfl, hge, _⟩
    · simp [Value.ownBlock] at hk
    · have : g = k := by simpa [Value.ownBlock] using hk
      omega)

/-- A message: its bytes, and where they lie. -/
structure Msg where
  A : Option Addr
  xs : List Int
  c : Nat
def Msg.v (m : Msg) : Value := .slice m.A m.xs.length m.c
def Msg.none : Msg := ⟨Option.none, [], 0⟩
/-- A queue: messages. -/
structure Rq (w : World) (A : Option Addr) (q : List Msg) : Prop where
  row : Rv w A (q.map Msg.v)
  each : ∀ m ∈ q, Rb w m.A m.xs
def bytesQ (q : List Msg) : List (List Int) := q.map (·.xs)

section
variable {w w' : World} {A : Option Addr} {q : List Msg}
theorem msgs_one (q : List Msg) : ∀ u ∈ q.map Msg.v, u.oneCell' = true := fun u hu => by
  obtain ⟨m, _, rfl⟩ := List.mem_map.1 hu; rfl
theorem Rq.len (h : Rq w A q) : q.length ≤ maxLen := by have := h.row.len; rwa [List.length_map] at this
theorem Rq.keep (h : Rq w A q) (hb : Keep w w') : Rq w' A q := ⟨h.row.keep hb, fun m hm => (h.each m hm).keep hb⟩
theorem Rq.below (h : Rq w A q) (hb : Below w.heap.size w w') : Rq w' A q := h.keep (Keep.of_below hb)
theorem Rq.alloc (h : Rq w A q) (o : Obj) : Rq (w.alloc o) A q := h.keep (Keep.alloc w o)
theorem Rq.nil (w : World) (A : Option Addr) : Rq w A [] := ⟨Rv.nil _ _, fun m h => by cases h⟩
theorem Rq.cell (h : Rq w A q) {j : Nat} (hj : j < q.length) : ∃ b off, A = some ⟨b, off, none⟩ ∧ w.cell? ⟨b, off + j, none⟩ = some (q.getD j Msg.none).v := by
  obtain ⟨b, off, e, _, hc⟩ := h.row.cells (by rw [List.length_map]; omega)
  refine ⟨b, off, e, hc j _ ?_⟩
  rw [List.getElem?_map, List.getD_eq_getElem?_getD, List.getElem?_eq_getElem hj]; rfl
theorem Rq.addr (h : Rq w A q) (h0 : 0 < q.length) : ∃ b off, A = some ⟨b, off, none⟩ ∧ ∀ j, j < q.length → w.cell? ⟨b, off + j, none⟩ = some (q.getD j Msg.none).v := by
  obtain ⟨b, off, e, _⟩ := h.cell h0
  refine ⟨b, off, e, fun j hj => ?_⟩
  obtain ⟨b', off', e', hc⟩ := h.cell hj
  rw [e] at e'
  cases e'
  exact hc
theorem getD_mem_q {j : Nat} (hj : j < q.length) : q.getD j Msg.none ∈ q := by
  rw [List.getD_eq_getElem?_getD, List.getElem?_eq_getElem hj]; exact List.getElem_mem hj
theorem Rq.msg (h : Rq w A q) {j : Nat} (hj : j < q.length) : Rb w (q.getD j Msg.none).A (q.getD j Msg.none).xs := h.each _ (getD_mem_q hj)
theorem Rq.of_own {base : Nat} {e : TypeId} {v : Value} {n : Nat} (hn : n = q.length) (h : w.ownsRow base e 1 v n (q.map Msg.v)) (hlen : q.length ≤ maxLen) (hb : ∀ m ∈ q, Rb w m.A m.xs) :
    ∃ A c, v = .slice A q.length c ∧ q.length ≤ c ∧ Rq w A q := by
  subst hn
  obtain ⟨A, c, e, hc, hr⟩ := Rv.of_own (vs := q.map Msg.v) (by rwa [List.length_map]) (by rwa [List.length_map]) (msgs_one q)
  rw [List.length_map] at e hc
  exact ⟨A, c, e, hc, hr, hb⟩
theorem Rq.cut (h : Rq w A q) {l m c : Nat} (hl : l ≤ m) (hm : m ≤ q.length) (hc : q.length ≤ c) : Rq w (if c = l then A else A.map (·.add (l * 1))) ((q.take m).drop l) := by
  refine ⟨?_, fun x hx => h.each x (List.mem_of_mem_take (List.mem_of_mem_drop hx))⟩
  have := h.row.cut (l := l) (h := m) (c := c) hl (by rw [List.length_map]; exact hm) (by rw [List.length_map]; exact hc)
  rwa [← List.map_take, ← List.map_drop] at this
end

theorem cell22 : Try.prog.cellsOf 23 = 1 := by kernel_rfl
theorem u22e : Try.prog.underlying 22 = some (.slice (Try.prog.elem 22)) := by kernel_rfl
theorem info23 : (Try.prog.info? 23).map (fun i => (i.zero, i.size, i.bytes)) = some (some (.slice none 0 0), 1, 24) := by kernel_rfl
theorem info_parts {e : TypeId} {z : Option Value} {s b : Nat} (h : (Try.prog.info? e).map (fun i => (i.zero, i.size, i.bytes)) = some (z, s, b)) : ∃ i, Try.prog.info? e = some i ∧ i.zero = z ∧ i.size = s ∧ i.bytes = b := by
  obtain ⟨i, hi, hv⟩ := Option.map_eq_some_iff.1 h
  simp only [Prod.mk.injEq] at hv
  exact ⟨i, hi, hv.1, hv.2.1, hv.2.2⟩
theorem size23 (w : World) : (sizeOf (Try.prog.elem 22)).run Try.prog w = .ok 1 w := by
  have e : Try.prog.elem 22 = 23 := by kernel_rfl
  obtain ⟨i, hi, _, hs, _⟩ := info_parts info23
  rw [e]
  simp [sizeOf, typeInfo, hi, hs]

section
variable {ops : Array Oper} {rest : List Oper} {o : Oper} {a : Act} {w : World} {Q : Exit → Act → World → Prop} {A : Option Addr} {q : List Msg} {c : Nat} {x : Operand}
theorem run_cut_l (w : World) (A : Option Addr) (n c l : Nat) (hl : l ≤ n) : (Instr.sliceAt 22 (.slice A n c) (some (.int .i64 l)) none none).run Try.prog w = .ok (.slice (if c = l then A else A.map (·.add (l * 1))) (n - l) (c - l)) w := by
  rw [run_sliceAt_slice w 22 _ _ _ _ u22e, run_slice_l w 22 A n c u22e .i64 l (by omega) (by omega), size23]
  simp [Result.andThen, sliced]
theorem run_cut_h (w : World) (A : Option Addr) (n c l : Nat) (hl : l ≤ c) : (Instr.sliceAt 22 (.slice A n c) none (some (.int .i64 l)) none).run Try.prog w = .ok (.slice (if c = 0 then A else A.map (·.add (0 * 1))) l c) w := by
  rw [run_sliceAt_slice w 22 _ _ _ _ u22e, run_slice_h w 22 A n c u22e .i64 l (by omega) (by omega), size23]
  simp [Result.andThen, sliced]
theorem wpList_qslice_l (hgd : o.guard = none) {lo : Operand} (ho : o.op = .slice 22 x (some lo) none none) (hx : a.eval x = .slice A q.length c) {l : Nat} (hlo : a.eval lo = .int .i64 l) (hr : Rq w A q) (hl : l ≤ q.length) (hc : q.length ≤ c) {zs : List Msg} (hz : zs = q.drop l)
    (h : ∀ B d, Rq w B zs → zs.length ≤ d → wpList Try.prog ops Q rest (a.put o.dst (.slice B zs.length d)) w) : wpList Try.prog ops Q (o :: rest) a w :=
  wpList_plain hgd fun K hK => by
    subst hz
    have hcut := hr.cut (l := l) (m := q.length) hl (Nat.le_refl _) hc
    rw [List.take_length] at hcut
    have hlen : (q.drop l).length = q.length - l := List.length_drop
    have hrun := run_cut_l w A q.length c l hl
    rw [← hlen] at hrun
    unfold Oper.wp execOp
    simp only [ho, hx, hlo, Option.map_some, Option.map_none, Sem.run_bind, hrun, Result.andThen_ok, Sem.run_pure]
    exact hK _ _ (h _ _ hcut (by omega))
theorem wpList_qslice_h (hgd : o.guard = none) {hi : Operand} (ho : o.op = .slice 22 x none (some hi) none) (hx : a.eval x = .slice A q.length c) {l : Nat} (hhi : a.eval hi = .int .i64 l) (hr : Rq w A q) (hl : l ≤ q.length) (hc : q.length ≤ c) {zs : List Msg} (hz : zs = q.take l)
    (h : ∀ B, Rq w B zs → zs.length ≤ c → wpList Try.prog ops Q rest (a.put o.dst (.slice B zs.length c)) w) : wpList Try.prog ops Q (o :: rest) a w :=
  wpList_plain hgd fun K hK => by
    subst hz
    have hcut := hr.cut (l := 0) (m := l) (by omega) hl hc
    rw [List.drop_zero] at hcut
    have hlen : (q.take l).length = l := by rw [List.length_take]; omega
    have hrun := run_cut_h w A q.length c l (by omega)
    rw [← hlen] at hrun
    unfold Oper.wp execOp
    simp only [ho, hx, hhi, Option.map_some, Option.map_none, Sem.run_bind]
    rw [← hlen, hrun]
    simp only [Result.andThen_ok, Sem.run_pure]
    exact hK _ _ (h _ hcut (by omega))
end
end Go.Proofs.Ytlkpnecionpnhaa
