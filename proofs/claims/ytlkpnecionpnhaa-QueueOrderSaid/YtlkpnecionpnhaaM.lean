/- Blocks that are known whole: words and laws for walks (no program in sight). -/
import Derived.WalkKit
import Derived.Handy
import Derived.Lib.Hide
import Derived.Deep.Draws
import Derived.Great.BuildSlice
import Derived.Deep.MidRow
import Derived.Deep.Quiet
import Derived.BigQuiet
namespace Go.Proofs.Ytlkpnecionpnhaa
open Go.RowKit

/-- Block g is just the cells cs of element type t, none of them frozen. -/
def Blk (w : World) (g : Nat) (t : TypeId) (cs : Array Value) : Prop := w.heap[g]? = some (.cells cs t (0, 0))

section
variable {w w' : World} {g : Nat} {t : TypeId} {cs : Array Value}
theorem Blk.lt (h : Blk w g t cs) : g < w.heap.size := by
  rcases Nat.lt_or_ge g w.heap.size with hlt | hge
  · exact hlt
  · unfold Blk at h; rw [Array.getElem?_eq_none hge] at h; cases h
theorem Blk.cell (h : Blk w g t cs) (i : Nat) : w.cell? ⟨g, i, none⟩ = cs[i]? := cell_of_row w g i cs t (0, 0) h
theorem Blk.frozen (h : Blk w g t cs) (i : Nat) : w.frozen? ⟨g, i, none⟩ = false := by
  unfold Blk at h
  simp [World.frozen?, h]
theorem Blk.new (w : World) (t : TypeId) (cs : Array Value) : Blk (w.alloc (.cells cs t)) w.heap.size t cs := heap_alloc_new w _
theorem Blk.drew (h : Blk w g t cs) : Blk w.drew g t cs := h
theorem Blk.drewN (h : Blk w g t cs) (n : Nat) : Blk (w.drewN n) g t cs := h
theorem Blk.alloc (h : Blk w g t cs) (o : Obj) : Blk (w.alloc o) g t cs := (Below.heap_alloc w o g h.lt).trans h
theorem Blk.set_ (h : Blk w g t cs) (i : Nat) (u : Value) : Blk (w.setCell ⟨g, i, none⟩ u) g t (cs.setIfInBounds i u) := by
  unfold Blk at h ⊢
  simp [World.setCell, Array.getElem?_modify, h]
theorem Blk.set_to {cs' : Array Value} (h : Blk w g t cs) (i : Nat) (u : Value) (he : cs.setIfInBounds i u = cs') : Blk (w.setCell ⟨g, i, none⟩ u) g t cs' := he ▸ h.set_ i u
theorem Blk.far (h : Blk w g t cs) {p : Addr} (hp : g ≠ p.block) (u : Value) : Blk (w.setCell p u) g t cs := (Below.heap_setCell w p u g hp).trans h
theorem Blk.row (h : Blk w g t cs) (cs' : Array Value) : Blk (w.setRow g cs') g t cs' := setRow_heap w g cs cs' t (0, 0) h
theorem Blk.rowFar (h : Blk w g t cs) {k : Nat} (hk : g ≠ k) (cs' : Array Value) : Blk (w.setRow k cs') g t cs := (setRow_other w k g cs' hk).trans h
theorem Blk.below {B : Nat} (h : Blk w g t cs) (hb : Below B w w') (hg : g < B) : Blk w' g t cs := (hb.block g hg).trans h
theorem Blk.belowSelf (h : Blk w g t cs) (hb : Below w.heap.size w w') : Blk w' g t cs := h.below hb h.lt
theorem Blk.grown {row : Option Nat} (h : Blk w g t cs) (hb : w.grownBy w' row) (hg : some g ≠ row) : Blk w' g t cs := (hb.block g h.lt hg).trans h
end

theorem below_drewN {B : Nat} {a w : World} (h : Below B a w) (n : Nat) : Below B a (w.drewN n) := ⟨h.os, h.tape, h.output, h.size, h.block⟩
theorem below_setRow' {B : Nat} {a w : World} {g : Nat} (h : Below B a w) (hg : B ≤ g) (cs : Array Value) : Below B a (w.setRow g cs) :=
  h.trans ⟨rfl, rfl, rfl, by simp [World.setRow], fun k hk => setRow_other w g k cs (by omega)⟩

/-- The heap's size behind each step: for 'omega'. -/
theorem size_setRow' (w : World) (g : Nat) (cs : Array Value) : (w.setRow g cs).heap.size = w.heap.size := by simp [World.setRow]

section
variable {P : Program} {ops : Array Oper} {rest : List Oper} {o : Oper} {a : Act} {w : World} {Q : Exit → Act → World → Prop}
/-- A struct or an array read whole. -/
theorem load_blk (hgd : o.guard = none) {ty : TypeId} {x : Operand} (ho : o.op = .load ty x) {g : Nat} (hx : a.eval x = .pointer (some ⟨g, 0, none⟩)) {cs : Array Value} {d : TypeDesc}
    (hu : P.underlying ty = some d) (hd : (match d with | .struct _ | .array _ _ => true | _ => false) = true) (hi : (P.info? ty).map (·.size) = some cs.size) {t : TypeId}
    (hW : Blk w g t cs) (h : wpList P ops Q rest (a.put o.dst (.agg cs)) w) : wpList P ops Q (o :: rest) a w :=
  wpList_load_row hgd ty x ho g hx t cs (0, 0) d hW hu hd hi h
/-- The same, behind a guard that says yes. -/
theorem load_blk_g (hgd : Region.wanted o (yielded ops a.tmps) = true) {ty : TypeId} {x : Operand} (ho : o.op = .load ty x) {g : Nat} (hx : a.eval x = .pointer (some ⟨g, 0, none⟩)) {cs : Array Value} {d : TypeDesc}
    (hu : P.underlying ty = some d) (hd : (match d with | .struct _ | .array _ _ => true | _ => false) = true) (hi : (P.info? ty).map (·.size) = some cs.size) {t : TypeId}
    (hW : Blk w g t cs) (h : wpList P ops Q rest (a.put o.dst (.agg cs)) w) : wpList P ops Q (o :: rest) a w :=
  wpList_step fun _ hK => by rw [if_pos hgd]; exact wp_load_row ty x ho g hx t cs (0, 0) d hW hu hd hi (hK _ _ h)
/-- A struct or an array written whole. -/
theorem store_blk (hgd : o.guard = none) {ty : TypeId} {x y : Operand} (ho : o.op = .store ty x y) {g : Nat} (hx : a.eval x = .pointer (some ⟨g, 0, none⟩)) {cs : Array Value} (hy : a.eval y = .agg cs)
    (hi : (P.info? ty).map (·.size) = some cs.size) (h1 : cs.all (·.oneCell') = true) {t : TypeId} {old : Array Value} (hold : old.size = cs.size)
    (hW : Blk w g t old) (h : wpList P ops Q rest (a.put o.dst undef) (w.setRow g cs)) : wpList P ops Q (o :: rest) a w :=
  wpList_store_row hgd ty x y ho g cs hx hy t old hW hi hold h1 h
/-- The same, the world behind it under a new name. -/
theorem store_blk' (hgd : o.guard = none) {ty : TypeId} {x y : Operand} (ho : o.op = .store ty x y) {g : Nat} (hx : a.eval x = .pointer (some ⟨g, 0, none⟩)) {cs : Array Value} (hy : a.eval y = .agg cs)
    (hi : (P.info? ty).map (·.size) = some cs.size) (h1 : cs.all (·.oneCell') = true) {t : TypeId} {old : Array Value} (hold : old.size = cs.size)
    (hW : Blk w g t old) (h : ∀ w', Blk w' g t cs → w.grownBy w' (some g) → w'.heap.size = w.heap.size → wpList P ops Q rest (a.put o.dst undef) w') : wpList P ops Q (o :: rest) a w :=
  store_blk hgd ho hx hy hi h1 hold hW (h _ (hW.row cs) ⟨rfl, rfl, rfl, by simp [World.setRow], fun k _ hk => setRow_other w g k cs (fun e => hk (by rw [e]))⟩ (by simp [World.setRow]))
/-- A new variable at its type's zero value. -/
theorem alloc_blk (hgd : o.guard = none) {ty : TypeId} (ho : o.op = .alloc ty) {v : Value} (hz : (zeroValue ty).run P w = .ok v w)
    (h : wpList P ops Q rest (a.put o.dst (.pointer (some ⟨w.heap.size, 0, none⟩))) (w.alloc (.cells v.cells ty))) : wpList P ops Q (o :: rest) a w :=
  wpList_plain hgd fun _ hK => by
    unfold Oper.wp execOp
    simp [ho, go_sem, newVar, newRow, newObj, hz]
    exact hK _ _ h
end

def putAt (cs : Array Value) : Nat → List Value → Array Value
  | _, [] => cs
  | o, v :: r => putAt (cs.setIfInBounds o v) (o + 1) r
theorem blk_setCells {g : Nat} {t : TypeId} : ∀ (vs : List Value) (o : Nat) (w : World) (cs : Array Value), Blk w g t cs → Blk (w.setCells g o vs) g t (putAt cs o vs)
  | [], _, _, _, h => h
  | v :: r, o, _, _, h => blk_setCells r (o + 1) _ _ (h.set_ o v)
theorem grown_setCells {g : Nat} : ∀ (vs : List Value) (o : Nat) (w : World), w.grownBy (w.setCells g o vs) (some g) ∧ (w.setCells g o vs).heap.size = w.heap.size
  | [], _, w => ⟨World.grownBy.refl w _, rfl⟩
  | v :: r, o, w => by
    obtain ⟨h, hz⟩ := grown_setCells (g := g) r (o + 1) (w.setCell ⟨g, o, none⟩ v)
    refine ⟨⟨h.os, h.tape, h.output, by rw [World.setCells, hz]; simp, fun k hk hne => ?_⟩, by rw [World.setCells, hz]; simp⟩
    exact (h.block k (by simpa using hk) hne).trans (Below.heap_setCell w ⟨g, o, none⟩ v k (fun e => hne (by rw [e])))
/-- An array written into the middle of a block, the world behind it under a new name. -/
theorem store_mid_blk {P : Program} {ops : Array Oper} {rest : List Oper} {op : Oper} {a : Act} {w : World} {Q : Exit → Act → World → Prop} (hgd : op.guard = none) {ty : TypeId} {x y : Operand} (ho : op.op = .store ty x y) {g o : Nat} (hx : a.eval x = .pointer (some ⟨g, o, none⟩)) {cs : Array Value} (hy : a.eval y = .agg cs)
    (hi : (P.info? ty).map (·.size) = some cs.size) (h1 : cs.all (·.oneCell') = true) {t : TypeId} {old new : Array Value} (hold : o + cs.size ≤ old.size)
    (hW : Blk w g t old) (hnew : putAt old o cs.toList = new) (h : ∀ w', Blk w' g t new → w.grownBy w' (some g) → w'.heap.size = w.heap.size → wpList P ops Q rest (a.put op.dst undef) w') : wpList P ops Q (op :: rest) a w := by
  refine wpList_store_mid hgd ty x y ho g o cs hx hy (fun j hj => ?_) hi h1 (h _ (hnew ▸ blk_setCells cs.toList o w old hW) (grown_setCells _ _ _).1 (grown_setCells _ _ _).2)
  exact ⟨by rw [hW.cell, Array.getElem?_eq_getElem (by omega)]; rfl, hW.frozen _⟩
/-- Two results: a struct and a slot. -/
theorem results_cell_tmp {P : Program} {fn : Func} {p q : Tmp} {ty : TypeId} (h : fn.results = #[.cell p ty, .tmp q]) (tmps : Array Value) (w : World) (g : Nat) (t : TypeId) (cs : Array Value) (d : TypeDesc)
    (hp : tmps.getD p undef = .pointer (some ⟨g, 0, none⟩)) {v : Value} (hv : tmps.getD q undef = v) (hg : Blk w g t cs)
    (hu : P.underlying ty = some d) (hd : (match d with | .struct _ | .array _ _ => true | _ => false) = true) (hi : (P.info? ty).map (·.size) = some cs.size) :
    (results fn tmps).run P w = .ok (.tuple #[.agg cs, v]) w := by
  subst hv
  have hp' : tmps[p]?.getD undef = .pointer (some ⟨g, 0, none⟩) := by simpa using hp
  simp [results, h, hp', asAddr, run_loadVar_row w g t ty cs (0, 0) d hg hu hd hi]

/-- What the call owns, behind a callee that leaves old memory alone. -/
theorem own_below {w w' : World} {base : Nat} {e : TypeId} {size : Nat} {v : Value} {n : Nat} {xs : List Value} (h : w.ownsRow base e size v n xs) (hb : Below w.heap.size w w') : w'.ownsRow base e size v n xs :=
  h.kept (row := none) ⟨hb.os, hb.tape, hb.output, hb.size, fun k hk _ => hb.block k hk⟩ (by cases v.ownBlock <;> simp)
/-- .. and behind a write to a block of another type. -/
theorem own_grown {w w' : World} {base : Nat} {e : TypeId} {size : Nat} {v : Value} {n : Nat} {xs : List Value} (h : w.ownsRow base e size v n xs) {g : Nat} {t : TypeId} {cs : Array Value} (hg : Blk w g t cs) (hne : e ≠ t) (hw : w.grownBy w' (some g)) : w'.ownsRow base e size v n xs := by
  refine h.kept hw ?_
  rcases h.2 with ⟨rfl, _⟩ | ⟨g', cap, cur, rfl, _, hh, _⟩
  · exact .inl rfl
  · right
    intro he
    have : g' = g := by simpa [Value.ownBlock] using he
    subst this
    unfold Blk at hg
    rw [hg] at hh
    injection hh with hh
    injection hh with _ ht
    exact hne ht.symm
/-- An element of it read. -/
theorem own_read {w : World} {base : Nat} {e : TypeId} {v : Value} {n : Nat} {xs : List Value} (h : w.ownsRow base e 1 v n xs) {k : Nat} (hk : k < n) :
    ∃ g cap, v = .slice (some ⟨g, 0, none⟩) n cap ∧ w.cell? ⟨g, k, none⟩ = xs[k]? := by
  rcases h.2 with ⟨rfl, h0⟩ | ⟨g, cap, cur, rfl, _, _, _⟩
  · omega
  · exact ⟨g, cap, rfl, h.cellAt k (by omega)⟩
theorem own_shape {w : World} {base : Nat} {e : TypeId} {v : Value} {n : Nat} {xs : List Value} (h : w.ownsRow base e 1 v n xs) : ∃ A cap, v = .slice A n cap := by
  rcases h.2 with ⟨rfl, h0⟩ | ⟨g, cap, cur, rfl, _, _, _⟩
  · exact ⟨none, 0, by rw [h0]⟩
  · exact ⟨_, _, rfl⟩
/-- A block of another type behind an append to a row. -/
theorem Blk.appended {w w' : World} {g : Nat} {t : TypeId} {cs : Array Value} (hg : Blk w g t cs) {base : Nat} {e : TypeId} {size : Nat} {v : Value} {n : Nat} {xs : List Value} (h : w.ownsRow base e size v n xs) (hne : e ≠ t) (hw : w.grownBy w' v.ownBlock) : Blk w' g t cs := by
  refine hg.grown hw ?_
  rcases h.2 with ⟨rfl, _⟩ | ⟨g', cap, cur, rfl, _, hh, _⟩
  · simp [Value.ownBlock]
  · intro he
    have : g = g' := by simpa [Value.ownBlock] using he
    subst this
    unfold Blk at hg
    rw [hg] at hh
    injection hh with hh
    injection hh with _ ht
    exact hne ht.symm

/-! A region that draws its order, over a class of worlds. -/
/-- A world of the class. -/
structure InCl (Cl : World → Prop) where
  w : World
  ok : Cl w
section
variable {P : Program} {Cl : World → Prop}
theorem wp_region_cls {id : Nat} {Q : Exit → Act → World → Prop} {a : Act} {w : World} {l : List Oper} (hm : P.follows .mixedOrders = true) (hB : Region.lexB .any l.toArray = true) (hC : Cl w.drew)
    (h : wpQuiet P l.toArray (fun w' => ∃ n : InCl Cl, w' = n.w) (fun a' => ∀ w', Cl w' → Q .normal a' w') l a) : (Code.region id l.toArray true).wp P Q a w := by
  refine wp_region_quiet (C := fun w' => ∃ n : InCl Cl, w' = n.w) hm hB ⟨⟨_, hC⟩, rfl⟩ ?_
  have e : (fun a' => ∀ w', (∃ n : InCl Cl, w' = n.w) → Q .normal a' w') = (fun a' => ∀ w', Cl w' → Q .normal a' w') := by
    funext a'
    exact propext ⟨fun h w' hw => h w' ⟨⟨w', hw⟩, rfl⟩, fun h w' ⟨n, hn⟩ => h w' (hn ▸ n.ok)⟩
  rw [e]
  simpa using h
theorem calls_cls {f : FuncId} {args : Array Value} {v : Value} {n : InCl Cl} (h : Calls P f args n.w fun e w' => e = .returned v ∧ Cl w') :
    Calls P f args n.w fun e w' => e = .returned v ∧ ∃ m : InCl Cl, w' = m.w :=
  h.mono fun _ w' ⟨he, hw⟩ => ⟨he, ⟨w', hw⟩, rfl⟩
/-- A struct read whole, in such a region. -/
theorem q_load {ops : Array Oper} {Q : Act → Prop} {a : Act} {o : Oper} {rest : List Oper} (hgd : Region.wanted o (yielded ops a.tmps) = true) {ty : TypeId} {x : Operand} (ho : o.op = .load ty x) {g : Nat} (hx : a.eval x = .pointer (some ⟨g, 0, none⟩)) {cs : Array Value} {d : TypeDesc}
    (hu : P.underlying ty = some d) (hd : (match d with | .struct _ | .array _ _ => true | _ => false) = true) (hi : (P.info? ty).map (·.size) = some cs.size) {t : TypeId}
    (hW : ∀ w, Cl w → Blk w g t cs) (h : wpQuiet P ops (fun w' => ∃ n : InCl Cl, w' = n.w) Q rest (a.put o.dst (.agg cs))) : wpQuiet P ops (fun w' => ∃ n : InCl Cl, w' = n.w) Q (o :: rest) a :=
  wpQuiet_step fun K hK => by
    rw [if_pos hgd]
    refine ⟨_, fun w hw => ?_, hK _ h⟩
    obtain ⟨n, rfl⟩ := hw
    unfold Oper.quietAt execOp
    simp only [ho, hx, Instr.loadAt, Instr.sureAddr, Sem.run_bind, Sem.run_pure, Result.andThen_ok, run_loadVar_row n.w g t ty cs (0, 0) d (hW _ n.ok) hu hd hi]
    exact ⟨rfl, rfl⟩
/-- An operation that gives a value in every world of the class. -/
theorem q_val {ops : Array Oper} {Q : Act → Prop} {a : Act} {o : Oper} {rest : List Oper} (hgd : Region.wanted o (yielded ops a.tmps) = true) {v : Value} (hv : ∀ w, Cl w → (execOp a.eval o).run P w = .ok (.value v) w)
    (h : wpQuiet P ops (fun w' => ∃ n : InCl Cl, w' = n.w) Q rest (a.put o.dst v)) : wpQuiet P ops (fun w' => ∃ n : InCl Cl, w' = n.w) Q (o :: rest) a :=
  wpQuiet_step fun K hK => by
    rw [if_pos hgd]
    refine ⟨v, fun w hw => ?_, hK _ h⟩
    obtain ⟨n, rfl⟩ := hw
    unfold Oper.quietAt
    rw [hv _ n.ok]
    exact ⟨rfl, rfl⟩
end
/-! Gates: the walk stands at the operation that writes a given slot, or at a store. -/
section
variable {P : Program} {ops : Array Oper} {rest : List Oper} {op : Op} {tp : TypeId} {ps : String} {af : Array Edge} {gd : Option (Nat × Bool)} {a : Act} {w : World} {Q : Exit → Act → World → Prop}
theorem at_dst (n : Tmp) (h : wpList P ops Q (⟨some n, op, tp, ps, af, gd⟩ :: rest) a w) : wpList P ops Q (⟨some n, op, tp, ps, af, gd⟩ :: rest) a w := h
theorem at_store (ty : TypeId) (x : Tmp) {y : Operand} (h : wpList P ops Q (⟨none, .store ty (.tmp x) y, tp, ps, af, gd⟩ :: rest) a w) : wpList P ops Q (⟨none, .store ty (.tmp x) y, tp, ps, af, gd⟩ :: rest) a w := h
theorem q_at {C : World → Prop} {Q : Act → Prop} (n : Tmp) (h : wpQuiet P ops C Q (⟨some n, op, tp, ps, af, gd⟩ :: rest) a) : wpQuiet P ops C Q (⟨some n, op, tp, ps, af, gd⟩ :: rest) a := h
/-- A struct read whole, behind a guard that says yes or without one. -/
theorem load_at {o : Oper} {ty : TypeId} {x : Operand} (ho : o.op = .load ty x) (hgd : Region.wanted o (yielded ops a.tmps) = true) {g : Nat} (hx : a.eval x = .pointer (some ⟨g, 0, none⟩)) {cs : Array Value} {d : TypeDesc}
    (hu : P.underlying ty = some d) (hd : (match d with | .struct _ | .array _ _ => true | _ => false) = true) (hi : (P.info? ty).map (·.size) = some cs.size) {t : TypeId}
    (hW : Blk w g t cs) (h : wpList P ops Q rest (a.put o.dst (.agg cs)) w) : wpList P ops Q (o :: rest) a w :=
  load_blk_g hgd ho hx hu hd hi hW h
end
end Go.Proofs.Ytlkpnecionpnhaa
