/- AskTells: trace numbers, codes, which questions are right, which the same, and new ones, are as the document says. -/
import Derived.Test.YtnmbcdphjmcomaaAskEnds
import Derived.Test.YtnmbcdphjmcomaaN
import Derived.Test.YtnmbcdphjmcomaaO
namespace Go.Proofs.Ytnmbcdphjmcomaa
open Go.ChangeShapes Go.WideShapes Go.ChangeAt Go.RowKit
namespace askTells
open askTicks askEnds

/-- What stands in the law's regions. -/
structure Tw (w0 : World) (ga : Nat) (ca : Array Value) (gb : Nat) (cb : Array Value) (gx gy : Nat) (cx : Array Value) (A : Option Addr) (xs : List Int) (A' : Option Addr) (ys : List Int) (X : Option Addr) (ws : List Int) (ww : World) : Prop where
  a : Blk ww ga 24 ca
  b : Blk ww gb 24 cb
  x : Blk ww gx 24 cx
  y : Blk ww gy 24 cx
  xs : Rb ww A xs
  ys : Rb ww A' ys
  ws : Rb ww X ws
  below : Below w0.heap.size w0 ww

section
variable {w0 : World} {ga gb gx gy : Nat} {ca cb cx : Array Value} {A A' X : Option Addr} {xs ys ws : List Int}
theorem Tw.step {x x' : World} (h : Tw w0 ga ca gb cb gx gy cx A xs A' ys X ws x) (hb : Below x.heap.size x x') : Tw w0 ga ca gb cb gx gy cx A xs A' ys X ws x' :=
  ⟨h.a.belowSelf hb, h.b.belowSelf hb, h.x.belowSelf hb, h.y.belowSelf hb, h.xs.below hb, h.ys.below hb, h.ws.below hb, h.below.trans (hb.mono h.below.size)⟩
theorem callT {f : FuncId} {args : Array Value} {v : Value} {n : InCl (Tw w0 ga ca gb cb gx gy cx A xs A' ys X ws)}
    (h : Calls Try.prog f args n.w fun e w' => e = .returned v ∧ Below n.w.heap.size n.w w') : Calls Try.prog f args n.w fun e w' => e = .returned v ∧ ∃ m : InCl (Tw w0 ga ca gb cb gx gy cx A xs A' ys X ws), w' = m.w :=
  calls_cls (h.mono fun _ _ ⟨he, hb⟩ => ⟨he, n.ok.step hb⟩)
theorem callS {f : FuncId} {args : Array Value} {v : Value} {n : InCl (Tw w0 ga ca gb cb gx gy cx A xs A' ys X ws)}
    (h : Calls Try.prog f args n.w fun e w' => e = .returned v ∧ w' = n.w) : Calls Try.prog f args n.w fun e w' => e = .returned v ∧ ∃ m : InCl (Tw w0 ga ca gb cb gx gy cx A xs A' ys X ws), w' = m.w :=
  calls_cls (h.mono fun _ _ ⟨he, hb⟩ => ⟨he, hb ▸ n.ok⟩)
end
theorem q_at {P : Program} {C : World → Prop} {Q : Act → Prop} {ops : Array Oper} {a : Act} {rest : List Oper} {op : Op} {tp : TypeId} {ps : String} {af : Array Edge} {gd : Option (Nat × Bool)} (n : Tmp)
    (h : wpQuiet P ops C Q (⟨some n, op, tp, ps, af, gd⟩ :: rest) a) : wpQuiet P ops C Q (⟨some n, op, tp, ps, af, gd⟩ :: rest) a := h
theorem rsame_self (c s d l : Int) (A : Option Addr) (xs : List Int) (cp : Nat) (w : World) (hx : Rb w A xs) :
    Calls Try.prog 12 #[askV c s d l A xs.length cp, askV c s d l A xs.length cp] w fun e w' => e = .returned (.bool true) ∧ Below w.heap.size w w' := by
  have h := rsameA_any c s d l A xs cp c s d l A xs cp w hx hx
  rwa [show sameB c s d l xs c s d l xs = true by unfold sameB; simp [sameL_self]] at h

set_option maxRecDepth 100000 in
set_option maxHeartbeats 8000000 in
theorem walk_a (c s u l : Int) (A : Option Addr) (xs : List Int) (cp : Nat) (c' s' u' l' : Int) (A' : Option Addr) (ys : List Int) (cp' : Nat) (code stan : Int) (B : Option Addr) (zs : List Int) (cq : Nat) (w : World) (hx : Rb w A xs) (hy : Rb w A' ys) (hz : Rb w B zs) (h1 : 1000 < xs.length) :
    Calls Try.prog 3 #[.agg #[.int .i64 c, .int .i64 s, .int .i64 u, .int .i64 l, .slice A xs.length cp, .int .i64 c', .int .i64 s', .int .i64 u', .int .i64 l', .slice A' ys.length cp', .int .i64 code, .int .i64 stan, .slice B zs.length cq]] w fun e w' => e = .returned (.bool true) ∧ Below w.heap.size w w' := by
  have HX0 := Lib.hid (((hx.alloc (.cells #[.int .i64 c, .int .i64 s, .int .i64 u, .int .i64 l, .slice A xs.length cp, .int .i64 c', .int .i64 s', .int .i64 u', .int .i64 l', .slice A' ys.length cp', .int .i64 code, .int .i64 stan, .slice B zs.length cq] 26)).alloc (.cells (askA c s u l A xs.length cp) 24)).alloc (.cells (askA c' s' u' l' A' ys.length cp') 24))
  have HY0 := Lib.hid (((hy.alloc (.cells #[.int .i64 c, .int .i64 s, .int .i64 u, .int .i64 l, .slice A xs.length cp, .int .i64 c', .int .i64 s', .int .i64 u', .int .i64 l', .slice A' ys.length cp', .int .i64 code, .int .i64 stan, .slice B zs.length cq] 26)).alloc (.cells (askA c s u l A xs.length cp) 24)).alloc (.cells (askA c' s' u' l' A' ys.length cp') 24))
  have HZ0 := Lib.hid (((hz.alloc (.cells #[.int .i64 c, .int .i64 s, .int .i64 u, .int .i64 l, .slice A xs.length cp, .int .i64 c', .int .i64 s', .int .i64 u', .int .i64 l', .slice A' ys.length cp', .int .i64 code, .int .i64 stan, .slice B zs.length cq] 26)).alloc (.cells (askA c s u l A xs.length cp) 24)).alloc (.cells (askA c' s' u' l' A' ys.length cp') 24))
  have HB0 : Hid (Below w.heap.size w (((w.alloc (.cells #[.int .i64 c, .int .i64 s, .int .i64 u, .int .i64 l, .slice A xs.length cp, .int .i64 c', .int .i64 s', .int .i64 u', .int .i64 l', .slice A' ys.length cp', .int .i64 code, .int .i64 stan, .slice B zs.length cq] 26)).alloc (.cells (askA c s u l A xs.length cp) 24)).alloc (.cells (askA c' s' u' l' A' ys.length cp') 24))) := Lib.hid ((((Below.refl w.heap.size w).alloc (Nat.le_refl _) _).alloc (by simp) _).alloc (by simp; omega) _)
  have k0 := Blk.new w 26 #[.int .i64 c, .int .i64 s, .int .i64 u, .int .i64 l, .slice A xs.length cp, .int .i64 c', .int .i64 s', .int .i64 u', .int .i64 l', .slice A' ys.length cp', .int .i64 code, .int .i64 stan, .slice B zs.length cq]
  have r0 := Lib.hid (World.rangeAt_of_block k0 0 5)
  have r5 := Lib.hid (World.rangeAt_of_block (k0.alloc (.cells (askA c s u l A xs.length cp) 24)) 5 5)
  have k2 := (k0.alloc (.cells (askA c s u l A xs.length cp) 24)).alloc (.cells (askA c' s' u' l' A' ys.length cp') 24)
  have q10 : (((w.alloc (.cells #[.int .i64 c, .int .i64 s, .int .i64 u, .int .i64 l, .slice A xs.length cp, .int .i64 c', .int .i64 s', .int .i64 u', .int .i64 l', .slice A' ys.length cp', .int .i64 code, .int .i64 stan, .slice B zs.length cq] 26)).alloc (.cells (askA c s u l A xs.length cp) 24)).alloc (.cells (askA c' s' u' l' A' ys.length cp') 24)).cell? ⟨w.heap.size, 10, none⟩ = some (.int .i64 code) := k2.cell 10
  have q11 : (((w.alloc (.cells #[.int .i64 c, .int .i64 s, .int .i64 u, .int .i64 l, .slice A xs.length cp, .int .i64 c', .int .i64 s', .int .i64 u', .int .i64 l', .slice A' ys.length cp', .int .i64 code, .int .i64 stan, .slice B zs.length cq] 26)).alloc (.cells (askA c s u l A xs.length cp) 24)).alloc (.cells (askA c' s' u' l' A' ys.length cp') 24)).cell? ⟨w.heap.size, 11, none⟩ = some (.int .i64 stan) := k2.cell 11
  have q12 : (((w.alloc (.cells #[.int .i64 c, .int .i64 s, .int .i64 u, .int .i64 l, .slice A xs.length cp, .int .i64 c', .int .i64 s', .int .i64 u', .int .i64 l', .slice A' ys.length cp', .int .i64 code, .int .i64 stan, .slice B zs.length cq] 26)).alloc (.cells (askA c s u l A xs.length cp) 24)).alloc (.cells (askA c' s' u' l' A' ys.length cp') 24)).cell? ⟨w.heap.size, 12, none⟩ = some (.slice B zs.length cq) := k2.cell 12
  have a0 : Blk (((w.alloc (.cells #[.int .i64 c, .int .i64 s, .int .i64 u, .int .i64 l, .slice A xs.length cp, .int .i64 c', .int .i64 s', .int .i64 u', .int .i64 l', .slice A' ys.length cp', .int .i64 code, .int .i64 stan, .slice B zs.length cq] 26)).alloc (.cells (askA c s u l A xs.length cp) 24)).alloc (.cells (askA c' s' u' l' A' ys.length cp') 24)) (w.heap.size + 1) 24 (askA c s u l A xs.length cp) := by have := (Blk.new (w.alloc (.cells #[.int .i64 c, .int .i64 s, .int .i64 u, .int .i64 l, .slice A xs.length cp, .int .i64 c', .int .i64 s', .int .i64 u', .int .i64 l', .slice A' ys.length cp', .int .i64 code, .int .i64 stan, .slice B zs.length cq] 26)) 24 (askA c s u l A xs.length cp)).alloc (.cells (askA c' s' u' l' A' ys.length cp') 24); simpa using this
  have b0 : Blk (((w.alloc (.cells #[.int .i64 c, .int .i64 s, .int .i64 u, .int .i64 l, .slice A xs.length cp, .int .i64 c', .int .i64 s', .int .i64 u', .int .i64 l', .slice A' ys.length cp', .int .i64 code, .int .i64 stan, .slice B zs.length cq] 26)).alloc (.cells (askA c s u l A xs.length cp) 24)).alloc (.cells (askA c' s' u' l' A' ys.length cp') 24)) (w.heap.size + 2) 24 (askA c' s' u' l' A' ys.length cp') := by have := Blk.new ((w.alloc (.cells #[.int .i64 c, .int .i64 s, .int .i64 u, .int .i64 l, .slice A xs.length cp, .int .i64 c', .int .i64 s', .int .i64 u', .int .i64 l', .slice A' ys.length cp', .int .i64 code, .int .i64 stan, .slice B zs.length cq] 26)).alloc (.cells (askA c s u l A xs.length cp) 24)) 24 (askA c' s' u' l' A' ys.length cp'); simpa using this
  clear k0 k2
  have d1 : decide (1000 < xs.length) = true := decide_eq_true (by omega)
  have e1 : decide ((1000 : Int) < xs.length) = true := decide_eq_true (by omega)
  clear hx hy hz
  go_enter Try.func3, Try.ntmps3
  go_wp2_with (first | ((with_reducible refine at_dst 15 ?_); refine wpList_load_mid rfl 24 _ rfl w.heap.size 0 rfl (askA c s u l A xs.length cp).toList _ r0.out Try.underlying24 rfl (info24 c s u l A xs.length cp) ?_) | ((with_reducible refine at_dst 17 ?_); refine wpList_load_mid rfl 24 _ rfl w.heap.size 5 rfl (askA c' s' u' l' A' ys.length cp').toList _ r5.out Try.underlying24 rfl (info24 c' s' u' l' A' ys.length cp') ?_) | fail)
  refine (shown_ok _).mono ?_
  rintro e w1 ⟨rfl, hb⟩
  have HX1 := Lib.hid (HX0.out.below hb)
  have HY1 := Lib.hid (HY0.out.below hb)
  have HZ1 := Lib.hid (HZ0.out.below hb)
  have HB1 := Lib.hid (HB0.out.trans (hb.mono HB0.out.size))
  have a1 := a0.belowSelf hb
  have b1 := b0.belowSelf hb
  clear hb HX0 HB0 HY0 HZ0 a0 b0
  have p1 : w1.cell? ⟨w.heap.size + 1, 4, none⟩ = some (.slice A xs.length cp) := a1.cell 4
  have p2 : w1.cell? ⟨w.heap.size + 2, 4, none⟩ = some (.slice A' ys.length cp') := b1.cell 4
  go_wp2_with fail
  go_ret
  exact ⟨rfl, HB1.out⟩

set_option maxRecDepth 100000 in
set_option maxHeartbeats 8000000 in
theorem walk_b (c s u l : Int) (A : Option Addr) (xs : List Int) (cp : Nat) (c' s' u' l' : Int) (A' : Option Addr) (ys : List Int) (cp' : Nat) (code stan : Int) (B : Option Addr) (zs : List Int) (cq : Nat) (w : World) (hx : Rb w A xs) (hy : Rb w A' ys) (hz : Rb w B zs) (h1 : xs.length ≤ 1000) (h2 : 1000 < ys.length) :
    Calls Try.prog 3 #[.agg #[.int .i64 c, .int .i64 s, .int .i64 u, .int .i64 l, .slice A xs.length cp, .int .i64 c', .int .i64 s', .int .i64 u', .int .i64 l', .slice A' ys.length cp', .int .i64 code, .int .i64 stan, .slice B zs.length cq]] w fun e w' => e = .returned (.bool true) ∧ Below w.heap.size w w' := by
  have HX0 := Lib.hid (((hx.alloc (.cells #[.int .i64 c, .int .i64 s, .int .i64 u, .int .i64 l, .slice A xs.length cp, .int .i64 c', .int .i64 s', .int .i64 u', .int .i64 l', .slice A' ys.length cp', .int .i64 code, .int .i64 stan, .slice B zs.length cq] 26)).alloc (.cells (askA c s u l A xs.length cp) 24)).alloc (.cells (askA c' s' u' l' A' ys.length cp') 24))
  have HY0 := Lib.hid (((hy.alloc (.cells #[.int .i64 c, .int .i64 s, .int .i64 u, .int .i64 l, .slice A xs.length cp, .int .i64 c', .int .i64 s', .int .i64 u', .int .i64 l', .slice A' ys.length cp', .int .i64 code, .int .i64 stan, .slice B zs.length cq] 26)).alloc (.cells (askA c s u l A xs.length cp) 24)).alloc (.cells (askA c' s' u' l' A' ys.length cp') 24))
  have HZ0 := Lib.hid (((hz.alloc (.cells #[.int .i64 c, .int .i64 s, .int .i64 u, .int .i64 l, .slice A xs.length cp, .int .i64 c', .int .i64 s', .int .i64 u', .int .i64 l', .slice A' ys.length cp', .int .i64 code, .int .i64 stan, .slice B zs.length cq] 26)).alloc (.cells (askA c s u l A xs.length cp) 24)).alloc (.cells (askA c' s' u' l' A' ys.length cp') 24))
  have HB0 : Hid (Below w.heap.size w (((w.alloc (.cells #[.int .i64 c, .int .i64 s, .int .i64 u, .int .i64 l, .slice A xs.length cp, .int .i64 c', .int .i64 s', .int .i64 u', .int .i64 l', .slice A' ys.length cp', .int .i64 code, .int .i64 stan, .slice B zs.length cq] 26)).alloc (.cells (askA c s u l A xs.length cp) 24)).alloc (.cells (askA c' s' u' l' A' ys.length cp') 24))) := Lib.hid ((((Below.refl w.heap.size w).alloc (Nat.le_refl _) _).alloc (by simp) _).alloc (by simp; omega) _)
  have k0 := Blk.new w 26 #[.int .i64 c, .int .i64 s, .int .i64 u, .int .i64 l, .slice A xs.length cp, .int .i64 c', .int .i64 s', .int .i64 u', .int .i64 l', .slice A' ys.length cp', .int .i64 code, .int .i64 stan, .slice B zs.length cq]
  have r0 := Lib.hid (World.rangeAt_of_block k0 0 5)
  have r5 := Lib.hid (World.rangeAt_of_block (k0.alloc (.cells (askA c s u l A xs.length cp) 24)) 5 5)
  have k2 := (k0.alloc (.cells (askA c s u l A xs.length cp) 24)).alloc (.cells (askA c' s' u' l' A' ys.length cp') 24)
  have q10 : (((w.alloc (.cells #[.int .i64 c, .int .i64 s, .int .i64 u, .int .i64 l, .slice A xs.length cp, .int .i64 c', .int .i64 s', .int .i64 u', .int .i64 l', .slice A' ys.length cp', .int .i64 code, .int .i64 stan, .slice B zs.length cq] 26)).alloc (.cells (askA c s u l A xs.length cp) 24)).alloc (.cells (askA c' s' u' l' A' ys.length cp') 24)).cell? ⟨w.heap.size, 10, none⟩ = some (.int .i64 code) := k2.cell 10
  have q11 : (((w.alloc (.cells #[.int .i64 c, .int .i64 s, .int .i64 u, .int .i64 l, .slice A xs.length cp, .int .i64 c', .int .i64 s', .int .i64 u', .int .i64 l', .slice A' ys.length cp', .int .i64 code, .int .i64 stan, .slice B zs.length cq] 26)).alloc (.cells (askA c s u l A xs.length cp) 24)).alloc (.cells (askA c' s' u' l' A' ys.length cp') 24)).cell? ⟨w.heap.size, 11, none⟩ = some (.int .i64 stan) := k2.cell 11
  have q12 : (((w.alloc (.cells #[.int .i64 c, .int .i64 s, .int .i64 u, .int .i64 l, .slice A xs.length cp, .int .i64 c', .int .i64 s', .int .i64 u', .int .i64 l', .slice A' ys.length cp', .int .i64 code, .int .i64 stan, .slice B zs.length cq] 26)).alloc (.cells (askA c s u l A xs.length cp) 24)).alloc (.cells (askA c' s' u' l' A' ys.length cp') 24)).cell? ⟨w.heap.size, 12, none⟩ = some (.slice B zs.length cq) := k2.cell 12
  have a0 : Blk (((w.alloc (.cells #[.int .i64 c, .int .i64 s, .int .i64 u, .int .i64 l, .slice A xs.length cp, .int .i64 c', .int .i64 s', .int .i64 u', .int .i64 l', .slice A' ys.length cp', .int .i64 code, .int .i64 stan, .slice B zs.length cq] 26)).alloc (.cells (askA c s u l A xs.length cp) 24)).alloc (.cells (askA c' s' u' l' A' ys.length cp') 24)) (w.heap.size + 1) 24 (askA c s u l A xs.length cp) := by have := (Blk.new (w.alloc (.cells #[.int .i64 c, .int .i64 s, .int .i64 u, .int .i64 l, .slice A xs.length cp, .int .i64 c', .int .i64 s', .int .i64 u', .int .i64 l', .slice A' ys.length cp', .int .i64 code, .int .i64 stan, .slice B zs.length cq] 26)) 24 (askA c s u l A xs.length cp)).alloc (.cells (askA c' s' u' l' A' ys.length cp') 24); simpa using this
  have b0 : Blk (((w.alloc (.cells #[.int .i64 c, .int .i64 s, .int .i64 u, .int .i64 l, .slice A xs.length cp, .int .i64 c', .int .i64 s', .int .i64 u', .int .i64 l', .slice A' ys.length cp', .int .i64 code, .int .i64 stan, .slice B zs.length cq] 26)).alloc (.cells (askA c s u l A xs.length cp) 24)).alloc (.cells (askA c' s' u' l' A' ys.length cp') 24)) (w.heap.size + 2) 24 (askA c' s' u' l' A' ys.length cp') := by have := Blk.new ((w.alloc (.cells #[.int .i64 c, .int .i64 s, .int .i64 u, .int .i64 l, .slice A xs.length cp, .int .i64 c', .int .i64 s', .int .i64 u', .int .i64 l', .slice A' ys.length cp', .int .i64 code, .int .i64 stan, .slice B zs.length cq] 26)).alloc (.cells (askA c s u l A xs.length cp) 24)) 24 (askA c' s' u' l' A' ys.length cp'); simpa using this
  clear k0 k2
  have d1 : decide (1000 < xs.length) = false := decide_eq_false (by omega)
  have e1 : decide ((1000 : Int) < xs.length) = false := decide_eq_false (by omega)
  have d2 : decide (1000 < ys.length) = true := decide_eq_true (by omega)
  have e2 : decide ((1000 : Int) < ys.length) = true := decide_eq_true (by omega)
  clear hx hy hz
  go_enter Try.func3, Try.ntmps3
  go_wp2_with (first | ((with_reducible refine at_dst 15 ?_); refine wpList_load_mid rfl 24 _ rfl w.heap.size 0 rfl (askA c s u l A xs.length cp).toList _ r0.out Try.underlying24 rfl (info24 c s u l A xs.length cp) ?_) | ((with_reducible refine at_dst 17 ?_); refine wpList_load_mid rfl 24 _ rfl w.heap.size 5 rfl (askA c' s' u' l' A' ys.length cp').toList _ r5.out Try.underlying24 rfl (info24 c' s' u' l' A' ys.length cp') ?_) | fail)
  refine (shown_ok _).mono ?_
  rintro e w1 ⟨rfl, hb⟩
  have HX1 := Lib.hid (HX0.out.below hb)
  have HY1 := Lib.hid (HY0.out.below hb)
  have HZ1 := Lib.hid (HZ0.out.below hb)
  have HB1 := Lib.hid (HB0.out.trans (hb.mono HB0.out.size))
  have a1 := a0.belowSelf hb
  have b1 := b0.belowSelf hb
  clear hb HX0 HB0 HY0 HZ0 a0 b0
  have p1 : w1.cell? ⟨w.heap.size + 1, 4, none⟩ = some (.slice A xs.length cp) := a1.cell 4
  have p2 : w1.cell? ⟨w.heap.size + 2, 4, none⟩ = some (.slice A' ys.length cp') := b1.cell 4
  go_wp2_with fail
  go_ret
  exact ⟨rfl, HB1.out⟩

set_option maxRecDepth 100000 in
set_option maxHeartbeats 8000000 in
theorem walk_c (c s u l : Int) (A : Option Addr) (xs : List Int) (cp : Nat) (c' s' u' l' : Int) (A' : Option Addr) (ys : List Int) (cp' : Nat) (code stan : Int) (B : Option Addr) (zs : List Int) (cq : Nat) (w : World) (hx : Rb w A xs) (hy : Rb w A' ys) (hz : Rb w B zs) (h1 : xs.length ≤ 1000) (h2 : ys.length ≤ 1000) (h3 : 1000 < zs.length) :
    Calls Try.prog 3 #[.agg #[.int .i64 c, .int .i64 s, .int .i64 u, .int .i64 l, .slice A xs.length cp, .int .i64 c', .int .i64 s', .int .i64 u', .int .i64 l', .slice A' ys.length cp', .int .i64 code, .int .i64 stan, .slice B zs.length cq]] w fun e w' => e = .returned (.bool true) ∧ Below w.heap.size w w' := by
  have HX0 := Lib.hid (((hx.alloc (.cells #[.int .i64 c, .int .i64 s, .int .i64 u, .int .i64 l, .slice A xs.length cp, .int .i64 c', .int .i64 s', .int .i64 u', .int .i64 l', .slice A' ys.length cp', .int .i64 code, .int .i64 stan, .slice B zs.length cq] 26)).alloc (.cells (askA c s u l A xs.length cp) 24)).alloc (.cells (askA c' s' u' l' A' ys.length cp') 24))
  have HY0 := Lib.hid (((hy.alloc (.cells #[.int .i64 c, .int .i64 s, .int .i64 u, .int .i64 l, .slice A xs.length cp, .int .i64 c', .int .i64 s', .int .i64 u', .int .i64 l', .slice A' ys.length cp', .int .i64 code, .int .i64 stan, .slice B zs.length cq] 26)).alloc (.cells (askA c s u l A xs.length cp) 24)).alloc (.cells (askA c' s' u' l' A' ys.length cp') 24))
  have HZ0 := Lib.hid (((hz.alloc (.cells #[.int .i64 c, .int .i64 s, .int .i64 u, .int .i64 l, .slice A xs.length cp, .int .i64 c', .int .i64 s', .int .i64 u', .int .i64 l', .slice A' ys.length cp', .int .i64 code, .int .i64 stan, .slice B zs.length cq] 26)).alloc (.cells (askA c s u l A xs.length cp) 24)).alloc (.cells (askA c' s' u' l' A' ys.length cp') 24))
  have HB0 : Hid (Below w.heap.size w (((w.alloc (.cells #[.int .i64 c, .int .i64 s, .int .i64 u, .int .i64 l, .slice A xs.length cp, .int .i64 c', .int .i64 s', .int .i64 u', .int .i64 l', .slice A' ys.length cp', .int .i64 code, .int .i64 stan, .slice B zs.length cq] 26)).alloc (.cells (askA c s u l A xs.length cp) 24)).alloc (.cells (askA c' s' u' l' A' ys.length cp') 24))) := Lib.hid ((((Below.refl w.heap.size w).alloc (Nat.le_refl _) _).alloc (by simp) _).alloc (by simp; omega) _)
  have k0 := Blk.new w 26 #[.int .i64 c, .int .i64 s, .int .i64 u, .int .i64 l, .slice A xs.length cp, .int .i64 c', .int .i64 s', .int .i64 u', .int .i64 l', .slice A' ys.length cp', .int .i64 code, .int .i64 stan, .slice B zs.length cq]
  have r0 := Lib.hid (World.rangeAt_of_block k0 0 5)
  have r5 := Lib.hid (World.rangeAt_of_block (k0.alloc (.cells (askA c s u l A xs.length cp) 24)) 5 5)
  have k2 := (k0.alloc (.cells (askA c s u l A xs.length cp) 24)).alloc (.cells (askA c' s' u' l' A' ys.length cp') 24)
  have q10 : (((w.alloc (.cells #[.int .i64 c, .int .i64 s, .int .i64 u, .int .i64 l, .slice A xs.length cp, .int .i64 c', .int .i64 s', .int .i64 u', .int .i64 l', .slice A' ys.length cp', .int .i64 code, .int .i64 stan, .slice B zs.length cq] 26)).alloc (.cells (askA c s u l A xs.length cp) 24)).alloc (.cells (askA c' s' u' l' A' ys.length cp') 24)).cell? ⟨w.heap.size, 10, none⟩ = some (.int .i64 code) := k2.cell 10
  have q11 : (((w.alloc (.cells #[.int .i64 c, .int .i64 s, .int .i64 u, .int .i64 l, .slice A xs.length cp, .int .i64 c', .int .i64 s', .int .i64 u', .int .i64 l', .slice A' ys.length cp', .int .i64 code, .int .i64 stan, .slice B zs.length cq] 26)).alloc (.cells (askA c s u l A xs.length cp) 24)).alloc (.cells (askA c' s' u' l' A' ys.length cp') 24)).cell? ⟨w.heap.size, 11, none⟩ = some (.int .i64 stan) := k2.cell 11
  have q12 : (((w.alloc (.cells #[.int .i64 c, .int .i64 s, .int .i64 u, .int .i64 l, .slice A xs.length cp, .int .i64 c', .int .i64 s', .int .i64 u', .int .i64 l', .slice A' ys.length cp', .int .i64 code, .int .i64 stan, .slice B zs.length cq] 26)).alloc (.cells (askA c s u l A xs.length cp) 24)).alloc (.cells (askA c' s' u' l' A' ys.length cp') 24)).cell? ⟨w.heap.size, 12, none⟩ = some (.slice B zs.length cq) := k2.cell 12
  have a0 : Blk (((w.alloc (.cells #[.int .i64 c, .int .i64 s, .int .i64 u, .int .i64 l, .slice A xs.length cp, .int .i64 c', .int .i64 s', .int .i64 u', .int .i64 l', .slice A' ys.length cp', .int .i64 code, .int .i64 stan, .slice B zs.length cq] 26)).alloc (.cells (askA c s u l A xs.length cp) 24)).alloc (.cells (askA c' s' u' l' A' ys.length cp') 24)) (w.heap.size + 1) 24 (askA c s u l A xs.length cp) := by have := (Blk.new (w.alloc (.cells #[.int .i64 c, .int .i64 s, .int .i64 u, .int .i64 l, .slice A xs.length cp, .int .i64 c', .int .i64 s', .int .i64 u', .int .i64 l', .slice A' ys.length cp', .int .i64 code, .int .i64 stan, .slice B zs.length cq] 26)) 24 (askA c s u l A xs.length cp)).alloc (.cells (askA c' s' u' l' A' ys.length cp') 24); simpa using this
  have b0 : Blk (((w.alloc (.cells #[.int .i64 c, .int .i64 s, .int .i64 u, .int .i64 l, .slice A xs.length cp, .int .i64 c', .int .i64 s', .int .i64 u', .int .i64 l', .slice A' ys.length cp', .int .i64 code, .int .i64 stan, .slice B zs.length cq] 26)).alloc (.cells (askA c s u l A xs.length cp) 24)).alloc (.cells (askA c' s' u' l' A' ys.length cp') 24)) (w.heap.size + 2) 24 (askA c' s' u' l' A' ys.length cp') := by have := Blk.new ((w.alloc (.cells #[.int .i64 c, .int .i64 s, .int .i64 u, .int .i64 l, .slice A xs.length cp, .int .i64 c', .int .i64 s', .int .i64 u', .int .i64 l', .slice A' ys.length cp', .int .i64 code, .int .i64 stan, .slice B zs.length cq] 26)).alloc (.cells (askA c s u l A xs.length cp) 24)) 24 (askA c' s' u' l' A' ys.length cp'); simpa using this
  clear k0 k2
  have d1 : decide (1000 < xs.length) = false := decide_eq_false (by omega)
  have e1 : decide ((1000 : Int) < xs.length) = false := decide_eq_false (by omega)
  have d2 : decide (1000 < ys.length) = false := decide_eq_false (by omega)
  have e2 : decide ((1000 : Int) < ys.length) = false := decide_eq_false (by omega)
  have d3 : decide (1000 < zs.length) = true := decide_eq_true (by omega)
  have e3 : decide ((1000 : Int) < zs.length) = true := decide_eq_true (by omega)
  clear hx hy hz
  go_enter Try.func3, Try.ntmps3
  go_wp2_with (first | ((with_reducible refine at_dst 15 ?_); refine wpList_load_mid rfl 24 _ rfl w.heap.size 0 rfl (askA c s u l A xs.length cp).toList _ r0.out Try.underlying24 rfl (info24 c s u l A xs.length cp) ?_) | ((with_reducible refine at_dst 17 ?_); refine wpList_load_mid rfl 24 _ rfl w.heap.size 5 rfl (askA c' s' u' l' A' ys.length cp').toList _ r5.out Try.underlying24 rfl (info24 c' s' u' l' A' ys.length cp') ?_) | fail)
  refine (shown_ok _).mono ?_
  rintro e w1 ⟨rfl, hb⟩
  have HX1 := Lib.hid (HX0.out.below hb)
  have HY1 := Lib.hid (HY0.out.below hb)
  have HZ1 := Lib.hid (HZ0.out.below hb)
  have HB1 := Lib.hid (HB0.out.trans (hb.mono HB0.out.size))
  have a1 := a0.belowSelf hb
  have b1 := b0.belowSelf hb
  clear hb HX0 HB0 HY0 HZ0 a0 b0
  have p1 : w1.cell? ⟨w.heap.size + 1, 4, none⟩ = some (.slice A xs.length cp) := a1.cell 4
  have p2 : w1.cell? ⟨w.heap.size + 2, 4, none⟩ = some (.slice A' ys.length cp') := b1.cell 4
  go_wp2_with fail
  go_ret
  exact ⟨rfl, HB1.out⟩

set_option maxRecDepth 100000 in
set_option maxHeartbeats 8000000 in
theorem walk_true (c s u l : Int) (A : Option Addr) (xs : List Int) (cp : Nat) (c' s' u' l' : Int) (A' : Option Addr) (ys : List Int) (cp' : Nat) (code stan : Int) (B : Option Addr) (zs : List Int) (cq : Nat) (w : World) (hx : Rb w A xs) (hy : Rb w A' ys) (hz : Rb w B zs) (h1 : xs.length ≤ 1000) (h2 : ys.length ≤ 1000) (h3 : zs.length ≤ 1000)
    (m1 m2 m3 m4 : Int) (X : Option Addr) (ws : List Int) (xc : Nat) (er : Int) (hX : ∀ W, Rb W B zs → Rb W X ws)
    (T : ∀ W, Calls Try.prog 9 #[.int .i64 code, .int .i64 stan, .slice B zs.length cq] W fun e w' => e = .returned (.tuple #[askV m1 m2 m3 m4 X ws.length xc, .int .i64 er]) ∧ Below W.heap.size W w')
    (R : ∀ W, Calls Try.prog 10 #[.int .i64 code, .int .i64 stan, .slice B zs.length cq] W fun e w' => e = .returned (.tuple #[askV m1 m2 m3 m4 X ws.length xc, .int .i64 er]) ∧ Below W.heap.size W w')
    (hr : rightB c s u l xs.length = true) :
    Calls Try.prog 3 #[.agg #[.int .i64 c, .int .i64 s, .int .i64 u, .int .i64 l, .slice A xs.length cp, .int .i64 c', .int .i64 s', .int .i64 u', .int .i64 l', .slice A' ys.length cp', .int .i64 code, .int .i64 stan, .slice B zs.length cq]] w fun e w' => e = .returned (.bool true) ∧ Below w.heap.size w w' := by
  have HX0 := Lib.hid (((hx.alloc (.cells #[.int .i64 c, .int .i64 s, .int .i64 u, .int .i64 l, .slice A xs.length cp, .int .i64 c', .int .i64 s', .int .i64 u', .int .i64 l', .slice A' ys.length cp', .int .i64 code, .int .i64 stan, .slice B zs.length cq] 26)).alloc (.cells (askA c s u l A xs.length cp) 24)).alloc (.cells (askA c' s' u' l' A' ys.length cp') 24))
  have HY0 := Lib.hid (((hy.alloc (.cells #[.int .i64 c, .int .i64 s, .int .i64 u, .int .i64 l, .slice A xs.length cp, .int .i64 c', .int .i64 s', .int .i64 u', .int .i64 l', .slice A' ys.length cp', .int .i64 code, .int .i64 stan, .slice B zs.length cq] 26)).alloc (.cells (askA c s u l A xs.length cp) 24)).alloc (.cells (askA c' s' u' l' A' ys.length cp') 24))
  have HZ0 := Lib.hid (((hz.alloc (.cells #[.int .i64 c, .int .i64 s, .int .i64 u, .int .i64 l, .slice A xs.length cp, .int .i64 c', .int .i64 s', .int .i64 u', .int .i64 l', .slice A' ys.length cp', .int .i64 code, .int .i64 stan, .slice B zs.length cq] 26)).alloc (.cells (askA c s u l A xs.length cp) 24)).alloc (.cells (askA c' s' u' l' A' ys.length cp') 24))
  have HB0 : Hid (Below w.heap.size w (((w.alloc (.cells #[.int .i64 c, .int .i64 s, .int .i64 u, .int .i64 l, .slice A xs.length cp, .int .i64 c', .int .i64 s', .int .i64 u', .int .i64 l', .slice A' ys.length cp', .int .i64 code, .int .i64 stan, .slice B zs.length cq] 26)).alloc (.cells (askA c s u l A xs.length cp) 24)).alloc (.cells (askA c' s' u' l' A' ys.length cp') 24))) := Lib.hid ((((Below.refl w.heap.size w).alloc (Nat.le_refl _) _).alloc (by simp) _).alloc (by simp; omega) _)
  have k0 := Blk.new w 26 #[.int .i64 c, .int .i64 s, .int .i64 u, .int .i64 l, .slice A xs.length cp, .int .i64 c', .int .i64 s', .int .i64 u', .int .i64 l', .slice A' ys.length cp', .int .i64 code, .int .i64 stan, .slice B zs.length cq]
  have r0 := Lib.hid (World.rangeAt_of_block k0 0 5)
  have r5 := Lib.hid (World.rangeAt_of_block (k0.alloc (.cells (askA c s u l A xs.length cp) 24)) 5 5)
  have k2 := (k0.alloc (.cells (askA c s u l A xs.length cp) 24)).alloc (.cells (askA c' s' u' l' A' ys.length cp') 24)
  have q10 : (((w.alloc (.cells #[.int .i64 c, .int .i64 s, .int .i64 u, .int .i64 l, .slice A xs.length cp, .int .i64 c', .int .i64 s', .int .i64 u', .int .i64 l', .slice A' ys.length cp', .int .i64 code, .int .i64 stan, .slice B zs.length cq] 26)).alloc (.cells (askA c s u l A xs.length cp) 24)).alloc (.cells (askA c' s' u' l' A' ys.length cp') 24)).cell? ⟨w.heap.size, 10, none⟩ = some (.int .i64 code) := k2.cell 10
  have q11 : (((w.alloc (.cells #[.int .i64 c, .int .i64 s, .int .i64 u, .int .i64 l, .slice A xs.length cp, .int .i64 c', .int .i64 s', .int .i64 u', .int .i64 l', .slice A' ys.length cp', .int .i64 code, .int .i64 stan, .slice B zs.length cq] 26)).alloc (.cells (askA c s u l A xs.length cp) 24)).alloc (.cells (askA c' s' u' l' A' ys.length cp') 24)).cell? ⟨w.heap.size, 11, none⟩ = some (.int .i64 stan) := k2.cell 11
  have q12 : (((w.alloc (.cells #[.int .i64 c, .int .i64 s, .int .i64 u, .int .i64 l, .slice A xs.length cp, .int .i64 c', .int .i64 s', .int .i64 u', .int .i64 l', .slice A' ys.length cp', .int .i64 code, .int .i64 stan, .slice B zs.length cq] 26)).alloc (.cells (askA c s u l A xs.length cp) 24)).alloc (.cells (askA c' s' u' l' A' ys.length cp') 24)).cell? ⟨w.heap.size, 12, none⟩ = some (.slice B zs.length cq) := k2.cell 12
  have a0 : Blk (((w.alloc (.cells #[.int .i64 c, .int .i64 s, .int .i64 u, .int .i64 l, .slice A xs.length cp, .int .i64 c', .int .i64 s', .int .i64 u', .int .i64 l', .slice A' ys.length cp', .int .i64 code, .int .i64 stan, .slice B zs.length cq] 26)).alloc (.cells (askA c s u l A xs.length cp) 24)).alloc (.cells (askA c' s' u' l' A' ys.length cp') 24)) (w.heap.size + 1) 24 (askA c s u l A xs.length cp) := by have := (Blk.new (w.alloc (.cells #[.int .i64 c, .int .i64 s, .int .i64 u, .int .i64 l, .slice A xs.length cp, .int .i64 c', .int .i64 s', .int .i64 u', .int .i64 l', .slice A' ys.length cp', .int .i64 code, .int .i64 stan, .slice B zs.length cq] 26)) 24 (askA c s u l A xs.length cp)).alloc (.cells (askA c' s' u' l' A' ys.length cp') 24); simpa using this
  have b0 : Blk (((w.alloc (.cells #[.int .i64 c, .int .i64 s, .int .i64 u, .int .i64 l, .slice A xs.length cp, .int .i64 c', .int .i64 s', .int .i64 u', .int .i64 l', .slice A' ys.length cp', .int .i64 code, .int .i64 stan, .slice B zs.length cq] 26)).alloc (.cells (askA c s u l A xs.length cp) 24)).alloc (.cells (askA c' s' u' l' A' ys.length cp') 24)) (w.heap.size + 2) 24 (askA c' s' u' l' A' ys.length cp') := by have := Blk.new ((w.alloc (.cells #[.int .i64 c, .int .i64 s, .int .i64 u, .int .i64 l, .slice A xs.length cp, .int .i64 c', .int .i64 s', .int .i64 u', .int .i64 l', .slice A' ys.length cp', .int .i64 code, .int .i64 stan, .slice B zs.length cq] 26)).alloc (.cells (askA c s u l A xs.length cp) 24)) 24 (askA c' s' u' l' A' ys.length cp'); simpa using this
  clear k0 k2
  have d1 : decide (1000 < xs.length) = false := decide_eq_false (by omega)
  have e1 : decide ((1000 : Int) < xs.length) = false := decide_eq_false (by omega)
  have d2 : decide (1000 < ys.length) = false := decide_eq_false (by omega)
  have e2 : decide ((1000 : Int) < ys.length) = false := decide_eq_false (by omega)
  have d3 : decide (1000 < zs.length) = false := decide_eq_false (by omega)
  have e3 : decide ((1000 : Int) < zs.length) = false := decide_eq_false (by omega)
  have HT := Lib.hid T; have HTR := Lib.hid R; have HR := Lib.hid hr; have HXX := Lib.hid hX
  clear T R hr hX
  clear hx hy hz
  go_enter Try.func3, Try.ntmps3
  go_wp2_with (first | ((with_reducible refine at_dst 15 ?_); refine wpList_load_mid rfl 24 _ rfl w.heap.size 0 rfl (askA c s u l A xs.length cp).toList _ r0.out Try.underlying24 rfl (info24 c s u l A xs.length cp) ?_) | ((with_reducible refine at_dst 17 ?_); refine wpList_load_mid rfl 24 _ rfl w.heap.size 5 rfl (askA c' s' u' l' A' ys.length cp').toList _ r5.out Try.underlying24 rfl (info24 c' s' u' l' A' ys.length cp') ?_) | fail)
  refine (shown_ok _).mono ?_
  rintro e w1 ⟨rfl, hb⟩
  have HX1 := Lib.hid (HX0.out.below hb)
  have HY1 := Lib.hid (HY0.out.below hb)
  have HZ1 := Lib.hid (HZ0.out.below hb)
  have HB1 := Lib.hid (HB0.out.trans (hb.mono HB0.out.size))
  have a1 := a0.belowSelf hb
  have b1 := b0.belowSelf hb
  clear hb HX0 HB0 HY0 HZ0 a0 b0
  have p1 : w1.cell? ⟨w.heap.size + 1, 4, none⟩ = some (.slice A xs.length cp) := a1.cell 4
  have p2 : w1.cell? ⟨w.heap.size + 2, 4, none⟩ = some (.slice A' ys.length cp') := b1.cell 4
  go_wp2_with fail
  refine (HT.out _).mono ?_
  rintro e w2 ⟨rfl, hb⟩
  have HX2 := Lib.hid (HX1.out.below hb)
  have HY2 := Lib.hid (HY1.out.below hb)
  have HZ2 := Lib.hid (HZ1.out.below hb)
  have HB2 := Lib.hid (HB1.out.trans (hb.mono HB1.out.size))
  have a2 := a1.belowSelf hb
  have b2 := b1.belowSelf hb
  clear hb HX1 HB1 HY1 HZ1 a1 b1
  have HX2' := Lib.hid (HX2.out.alloc (.cells (askA m1 m2 m3 m4 X ws.length xc) 24))
  have HY2' := Lib.hid (HY2.out.alloc (.cells (askA m1 m2 m3 m4 X ws.length xc) 24))
  have HZ2' := Lib.hid (HZ2.out.alloc (.cells (askA m1 m2 m3 m4 X ws.length xc) 24))
  have HB2' := Lib.hid (HB2.out.alloc HB2.out.size (.cells (askA m1 m2 m3 m4 X ws.length xc) 24))
  have a2' := a2.alloc (.cells (askA m1 m2 m3 m4 X ws.length xc) 24)
  have b2' := b2.alloc (.cells (askA m1 m2 m3 m4 X ws.length xc) 24)
  have x2' := Blk.new w2 24 (askA m1 m2 m3 m4 X ws.length xc)
  clear HX2 HY2 HZ2 HB2 a2 b2
  go_wp2_with fail
  refine (HTR.out _).mono ?_
  rintro e w3 ⟨rfl, hb⟩
  have HX3 := Lib.hid (HX2'.out.below hb)
  have HY3 := Lib.hid (HY2'.out.below hb)
  have HZ3 := Lib.hid (HZ2'.out.below hb)
  have HB3 := Lib.hid (HB2'.out.trans (hb.mono HB2'.out.size))
  have a3 := a2'.belowSelf hb
  have b3 := b2'.belowSelf hb
  have x3 := x2'.belowSelf hb
  clear hb HX2' HB2' HY2' HZ2' a2' b2' x2'
  have HX3' := Lib.hid (HX3.out.alloc (.cells (askA m1 m2 m3 m4 X ws.length xc) 24))
  have HY3' := Lib.hid (HY3.out.alloc (.cells (askA m1 m2 m3 m4 X ws.length xc) 24))
  have HZ3' := Lib.hid (HZ3.out.alloc (.cells (askA m1 m2 m3 m4 X ws.length xc) 24))
  have HB3' := Lib.hid (HB3.out.alloc HB3.out.size (.cells (askA m1 m2 m3 m4 X ws.length xc) 24))
  have a3' := a3.alloc (.cells (askA m1 m2 m3 m4 X ws.length xc) 24)
  have b3' := b3.alloc (.cells (askA m1 m2 m3 m4 X ws.length xc) 24)
  have x3' := x3.alloc (.cells (askA m1 m2 m3 m4 X ws.length xc) 24)
  have y3' := Blk.new w3 24 (askA m1 m2 m3 m4 X ws.length xc)
  clear HX3 HY3 HZ3 HB3 a3 b3 x3
  go_wp2_with (first | ((with_reducible refine at_dst 55 ?_); refine load_at (ty := 24) rfl rfl rfl Try.underlying24 rfl (info24 c s u l A xs.length cp) a3' ?_) | fail)
  refine (rright_any c s u l A xs cp _ HX3'.out).mono ?_
  rintro e w4 ⟨rfl, hb⟩
  rw [HR.out]
  have HX4 := Lib.hid (HX3'.out.below hb)
  have HY4 := Lib.hid (HY3'.out.below hb)
  have HZ4 := Lib.hid (HZ3'.out.below hb)
  have HB4 := Lib.hid (HB3'.out.trans (hb.mono HB3'.out.size))
  have a4 := a3'.belowSelf hb
  have b4 := b3'.belowSelf hb
  have x4' := x3'.belowSelf hb
  have y4 := y3'.belowSelf hb
  clear hb HX3' HB3' HY3' HZ3' a3' b3' x3' y3'
  go_wp2_with fail
  have hC : Tw w (w.heap.size + 1) (askA c s u l A xs.length cp) (w.heap.size + 2) (askA c' s' u' l' A' ys.length cp') w2.heap.size w3.heap.size (askA m1 m2 m3 m4 X ws.length xc) A xs A' ys X ws w4.drew := ⟨a4.drew, b4.drew, x4'.drew, y4.drew, HX4.out.drew, HY4.out.drew, (HXX.out _ HZ4.out).drew, HB4.out.drew⟩
  have hN : Nonempty (InCl (Tw w (w.heap.size + 1) (askA c s u l A xs.length cp) (w.heap.size + 2) (askA c' s' u' l' A' ys.length cp') w2.heap.size w3.heap.size (askA m1 m2 m3 m4 X ws.length xc) A xs A' ys X ws)) := ⟨⟨_, hC⟩⟩
  clear a4 b4 x4' y4 HX4 HY4 HZ4 HB4 HT HTR p1 p2 d1 d2 d3 e1 e2 e3 q10 q11 q12 h1 h2 h3
  have C59 := Lib.hid (fun n : InCl (Tw w (w.heap.size + 1) (askA c s u l A xs.length cp) (w.heap.size + 2) (askA c' s' u' l' A' ys.length cp') w2.heap.size w3.heap.size (askA m1 m2 m3 m4 X ws.length xc) A xs A' ys X ws) => callT (rsame_self m1 m2 m3 m4 X ws xc n.w n.ok.ws))
  have C68 := Lib.hid (fun n : InCl (Tw w (w.heap.size + 1) (askA c s u l A xs.length cp) (w.heap.size + 2) (askA c' s' u' l' A' ys.length cp') w2.heap.size w3.heap.size (askA m1 m2 m3 m4 X ws.length xc) A xs A' ys X ws) => callS (stan_any stan n.w))
  have C70 := Lib.hid (fun n : InCl (Tw w (w.heap.size + 1) (askA c s u l A xs.length cp) (w.heap.size + 2) (askA c' s' u' l' A' ys.length cp') w2.heap.size w3.heap.size (askA m1 m2 m3 m4 X ws.length xc) A xs A' ys X ws) => callS (rstan_any stan n.w))
  have C75 := Lib.hid (fun n : InCl (Tw w (w.heap.size + 1) (askA c s u l A xs.length cp) (w.heap.size + 2) (askA c' s' u' l' A' ys.length cp') w2.heap.size w3.heap.size (askA m1 m2 m3 m4 X ws.length xc) A xs A' ys X ws) => callS (known_any code n.w))
  have C77 := Lib.hid (fun n : InCl (Tw w (w.heap.size + 1) (askA c s u l A xs.length cp) (w.heap.size + 2) (askA c' s' u' l' A' ys.length cp') w2.heap.size w3.heap.size (askA m1 m2 m3 m4 X ws.length xc) A xs A' ys X ws) => callS (rknown_any code n.w))
  have C89 := Lib.hid (fun n : InCl (Tw w (w.heap.size + 1) (askA c s u l A xs.length cp) (w.heap.size + 2) (askA c' s' u' l' A' ys.length cp') w2.heap.size w3.heap.size (askA m1 m2 m3 m4 X ws.length xc) A xs A' ys X ws) => callT (same_any c s u l A xs cp c' s' u' l' A' ys cp' n.w n.ok.xs n.ok.ys))
  have C92 := Lib.hid (fun n : InCl (Tw w (w.heap.size + 1) (askA c s u l A xs.length cp) (w.heap.size + 2) (askA c' s' u' l' A' ys.length cp') w2.heap.size w3.heap.size (askA m1 m2 m3 m4 X ws.length xc) A xs A' ys X ws) => callT (rsameA_any c s u l A xs cp c' s' u' l' A' ys cp' n.w n.ok.xs n.ok.ys))
  have C103 := Lib.hid (fun n : InCl (Tw w (w.heap.size + 1) (askA c s u l A xs.length cp) (w.heap.size + 2) (askA c' s' u' l' A' ys.length cp') w2.heap.size w3.heap.size (askA m1 m2 m3 m4 X ws.length xc) A xs A' ys X ws) => callT (match_any c s u l A xs cp code stan n.w n.ok.xs))
  have C107 := Lib.hid (fun n : InCl (Tw w (w.heap.size + 1) (askA c s u l A xs.length cp) (w.heap.size + 2) (askA c' s' u' l' A' ys.length cp') w2.heap.size w3.heap.size (askA m1 m2 m3 m4 X ws.length xc) A xs A' ys X ws) => callT (rmatch_any c s u l A xs cp code stan n.w n.ok.xs))
  have RT : ∀ n : InCl (Tw w (w.heap.size + 1) (askA c s u l A xs.length cp) (w.heap.size + 2) (askA c' s' u' l' A' ys.length cp') w2.heap.size w3.heap.size (askA m1 m2 m3 m4 X ws.length xc) A xs A' ys X ws), Calls Try.prog 17 #[askV c s u l A xs.length cp] n.w fun e w' => e = .returned (.bool true) ∧ ∃ m : InCl (Tw w (w.heap.size + 1) (askA c s u l A xs.length cp) (w.heap.size + 2) (askA c' s' u' l' A' ys.length cp') w2.heap.size w3.heap.size (askA m1 m2 m3 m4 X ws.length xc) A xs A' ys X ws), w' = m.w := fun n => by
    have h := right_any c s u l A xs cp n.w n.ok.xs
    rw [HR.out] at h
    exact callT h
  have RT := Lib.hid RT
  refine wp_region_cls (Cl := (Tw w (w.heap.size + 1) (askA c s u l A xs.length cp) (w.heap.size + 2) (askA c' s' u' l' A' ys.length cp') w2.heap.size w3.heap.size (askA m1 m2 m3 m4 X ws.length xc) A xs A' ys X ws)) (by kernel_rfl) (by kernel_rfl) hC ?_
  repeat (first | go_big_quiet_skip | ((with_reducible refine q_at 57 ?_); refine q_load rfl (ty := 24) rfl rfl Try.underlying24 rfl (info24 m1 m2 m3 m4 X ws.length xc) (t := 24) (fun _ hw => hw.x) ?_; simp only [Act.put, List.setIfInBounds_toArray, List.set_cons_succ, List.set_cons_zero]) | ((with_reducible refine q_at 58 ?_); refine q_load rfl (ty := 24) rfl rfl Try.underlying24 rfl (info24 m1 m2 m3 m4 X ws.length xc) (t := 24) (fun _ hw => hw.y) ?_; simp only [Act.put, List.setIfInBounds_toArray, List.set_cons_succ, List.set_cons_zero]) | ((with_reducible refine q_at 81 ?_); refine q_load rfl (ty := 24) rfl rfl Try.underlying24 rfl (info24 c s u l A xs.length cp) (t := 24) (fun _ hw => hw.a) ?_; simp only [Act.put, List.setIfInBounds_toArray, List.set_cons_succ, List.set_cons_zero]) | ((with_reducible refine q_at 87 ?_); refine q_load rfl (ty := 24) rfl rfl Try.underlying24 rfl (info24 c s u l A xs.length cp) (t := 24) (fun _ hw => hw.a) ?_; simp only [Act.put, List.setIfInBounds_toArray, List.set_cons_succ, List.set_cons_zero]) | ((with_reducible refine q_at 88 ?_); refine q_load rfl (ty := 24) rfl rfl Try.underlying24 rfl (info24 c' s' u' l' A' ys.length cp') (t := 24) (fun _ hw => hw.b) ?_; simp only [Act.put, List.setIfInBounds_toArray, List.set_cons_succ, List.set_cons_zero]) | ((with_reducible refine q_at 90 ?_); refine q_load rfl (ty := 24) rfl rfl Try.underlying24 rfl (info24 c s u l A xs.length cp) (t := 24) (fun _ hw => hw.a) ?_; simp only [Act.put, List.setIfInBounds_toArray, List.set_cons_succ, List.set_cons_zero]) | ((with_reducible refine q_at 91 ?_); refine q_load rfl (ty := 24) rfl rfl Try.underlying24 rfl (info24 c' s' u' l' A' ys.length cp') (t := 24) (fun _ hw => hw.b) ?_; simp only [Act.put, List.setIfInBounds_toArray, List.set_cons_succ, List.set_cons_zero]) | ((with_reducible refine q_at 59 ?_); go_big_quiet_want; go_big_quiet_op; go_big_quiet_call ((go_at_call 12; exact C59.out _))) | ((with_reducible refine q_at 68 ?_); go_big_quiet_want; go_big_quiet_op; go_big_quiet_call ((go_at_call 13; exact C68.out _))) | ((with_reducible refine q_at 70 ?_); go_big_quiet_want; go_big_quiet_op; go_big_quiet_call ((go_at_call 14; exact C70.out _))) | ((with_reducible refine q_at 75 ?_); go_big_quiet_want; go_big_quiet_op; go_big_quiet_call ((go_at_call 15; exact C75.out _))) | ((with_reducible refine q_at 77 ?_); go_big_quiet_want; go_big_quiet_op; go_big_quiet_call ((go_at_call 16; exact C77.out _))) | ((with_reducible refine q_at 89 ?_); go_big_quiet_want; go_big_quiet_op; go_big_quiet_call ((go_at_call 18; exact C89.out _))) | ((with_reducible refine q_at 92 ?_); go_big_quiet_want; go_big_quiet_op; go_big_quiet_call ((go_at_call 12; exact C92.out _))) | ((with_reducible refine q_at 82 ?_); go_big_quiet_want; go_big_quiet_op; go_big_quiet_call ((go_at_call 17; exact RT.out _))) | (go_big_quiet_want; go_big_quiet_op; go_big_quiet_on))
  refine wpQuiet_nil ?_
  intro w5 hw5
  have HC := Lib.hid hw5
  clear hw5
  go_wp2_with fail
  have hC : Tw w (w.heap.size + 1) (askA c s u l A xs.length cp) (w.heap.size + 2) (askA c' s' u' l' A' ys.length cp') w2.heap.size w3.heap.size (askA m1 m2 m3 m4 X ws.length xc) A xs A' ys X ws w5.drew := ⟨HC.out.a.drew, HC.out.b.drew, HC.out.x.drew, HC.out.y.drew, HC.out.xs.drew, HC.out.ys.drew, HC.out.ws.drew, HC.out.below.drew⟩
  refine wp_region_cls (Cl := (Tw w (w.heap.size + 1) (askA c s u l A xs.length cp) (w.heap.size + 2) (askA c' s' u' l' A' ys.length cp') w2.heap.size w3.heap.size (askA m1 m2 m3 m4 X ws.length xc) A xs A' ys X ws)) (by kernel_rfl) (by kernel_rfl) hC ?_
  repeat (first | go_big_quiet_skip | ((with_reducible refine q_at 100 ?_); refine q_load rfl (ty := 24) rfl rfl Try.underlying24 rfl (info24 c s u l A xs.length cp) (t := 24) (fun _ hw => hw.a) ?_; simp only [Act.put, List.setIfInBounds_toArray, List.set_cons_succ, List.set_cons_zero]) | ((with_reducible refine q_at 104 ?_); refine q_load rfl (ty := 24) rfl rfl Try.underlying24 rfl (info24 c s u l A xs.length cp) (t := 24) (fun _ hw => hw.a) ?_; simp only [Act.put, List.setIfInBounds_toArray, List.set_cons_succ, List.set_cons_zero]) | ((with_reducible refine q_at 103 ?_); go_big_quiet_want; go_big_quiet_op; go_big_quiet_call ((go_at_call 19; exact C103.out _))) | ((with_reducible refine q_at 107 ?_); go_big_quiet_want; go_big_quiet_op; go_big_quiet_call ((go_at_call 20; exact C107.out _))) | (go_big_quiet_want; go_big_quiet_op; go_big_quiet_on))
  refine wpQuiet_nil ?_
  intro w6 hw6
  have HB6 := Lib.hid hw6.below
  clear hw6
  go_wp2_with fail
  go_ret
  exact ⟨rfl, HB6.out⟩

set_option maxRecDepth 100000 in
set_option maxHeartbeats 8000000 in
theorem walk_false (c s u l : Int) (A : Option Addr) (xs : List Int) (cp : Nat) (c' s' u' l' : Int) (A' : Option Addr) (ys : List Int) (cp' : Nat) (code stan : Int) (B : Option Addr) (zs : List Int) (cq : Nat) (w : World) (hx : Rb w A xs) (hy : Rb w A' ys) (hz : Rb w B zs) (h1 : xs.length ≤ 1000) (h2 : ys.length ≤ 1000) (h3 : zs.length ≤ 1000)
    (m1 m2 m3 m4 : Int) (X : Option Addr) (ws : List Int) (xc : Nat) (er : Int) (hX : ∀ W, Rb W B zs → Rb W X ws)
    (T : ∀ W, Calls Try.prog 9 #[.int .i64 code, .int .i64 stan, .slice B zs.length cq] W fun e w' => e = .returned (.tuple #[askV m1 m2 m3 m4 X ws.length xc, .int .i64 er]) ∧ Below W.heap.size W w')
    (R : ∀ W, Calls Try.prog 10 #[.int .i64 code, .int .i64 stan, .slice B zs.length cq] W fun e w' => e = .returned (.tuple #[askV m1 m2 m3 m4 X ws.length xc, .int .i64 er]) ∧ Below W.heap.size W w')
    (hr : rightB c s u l xs.length = false) :
    Calls Try.prog 3 #[.agg #[.int .i64 c, .int .i64 s, .int .i64 u, .int .i64 l, .slice A xs.length cp, .int .i64 c', .int .i64 s', .int .i64 u', .int .i64 l', .slice A' ys.length cp', .int .i64 code, .int .i64 stan, .slice B zs.length cq]] w fun e w' => e = .returned (.bool true) ∧ Below w.heap.size w w' := by
  have HX0 := Lib.hid (((hx.alloc (.cells #[.int .i64 c, .int .i64 s, .int .i64 u, .int .i64 l, .slice A xs.length cp, .int .i64 c', .int .i64 s', .int .i64 u', .int .i64 l', .slice A' ys.length cp', .int .i64 code, .int .i64 stan, .slice B zs.length cq] 26)).alloc (.cells (askA c s u l A xs.length cp) 24)).alloc (.cells (askA c' s' u' l' A' ys.length cp') 24))
  have HY0 := Lib.hid (((hy.alloc (.cells #[.int .i64 c, .int .i64 s, .int .i64 u, .int .i64 l, .slice A xs.length cp, .int .i64 c', .int .i64 s', .int .i64 u', .int .i64 l', .slice A' ys.length cp', .int .i64 code, .int .i64 stan, .slice B zs.length cq] 26)).alloc (.cells (askA c s u l A xs.length cp) 24)).alloc (.cells (askA c' s' u' l' A' ys.length cp') 24))
  have HZ0 := Lib.hid (((hz.alloc (.cells #[.int .i64 c, .int .i64 s, .int .i64 u, .int .i64 l, .slice A xs.length cp, .int .i64 c', .int .i64 s', .int .i64 u', .int .i64 l', .slice A' ys.length cp', .int .i64 code, .int .i64 stan, .slice B zs.length cq] 26)).alloc (.cells (askA c s u l A xs.length cp) 24)).alloc (.cells (askA c' s' u' l' A' ys.length cp') 24))
  have HB0 : Hid (Below w.heap.size w (((w.alloc (.cells #[.int .i64 c, .int .i64 s, .int .i64 u, .int .i64 l, .slice A xs.length cp, .int .i64 c', .int .i64 s', .int .i64 u', .int .i64 l', .slice A' ys.length cp', .int .i64 code, .int .i64 stan, .slice B zs.length cq] 26)).alloc (.cells (askA c s u l A xs.length cp) 24)).alloc (.cells (askA c' s' u' l' A' ys.length cp') 24))) := Lib.hid ((((Below.refl w.heap.size w).alloc (Nat.le_refl _) _).alloc (by simp) _).alloc (by simp; omega) _)
  have k0 := Blk.new w 26 #[.int .i64 c, .int .i64 s, .int .i64 u, .int .i64 l, .slice A xs.length cp, .int .i64 c', .int .i64 s', .int .i64 u', .int .i64 l', .slice A' ys.length cp', .int .i64 code, .int .i64 stan, .slice B zs.length cq]
  have r0 := Lib.hid (World.rangeAt_of_block k0 0 5)
  have r5 := Lib.hid (World.rangeAt_of_block (k0.alloc (.cells (askA c s u l A xs.length cp) 24)) 5 5)
  have k2 := (k0.alloc (.cells (askA c s u l A xs.length cp) 24)).alloc (.cells (askA c' s' u' l' A' ys.length cp') 24)
  have q10 : (((w.alloc (.cells #[.int .i64 c, .int .i64 s, .int .i64 u, .int .i64 l, .slice A xs.length cp, .int .i64 c', .int .i64 s', .int .i64 u', .int .i64 l', .slice A' ys.length cp', .int .i64 code, .int .i64 stan, .slice B zs.length cq] 26)).alloc (.cells (askA c s u l A xs.length cp) 24)).alloc (.cells (askA c' s' u' l' A' ys.length cp') 24)).cell? ⟨w.heap.size, 10, none⟩ = some (.int .i64 code) := k2.cell 10
  have q11 : (((w.alloc (.cells #[.int .i64 c, .int .i64 s, .int .i64 u, .int .i64 l, .slice A xs.length cp, .int .i64 c', .int .i64 s', .int .i64 u', .int .i64 l', .slice A' ys.length cp', .int .i64 code, .int .i64 stan, .slice B zs.length cq] 26)).alloc (.cells (askA c s u l A xs.length cp) 24)).alloc (.cells (askA c' s' u' l' A' ys.length cp') 24)).cell? ⟨w.heap.size, 11, none⟩ = some (.int .i64 stan) := k2.cell 11
  have q12 : (((w.alloc (.cells #[.int .i64 c, .int .i64 s, .int .i64 u, .int .i64 l, .slice A xs.length cp, .int .i64 c', .int .i64 s', .int .i64 u', .int .i64 l', .slice A' ys.length cp', .int .i64 code, .int .i64 stan, .slice B zs.length cq] 26)).alloc (.cells (askA c s u l A xs.length cp) 24)).alloc (.cells (askA c' s' u' l' A' ys.length cp') 24)).cell? ⟨w.heap.size, 12, none⟩ = some (.slice B zs.length cq) := k2.cell 12
  have a0 : Blk (((w.alloc (.cells #[.int .i64 c, .int .i64 s, .int .i64 u, .int .i64 l, .slice A xs.length cp, .int .i64 c', .int .i64 s', .int .i64 u', .int .i64 l', .slice A' ys.length cp', .int .i64 code, .int .i64 stan, .slice B zs.length cq] 26)).alloc (.cells (askA c s u l A xs.length cp) 24)).alloc (.cells (askA c' s' u' l' A' ys.length cp') 24)) (w.heap.size + 1) 24 (askA c s u l A xs.length cp) := by have := (Blk.new (w.alloc (.cells #[.int .i64 c, .int .i64 s, .int .i64 u, .int .i64 l, .slice A xs.length cp, .int .i64 c', .int .i64 s', .int .i64 u', .int .i64 l', .slice A' ys.length cp', .int .i64 code, .int .i64 stan, .slice B zs.length cq] 26)) 24 (askA c s u l A xs.length cp)).alloc (.cells (askA c' s' u' l' A' ys.length cp') 24); simpa using this
  have b0 : Blk (((w.alloc (.cells #[.int .i64 c, .int .i64 s, .int .i64 u, .int .i64 l, .slice A xs.length cp, .int .i64 c', .int .i64 s', .int .i64 u', .int .i64 l', .slice A' ys.length cp', .int .i64 code, .int .i64 stan, .slice B zs.length cq] 26)).alloc (.cells (askA c s u l A xs.length cp) 24)).alloc (.cells (askA c' s' u' l' A' ys.length cp') 24)) (w.heap.size + 2) 24 (askA c' s' u' l' A' ys.length cp') := by have := Blk.new ((w.alloc (.cells #[.int .i64 c, .int .i64 s, .int .i64 u, .int .i64 l, .slice A xs.length cp, .int .i64 c', .int .i64 s', .int .i64 u', .int .i64 l', .slice A' ys.length cp', .int .i64 code, .int .i64 stan, .slice B zs.length cq] 26)).alloc (.cells (askA c s u l A xs.length cp) 24)) 24 (askA c' s' u' l' A' ys.length cp'); simpa using this
  clear k0 k2
  have d1 : decide (1000 < xs.length) = false := decide_eq_false (by omega)
  have e1 : decide ((1000 : Int) < xs.length) = false := decide_eq_false (by omega)
  have d2 : decide (1000 < ys.length) = false := decide_eq_false (by omega)
  have e2 : decide ((1000 : Int) < ys.length) = false := decide_eq_false (by omega)
  have d3 : decide (1000 < zs.length) = false := decide_eq_false (by omega)
  have e3 : decide ((1000 : Int) < zs.length) = false := decide_eq_false (by omega)
  have HT := Lib.hid T; have HTR := Lib.hid R; have HR := Lib.hid hr; have HXX := Lib.hid hX
  clear T R hr hX
  clear hx hy hz
  go_enter Try.func3, Try.ntmps3
  go_wp2_with (first | ((with_reducible refine at_dst 15 ?_); refine wpList_load_mid rfl 24 _ rfl w.heap.size 0 rfl (askA c s u l A xs.length cp).toList _ r0.out Try.underlying24 rfl (info24 c s u l A xs.length cp) ?_) | ((with_reducible refine at_dst 17 ?_); refine wpList_load_mid rfl 24 _ rfl w.heap.size 5 rfl (askA c' s' u' l' A' ys.length cp').toList _ r5.out Try.underlying24 rfl (info24 c' s' u' l' A' ys.length cp') ?_) | fail)
  refine (shown_ok _).mono ?_
  rintro e w1 ⟨rfl, hb⟩
  have HX1 := Lib.hid (HX0.out.below hb)
  have HY1 := Lib.hid (HY0.out.below hb)
  have HZ1 := Lib.hid (HZ0.out.below hb)
  have HB1 := Lib.hid (HB0.out.trans (hb.mono HB0.out.size))
  have a1 := a0.belowSelf hb
  have b1 := b0.belowSelf hb
  clear hb HX0 HB0 HY0 HZ0 a0 b0
  have p1 : w1.cell? ⟨w.heap.size + 1, 4, none⟩ = some (.slice A xs.length cp) := a1.cell 4
  have p2 : w1.cell? ⟨w.heap.size + 2, 4, none⟩ = some (.slice A' ys.length cp') := b1.cell 4
  go_wp2_with fail
  refine (HT.out _).mono ?_
  rintro e w2 ⟨rfl, hb⟩
  have HX2 := Lib.hid (HX1.out.below hb)
  have HY2 := Lib.hid (HY1.out.below hb)
  have HZ2 := Lib.hid (HZ1.out.below hb)
  have HB2 := Lib.hid (HB1.out.trans (hb.mono HB1.out.size))
  have a2 := a1.belowSelf hb
  have b2 := b1.belowSelf hb
  clear hb HX1 HB1 HY1 HZ1 a1 b1
  have HX2' := Lib.hid (HX2.out.alloc (.cells (askA m1 m2 m3 m4 X ws.length xc) 24))
  have HY2' := Lib.hid (HY2.out.alloc (.cells (askA m1 m2 m3 m4 X ws.length xc) 24))
  have HZ2' := Lib.hid (HZ2.out.alloc (.cells (askA m1 m2 m3 m4 X ws.length xc) 24))
  have HB2' := Lib.hid (HB2.out.alloc HB2.out.size (.cells (askA m1 m2 m3 m4 X ws.length xc) 24))
  have a2' := a2.alloc (.cells (askA m1 m2 m3 m4 X ws.length xc) 24)
  have b2' := b2.alloc (.cells (askA m1 m2 m3 m4 X ws.length xc) 24)
  have x2' := Blk.new w2 24 (askA m1 m2 m3 m4 X ws.length xc)
  clear HX2 HY2 HZ2 HB2 a2 b2
  go_wp2_with fail
  refine (HTR.out _).mono ?_
  rintro e w3 ⟨rfl, hb⟩
  have HX3 := Lib.hid (HX2'.out.below hb)
  have HY3 := Lib.hid (HY2'.out.below hb)
  have HZ3 := Lib.hid (HZ2'.out.below hb)
  have HB3 := Lib.hid (HB2'.out.trans (hb.mono HB2'.out.size))
  have a3 := a2'.belowSelf hb
  have b3 := b2'.belowSelf hb
  have x3 := x2'.belowSelf hb
  clear hb HX2' HB2' HY2' HZ2' a2' b2' x2'
  have HX3' := Lib.hid (HX3.out.alloc (.cells (askA m1 m2 m3 m4 X ws.length xc) 24))
  have HY3' := Lib.hid (HY3.out.alloc (.cells (askA m1 m2 m3 m4 X ws.length xc) 24))
  have HZ3' := Lib.hid (HZ3.out.alloc (.cells (askA m1 m2 m3 m4 X ws.length xc) 24))
  have HB3' := Lib.hid (HB3.out.alloc HB3.out.size (.cells (askA m1 m2 m3 m4 X ws.length xc) 24))
  have a3' := a3.alloc (.cells (askA m1 m2 m3 m4 X ws.length xc) 24)
  have b3' := b3.alloc (.cells (askA m1 m2 m3 m4 X ws.length xc) 24)
  have x3' := x3.alloc (.cells (askA m1 m2 m3 m4 X ws.length xc) 24)
  have y3' := Blk.new w3 24 (askA m1 m2 m3 m4 X ws.length xc)
  clear HX3 HY3 HZ3 HB3 a3 b3 x3
  go_wp2_with (first | ((with_reducible refine at_dst 55 ?_); refine load_at (ty := 24) rfl rfl rfl Try.underlying24 rfl (info24 c s u l A xs.length cp) a3' ?_) | fail)
  refine (rright_any c s u l A xs cp _ HX3'.out).mono ?_
  rintro e w4 ⟨rfl, hb⟩
  rw [HR.out]
  have HX4 := Lib.hid (HX3'.out.below hb)
  have HY4 := Lib.hid (HY3'.out.below hb)
  have HZ4 := Lib.hid (HZ3'.out.below hb)
  have HB4 := Lib.hid (HB3'.out.trans (hb.mono HB3'.out.size))
  have a4 := a3'.belowSelf hb
  have b4 := b3'.belowSelf hb
  have x4' := x3'.belowSelf hb
  have y4 := y3'.belowSelf hb
  clear hb HX3' HB3' HY3' HZ3' a3' b3' x3' y3'
  go_wp2_with fail
  have hC : Tw w (w.heap.size + 1) (askA c s u l A xs.length cp) (w.heap.size + 2) (askA c' s' u' l' A' ys.length cp') w2.heap.size w3.heap.size (askA m1 m2 m3 m4 X ws.length xc) A xs A' ys X ws w4.drew := ⟨a4.drew, b4.drew, x4'.drew, y4.drew, HX4.out.drew, HY4.out.drew, (HXX.out _ HZ4.out).drew, HB4.out.drew⟩
  have hN : Nonempty (InCl (Tw w (w.heap.size + 1) (askA c s u l A xs.length cp) (w.heap.size + 2) (askA c' s' u' l' A' ys.length cp') w2.heap.size w3.heap.size (askA m1 m2 m3 m4 X ws.length xc) A xs A' ys X ws)) := ⟨⟨_, hC⟩⟩
  clear a4 b4 x4' y4 HX4 HY4 HZ4 HB4 HT HTR p1 p2 d1 d2 d3 e1 e2 e3 q10 q11 q12 h1 h2 h3
  have C59 := Lib.hid (fun n : InCl (Tw w (w.heap.size + 1) (askA c s u l A xs.length cp) (w.heap.size + 2) (askA c' s' u' l' A' ys.length cp') w2.heap.size w3.heap.size (askA m1 m2 m3 m4 X ws.length xc) A xs A' ys X ws) => callT (rsame_self m1 m2 m3 m4 X ws xc n.w n.ok.ws))
  have C68 := Lib.hid (fun n : InCl (Tw w (w.heap.size + 1) (askA c s u l A xs.length cp) (w.heap.size + 2) (askA c' s' u' l' A' ys.length cp') w2.heap.size w3.heap.size (askA m1 m2 m3 m4 X ws.length xc) A xs A' ys X ws) => callS (stan_any stan n.w))
  have C70 := Lib.hid (fun n : InCl (Tw w (w.heap.size + 1) (askA c s u l A xs.length cp) (w.heap.size + 2) (askA c' s' u' l' A' ys.length cp') w2.heap.size w3.heap.size (askA m1 m2 m3 m4 X ws.length xc) A xs A' ys X ws) => callS (rstan_any stan n.w))
  have C75 := Lib.hid (fun n : InCl (Tw w (w.heap.size + 1) (askA c s u l A xs.length cp) (w.heap.size + 2) (askA c' s' u' l' A' ys.length cp') w2.heap.size w3.heap.size (askA m1 m2 m3 m4 X ws.length xc) A xs A' ys X ws) => callS (known_any code n.w))
  have C77 := Lib.hid (fun n : InCl (Tw w (w.heap.size + 1) (askA c s u l A xs.length cp) (w.heap.size + 2) (askA c' s' u' l' A' ys.length cp') w2.heap.size w3.heap.size (askA m1 m2 m3 m4 X ws.length xc) A xs A' ys X ws) => callS (rknown_any code n.w))
  have C89 := Lib.hid (fun n : InCl (Tw w (w.heap.size + 1) (askA c s u l A xs.length cp) (w.heap.size + 2) (askA c' s' u' l' A' ys.length cp') w2.heap.size w3.heap.size (askA m1 m2 m3 m4 X ws.length xc) A xs A' ys X ws) => callT (same_any c s u l A xs cp c' s' u' l' A' ys cp' n.w n.ok.xs n.ok.ys))
  have C92 := Lib.hid (fun n : InCl (Tw w (w.heap.size + 1) (askA c s u l A xs.length cp) (w.heap.size + 2) (askA c' s' u' l' A' ys.length cp') w2.heap.size w3.heap.size (askA m1 m2 m3 m4 X ws.length xc) A xs A' ys X ws) => callT (rsameA_any c s u l A xs cp c' s' u' l' A' ys cp' n.w n.ok.xs n.ok.ys))
  have C103 := Lib.hid (fun n : InCl (Tw w (w.heap.size + 1) (askA c s u l A xs.length cp) (w.heap.size + 2) (askA c' s' u' l' A' ys.length cp') w2.heap.size w3.heap.size (askA m1 m2 m3 m4 X ws.length xc) A xs A' ys X ws) => callT (match_any c s u l A xs cp code stan n.w n.ok.xs))
  have C107 := Lib.hid (fun n : InCl (Tw w (w.heap.size + 1) (askA c s u l A xs.length cp) (w.heap.size + 2) (askA c' s' u' l' A' ys.length cp') w2.heap.size w3.heap.size (askA m1 m2 m3 m4 X ws.length xc) A xs A' ys X ws) => callT (rmatch_any c s u l A xs cp code stan n.w n.ok.xs))
  have RT : ∀ n : InCl (Tw w (w.heap.size + 1) (askA c s u l A xs.length cp) (w.heap.size + 2) (askA c' s' u' l' A' ys.length cp') w2.heap.size w3.heap.size (askA m1 m2 m3 m4 X ws.length xc) A xs A' ys X ws), Calls Try.prog 17 #[askV c s u l A xs.length cp] n.w fun e w' => e = .returned (.bool false) ∧ ∃ m : InCl (Tw w (w.heap.size + 1) (askA c s u l A xs.length cp) (w.heap.size + 2) (askA c' s' u' l' A' ys.length cp') w2.heap.size w3.heap.size (askA m1 m2 m3 m4 X ws.length xc) A xs A' ys X ws), w' = m.w := fun n => by
    have h := right_any c s u l A xs cp n.w n.ok.xs
    rw [HR.out] at h
    exact callT h
  have RT := Lib.hid RT
  refine wp_region_cls (Cl := (Tw w (w.heap.size + 1) (askA c s u l A xs.length cp) (w.heap.size + 2) (askA c' s' u' l' A' ys.length cp') w2.heap.size w3.heap.size (askA m1 m2 m3 m4 X ws.length xc) A xs A' ys X ws)) (by kernel_rfl) (by kernel_rfl) hC ?_
  repeat (first | go_big_quiet_skip | ((with_reducible refine q_at 57 ?_); refine q_load rfl (ty := 24) rfl rfl Try.underlying24 rfl (info24 m1 m2 m3 m4 X ws.length xc) (t := 24) (fun _ hw => hw.x) ?_; simp only [Act.put, List.setIfInBounds_toArray, List.set_cons_succ, List.set_cons_zero]) | ((with_reducible refine q_at 58 ?_); refine q_load rfl (ty := 24) rfl rfl Try.underlying24 rfl (info24 m1 m2 m3 m4 X ws.length xc) (t := 24) (fun _ hw => hw.y) ?_; simp only [Act.put, List.setIfInBounds_toArray, List.set_cons_succ, List.set_cons_zero]) | ((with_reducible refine q_at 81 ?_); refine q_load rfl (ty := 24) rfl rfl Try.underlying24 rfl (info24 c s u l A xs.length cp) (t := 24) (fun _ hw => hw.a) ?_; simp only [Act.put, List.setIfInBounds_toArray, List.set_cons_succ, List.set_cons_zero]) | ((with_reducible refine q_at 87 ?_); refine q_load rfl (ty := 24) rfl rfl Try.underlying24 rfl (info24 c s u l A xs.length cp) (t := 24) (fun _ hw => hw.a) ?_; simp only [Act.put, List.setIfInBounds_toArray, List.set_cons_succ, List.set_cons_zero]) | ((with_reducible refine q_at 88 ?_); refine q_load rfl (ty := 24) rfl rfl Try.underlying24 rfl (info24 c' s' u' l' A' ys.length cp') (t := 24) (fun _ hw => hw.b) ?_; simp only [Act.put, List.setIfInBounds_toArray, List.set_cons_succ, List.set_cons_zero]) | ((with_reducible refine q_at 90 ?_); refine q_load rfl (ty := 24) rfl rfl Try.underlying24 rfl (info24 c s u l A xs.length cp) (t := 24) (fun _ hw => hw.a) ?_; simp only [Act.put, List.setIfInBounds_toArray, List.set_cons_succ, List.set_cons_zero]) | ((with_reducible refine q_at 91 ?_); refine q_load rfl (ty := 24) rfl rfl Try.underlying24 rfl (info24 c' s' u' l' A' ys.length cp') (t := 24) (fun _ hw => hw.b) ?_; simp only [Act.put, List.setIfInBounds_toArray, List.set_cons_succ, List.set_cons_zero]) | ((with_reducible refine q_at 59 ?_); go_big_quiet_want; go_big_quiet_op; go_big_quiet_call ((go_at_call 12; exact C59.out _))) | ((with_reducible refine q_at 68 ?_); go_big_quiet_want; go_big_quiet_op; go_big_quiet_call ((go_at_call 13; exact C68.out _))) | ((with_reducible refine q_at 70 ?_); go_big_quiet_want; go_big_quiet_op; go_big_quiet_call ((go_at_call 14; exact C70.out _))) | ((with_reducible refine q_at 75 ?_); go_big_quiet_want; go_big_quiet_op; go_big_quiet_call ((go_at_call 15; exact C75.out _))) | ((with_reducible refine q_at 77 ?_); go_big_quiet_want; go_big_quiet_op; go_big_quiet_call ((go_at_call 16; exact C77.out _))) | ((with_reducible refine q_at 89 ?_); go_big_quiet_want; go_big_quiet_op; go_big_quiet_call ((go_at_call 18; exact C89.out _))) | ((with_reducible refine q_at 92 ?_); go_big_quiet_want; go_big_quiet_op; go_big_quiet_call ((go_at_call 12; exact C92.out _))) | ((with_reducible refine q_at 82 ?_); go_big_quiet_want; go_big_quiet_op; go_big_quiet_call ((go_at_call 17; exact RT.out _))) | (go_big_quiet_want; go_big_quiet_op; go_big_quiet_on))
  refine wpQuiet_nil ?_
  intro w5 hw5
  have HC := Lib.hid hw5
  clear hw5
  go_wp2_with fail
  have hC : Tw w (w.heap.size + 1) (askA c s u l A xs.length cp) (w.heap.size + 2) (askA c' s' u' l' A' ys.length cp') w2.heap.size w3.heap.size (askA m1 m2 m3 m4 X ws.length xc) A xs A' ys X ws w5.drew := ⟨HC.out.a.drew, HC.out.b.drew, HC.out.x.drew, HC.out.y.drew, HC.out.xs.drew, HC.out.ys.drew, HC.out.ws.drew, HC.out.below.drew⟩
  refine wp_region_cls (Cl := (Tw w (w.heap.size + 1) (askA c s u l A xs.length cp) (w.heap.size + 2) (askA c' s' u' l' A' ys.length cp') w2.heap.size w3.heap.size (askA m1 m2 m3 m4 X ws.length xc) A xs A' ys X ws)) (by kernel_rfl) (by kernel_rfl) hC ?_
  repeat (first | go_big_quiet_skip | (go_big_quiet_want; go_big_quiet_op; go_big_quiet_on))
  refine wpQuiet_nil ?_
  intro w6 hw6
  have HB6 := Lib.hid hw6.below
  clear hw6
  go_wp2_with fail
  go_ret
  exact ⟨rfl, HB6.out⟩

theorem walk (c s u l : Int) (A : Option Addr) (xs : List Int) (cp : Nat) (c' s' u' l' : Int) (A' : Option Addr) (ys : List Int) (cp' : Nat) (code stan : Int) (B : Option Addr) (zs : List Int) (cq : Nat) (w : World) (hx : Rb w A xs) (hy : Rb w A' ys) (hz : Rb w B zs) :
    Calls Try.prog 3 #[.agg #[.int .i64 c, .int .i64 s, .int .i64 u, .int .i64 l, .slice A xs.length cp, .int .i64 c', .int .i64 s', .int .i64 u', .int .i64 l', .slice A' ys.length cp', .int .i64 code, .int .i64 stan, .slice B zs.length cq]] w fun e w' => e = .returned (.bool true) ∧ Below w.heap.size w w' := by
  by_cases h1 : xs.length ≤ 1000
  · by_cases h2 : ys.length ≤ 1000
    · by_cases h3 : zs.length ≤ 1000
      · cases hf : fitsB code stan zs.length <;> cases hr : rightB c s u l xs.length
        · exact walk_false c s u l A xs cp c' s' u' l' A' ys cp' code stan B zs cq w hx hy hz h1 h2 h3 0 0 0 0 none [] 0 1 (fun _ _ => Rb.nil _ none) (fun W => begin_no code stan B zs.length cq W hz.len hf) (fun W => rbegin_no code stan B zs.length cq W hz.len hf) hr
        · exact walk_true c s u l A xs cp c' s' u' l' A' ys cp' code stan B zs cq w hx hy hz h1 h2 h3 0 0 0 0 none [] 0 1 (fun _ _ => Rb.nil _ none) (fun W => begin_no code stan B zs.length cq W hz.len hf) (fun W => rbegin_no code stan B zs.length cq W hz.len hf) hr
        · exact walk_false c s u l A xs cp c' s' u' l' A' ys cp' code stan B zs cq w hx hy hz h1 h2 h3 code stan 8 3 B zs cq 0 (fun _ h => h) (fun W => begin_yes code stan B zs.length cq W hz.len hf) (fun W => rbegin_yes code stan B zs.length cq W hz.len hf) hr
        · exact walk_true c s u l A xs cp c' s' u' l' A' ys cp' code stan B zs cq w hx hy hz h1 h2 h3 code stan 8 3 B zs cq 0 (fun _ h => h) (fun W => begin_yes code stan B zs.length cq W hz.len hf) (fun W => rbegin_yes code stan B zs.length cq W hz.len hf) hr
      · exact walk_c c s u l A xs cp c' s' u' l' A' ys cp' code stan B zs cq w hx hy hz h1 h2 (by omega)
    · exact walk_b c s u l A xs cp c' s' u' l' A' ys cp' code stan B zs cq w hx hy hz h1 (by omega)
  · exact walk_a c s u l A xs cp c' s' u' l' A' ys cp' code stan B zs cq w hx hy hz (by omega)

set_option maxRecDepth 100000 in
theorem lifted (os : Os) (started : os.Started) (H : Type) (enc : TypeId × Value → H) :
    ReturnsInHanded {} Try.checked os 3 .any (Rows.askTellsSpec.pre6 enc Try.prog Try.f3 Rows.askTellsRow.domain false) (Rows.askTellsSpec.post enc Try.prog Try.f3 false true false false) := by
  refine returnsInHanded_of_change (C := Try.checked) own started (by kernel_rfl) Try.func3
    (ChangeSpec.witness6 (enc := enc) (C := Try.checked) false ⟨#[], #[.agg #[.int .i64 0, .int .i64 0, .int .i64 0, .int .i64 0, .slice none 0 0, .int .i64 0, .int .i64 0, .int .i64 0, .int .i64 0, .slice none 0 0, .int .i64 0, .int .i64 0, .slice none 0 0]], []⟩ 8 (by kernel_rfl) (by kernel_rfl) (by kernel_rfl) (by kernel_rfl)) ?_
  intro W base args ds gs before hval0 hW _ _
  have hval : ∀ (j : Nat) t v, Try.f3.params[j]? = some t → args[j]? = some v → Value.okWide Try.prog W .any base t v := hval0
  have hW' := hW
  obtain ⟨p, q, hA0, hV, rfl, _, _⟩ := hW
  have hA : DataW.TrodAll enc Try.prog W 0 (fun _ => true) true Try.f3.params.toList args.toList ds p := hA0
  rw [Try.params3] at hA hval
  obtain ⟨v0, vs0, d0, ds0, p0, q0, hargs, rfl, rfl, h0, r0x⟩ := trodAll_cons hA
  obtain ⟨rfl, rfl, rfl⟩ := trodAll_nil r0x
  obtain rfl : args = #[v0] := by cases args; simp_all
  obtain ⟨c0, s0, u0, l0, A0, xs0, cp0, c0x, s0x, u0x, l0x, A0x, xs0x, cp0x, code0, stan0, B0, zs0, cq0, rfl, hx0, hy0, hz0⟩ := open_tells (hval 0 26 v0 rfl rfl) h0
  clear hA0 hval0
  refine (walk c0 s0 u0 l0 A0 xs0 cp0 c0x s0x u0x l0x A0x xs0x cp0x code0 stan0 B0 zs0 cq0 W hx0 hy0 hz0).mono fun e W' ⟨he, hg⟩ => ?_
  subst he
  exact ⟨_, rfl, law_post hW' rfl rfl (fun h => by subst h; exact ⟨rfl, rfl, rfl⟩) (by rw [Try.params3]; intro t ht; simp at ht; rcases ht with rfl <;> exact ⟨by kernel_rfl, of_decide_eq_true (by kernel_rfl)⟩) hg⟩

theorem over : Rows.askTellsRow.holds Try.pinned (OpenSpec.ofChange Rows.askTellsSpec) :=
  OpenClaim.holds_of_wide 3 Try.f3 rfl rfl rfl rfl rfl rfl rfl ⟨rfl, rfl, rfl, rfl, rfl⟩ rfl rfl rfl rfl rfl (by kernel_rfl) Try.func3 (by kernel_rfl)
    (of_decide_eq_true (by kernel_rfl)) (by unfold Func.isWrapper; first | (rw [if_pos (by decide +kernel)]; kernel_rfl) | (rw [if_neg (by decide +kernel)]; exact ⟨rfl, rfl⟩))
    (fun os started H enc _ => lifted os started H enc)

theorem proved : Rows.AskTellsSaid :=
  over
#print axioms proved
end askTells
end Go.Proofs.Ytnmbcdphjmcomaa
