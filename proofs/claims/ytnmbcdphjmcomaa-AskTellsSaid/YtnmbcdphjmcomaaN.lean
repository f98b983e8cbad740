/- Gates: the walk stands at the operation that writes a given slot, or at a store. -/
import Derived.Test.YtnmbcdphjmcomaaM
namespace Go.Proofs.Ytnmbcdphjmcomaa
open Go.RowKit

section
variable {P : Program} {ops : Array Oper} {rest : List Oper} {op : Op} {tp : TypeId} {ps : String} {af : Array Edge} {gd : Option (Nat × Bool)} {a : Act} {w : World} {Q : Exit → Act → World → Prop}
theorem at_dst (n : Tmp) (h : wpList P ops Q (⟨some n, op, tp, ps, af, gd⟩ :: rest) a w) : wpList P ops Q (⟨some n, op, tp, ps, af, gd⟩ :: rest) a w := h
theorem at_store (ty : TypeId) (x : Tmp) {y : Operand} (h : wpList P ops Q (⟨none, .store ty (.tmp x) y, tp, ps, af, gd⟩ :: rest) a w) : wpList P ops Q (⟨none, .store ty (.tmp x) y, tp, ps, af, gd⟩ :: rest) a w := h
/-- A struct read whole, behind a guard that says yes or without one. -/
theorem load_at {o : Oper} {ty : TypeId} {x : Operand} (ho : o.op = .load ty x) (hgd : Region.wanted o (yielded ops a.tmps) = true) {g : Nat} (hx : a.eval x = .pointer (some ⟨g, 0, none⟩)) {cs : Array Value} {d : TypeDesc}
    (hu : P.underlying ty = some d) (hd : (match d with | .struct _ | .array _ _ => true | _ => false) = true) (hi : (P.info? ty).map (·.size) = some cs.size) {t : TypeId}
    (hW : Blk w g t cs) (h : wpList P ops Q rest (a.put o.dst (.agg cs)) w) : wpList P ops Q (o :: rest) a w :=
  load_blk_g hgd ho hx hu hd hi hW h
end
end Go.Proofs.Ytnmbcdphjmcomaa
