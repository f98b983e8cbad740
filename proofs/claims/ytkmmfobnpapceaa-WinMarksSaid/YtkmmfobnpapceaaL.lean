/- The worlds that a law's region goes through. -/
import Derived.Test.YtkmmfobnpapceaaK
import Derived.Test.YtkmmfobnpapceaaZ
namespace Go.Proofs.Ytkmmfobnpapceaa
open Go.ChangeShapes Go.WideShapes Go.ChangeAt Go.RowKit

/-- One window stands, and nothing older has turned. -/
def Cls1 (w0 : World) (g : Nat) (cs : Array Value) (x : World) : Prop := Blk x g 25 cs ∧ Below w0.heap.size w0 x

theorem cls1_call {w0 : World} {g : Nat} {cs : Array Value} {f : FuncId} {args : Array Value} {v : Value} {n : InCl (Cls1 w0 g cs)}
    (h : Calls Try.prog f args n.w fun e w' => e = .returned v ∧ Below n.w.heap.size n.w w') : Calls Try.prog f args n.w fun e w' => e = .returned v ∧ ∃ m : InCl (Cls1 w0 g cs), w' = m.w :=
  calls_cls (h.mono fun _ _ ⟨he, hb⟩ => ⟨he, n.ok.1.belowSelf hb, n.ok.2.trans (hb.mono n.ok.2.size)⟩)

/-- Two windows stand. -/
def Cls2 (w0 : World) (g : Nat) (cs : Array Value) (g' : Nat) (cs' : Array Value) (x : World) : Prop := Blk x g 25 cs ∧ Blk x g' 25 cs' ∧ Below w0.heap.size w0 x

theorem cls2_call {w0 : World} {g g' : Nat} {cs cs' : Array Value} {f : FuncId} {args : Array Value} {v : Value} {n : InCl (Cls2 w0 g cs g' cs')}
    (h : Calls Try.prog f args n.w fun e w' => e = .returned v ∧ Below n.w.heap.size n.w w') : Calls Try.prog f args n.w fun e w' => e = .returned v ∧ ∃ m : InCl (Cls2 w0 g cs g' cs'), w' = m.w :=
  calls_cls (h.mono fun _ _ ⟨he, hb⟩ => ⟨he, n.ok.1.belowSelf hb, n.ok.2.1.belowSelf hb, n.ok.2.2.trans (hb.mono n.ok.2.2.size)⟩)

/-- The law's head: its examples, and whether its window is right. -/
theorem bounds64 {t : Int} (h : (Lit.int .i64 t).wf = true) : -9223372036854775808 ≤ t ∧ t ≤ 9223372036854775807 := by
  simpa [Lit.wf, IntKind.min, IntKind.max, IntKind.signed, IntKind.bits] using h
theorem bounds16 {t : Int} (h : (Lit.int .u16 t).wf = true) : 0 ≤ t ∧ t ≤ 65535 := by
  simpa [Lit.wf, IntKind.min, IntKind.max, IntKind.signed, IntKind.bits] using h
end Go.Proofs.Ytkmmfobnpapceaa
