/-
  No cell of these rows narrows 'for every input' (looked for: loops, veiled, ifaces, maps, wideKeys, modest, calm, conditions, laid).
  DERIVED. THE GIVEN ROWS OF THIS SEAT. 7 by the template 'for every input the law returns true; each argument reads behind the call as it read before'; 0 by the template 'total and deterministic' (their statements: YtkmmfobnpapceaaTotals.lean).
  GIVEN WITH THE SEED: the statements are not yours to turn. If you find one false, say at which input.
  Laid BY PROGRAM, IN A SANDBOX (cutbox-rows.mjs): the forced cells as the released guide's own fill.sh prints them over the translation 13168eaefd59e407… (all of the seat's roots in one cut). By AI agents, Wed Nov 11 2026. No macro, syntax, notation, axiom, sorry.
-/
import Derived.Test.YtkmmfobnpapceaaChecked
import GoSem.Claim
import GoSem.ClaimJoined
import GoSem.ClaimMapViews
import Derived.JoinedTies
import Derived.KernelRfl
namespace Go.Proofs.Ytkmmfobnpapceaa
/- THE CELL 'sum', in the pinned program and in every row, IS THE sha256 OF THE DUMP (.gsa) THAT YtkmmfobnpapceaaProg.lean LOADS. Nothing in Lean hashes anything: it is a label: what it is worth is what the hold of that sum in a sandbox is worth. -/
noncomputable def Try.pinned : Pinned := { name := "ytkmmfobnpapceaa", sum := "13168eaefd59e4073c228647cd5dd7c5ca6388926c45d8c9f8d913ea5125a725", checked := Try.checked }
namespace Rows
def none {H : Type} : Left H := { results := [], args := [] }

/-- 'yettlaw10.WinTells': WHATEVER THE INPUT: true; the input reads as it did. -/
def winTellsSpec : ChangeSpec := { name := "winTells", fn := fun _ => fun
  | [d1, d2] => { results := [.lit (.bool true)], args := [d1, d2] }
  | _ => none }
def winTellsRow : OpenClaim := { program := "ytkmmfobnpapceaa", sum := "13168eaefd59e4073c228647cd5dd7c5ca6388926c45d8c9f8d913ea5125a725", func := "yett/yettlaw10.WinTells", spec := "winTells", apart := false }
def WinTellsSaid : Prop := winTellsRow.holds Try.pinned (OpenSpec.ofChange winTellsSpec)

/-- ITS FALSE NEIGHBOUR: 'it returns false'. Refute it at one input. -/
def winTellsWrong : ChangeSpec := { name := "winTells", fn := fun _ => fun
  | [d1, d2] => { results := [.lit (.bool false)], args := [d1, d2] }
  | _ => none }
def WinTellsWrongFalsely : Prop := winTellsRow.holds Try.pinned (OpenSpec.ofChange winTellsWrong)

/-- 'yettlaw10.WinMarks': WHATEVER THE INPUT: true; the input reads as it did. -/
def winMarksSpec : ChangeSpec := { name := "winMarks", fn := fun _ => fun
  | [d1, d2] => { results := [.lit (.bool true)], args := [d1, d2] }
  | _ => none }
def winMarksRow : OpenClaim := { program := "ytkmmfobnpapceaa", sum := "13168eaefd59e4073c228647cd5dd7c5ca6388926c45d8c9f8d913ea5125a725", func := "yett/yettlaw10.WinMarks", spec := "winMarks", apart := false }
def WinMarksSaid : Prop := winMarksRow.holds Try.pinned (OpenSpec.ofChange winMarksSpec)

/-- ITS FALSE NEIGHBOUR: 'it returns false'. Refute it at one input. -/
def winMarksWrong : ChangeSpec := { name := "winMarks", fn := fun _ => fun
  | [d1, d2] => { results := [.lit (.bool false)], args := [d1, d2] }
  | _ => none }
def WinMarksWrongFalsely : Prop := winMarksRow.holds Try.pinned (OpenSpec.ofChange winMarksWrong)

/-- 'yettlaw10.WinOnce': WHATEVER THE INPUT: true; the input reads as it did. -/
def winOnceSpec : ChangeSpec := { name := "winOnce", fn := fun _ => fun
  | [d] => { results := [.lit (.bool true)], args := [d] }
  | _ => none }
def winOnceRow : OpenClaim := { program := "ytkmmfobnpapceaa", sum := "13168eaefd59e4073c228647cd5dd7c5ca6388926c45d8c9f8d913ea5125a725", func := "yett/yettlaw10.WinOnce", spec := "winOnce", apart := false }
def WinOnceSaid : Prop := winOnceRow.holds Try.pinned (OpenSpec.ofChange winOnceSpec)

/-- ITS FALSE NEIGHBOUR: 'it returns false'. Refute it at one input. -/
def winOnceWrong : ChangeSpec := { name := "winOnce", fn := fun _ => fun
  | [d] => { results := [.lit (.bool false)], args := [d] }
  | _ => none }
def WinOnceWrongFalsely : Prop := winOnceRow.holds Try.pinned (OpenSpec.ofChange winOnceWrong)

/-- 'yettlaw10.WinLeaves': WHATEVER THE INPUT: true; the input reads as it did. -/
def winLeavesSpec : ChangeSpec := { name := "winLeaves", fn := fun _ => fun
  | [d1, d2, d3] => { results := [.lit (.bool true)], args := [d1, d2, d3] }
  | _ => none }
def winLeavesRow : OpenClaim := { program := "ytkmmfobnpapceaa", sum := "13168eaefd59e4073c228647cd5dd7c5ca6388926c45d8c9f8d913ea5125a725", func := "yett/yettlaw10.WinLeaves", spec := "winLeaves", apart := false }
def WinLeavesSaid : Prop := winLeavesRow.holds Try.pinned (OpenSpec.ofChange winLeavesSpec)

/-- ITS FALSE NEIGHBOUR: 'it returns false'. Refute it at one input. -/
def winLeavesWrong : ChangeSpec := { name := "winLeaves", fn := fun _ => fun
  | [d1, d2, d3] => { results := [.lit (.bool false)], args := [d1, d2, d3] }
  | _ => none }
def WinLeavesWrongFalsely : Prop := winLeavesRow.holds Try.pinned (OpenSpec.ofChange winLeavesWrong)

/-- 'yettlaw10.WinOrder': WHATEVER THE INPUT: true; the input reads as it did. -/
def winOrderSpec : ChangeSpec := { name := "winOrder", fn := fun _ => fun
  | [d1, d2, d3] => { results := [.lit (.bool true)], args := [d1, d2, d3] }
  | _ => none }
def winOrderRow : OpenClaim := { program := "ytkmmfobnpapceaa", sum := "13168eaefd59e4073c228647cd5dd7c5ca6388926c45d8c9f8d913ea5125a725", func := "yett/yettlaw10.WinOrder", spec := "winOrder", apart := false }
def WinOrderSaid : Prop := winOrderRow.holds Try.pinned (OpenSpec.ofChange winOrderSpec)

/-- ITS FALSE NEIGHBOUR: 'it returns false'. Refute it at one input. -/
def winOrderWrong : ChangeSpec := { name := "winOrder", fn := fun _ => fun
  | [d1, d2, d3] => { results := [.lit (.bool false)], args := [d1, d2, d3] }
  | _ => none }
def WinOrderWrongFalsely : Prop := winOrderRow.holds Try.pinned (OpenSpec.ofChange winOrderWrong)

/-- 'yettlaw10.WinEnds': WHATEVER THE INPUT: true; the input reads as it did. -/
def winEndsSpec : ChangeSpec := { name := "winEnds", fn := fun _ => fun
  | [d1, d2] => { results := [.lit (.bool true)], args := [d1, d2] }
  | _ => none }
def winEndsRow : OpenClaim := { program := "ytkmmfobnpapceaa", sum := "13168eaefd59e4073c228647cd5dd7c5ca6388926c45d8c9f8d913ea5125a725", func := "yett/yettlaw10.WinEnds", spec := "winEnds", apart := false }
def WinEndsSaid : Prop := winEndsRow.holds Try.pinned (OpenSpec.ofChange winEndsSpec)

/-- ITS FALSE NEIGHBOUR: 'it returns false'. Refute it at one input. -/
def winEndsWrong : ChangeSpec := { name := "winEnds", fn := fun _ => fun
  | [d1, d2] => { results := [.lit (.bool false)], args := [d1, d2] }
  | _ => none }
def WinEndsWrongFalsely : Prop := winEndsRow.holds Try.pinned (OpenSpec.ofChange winEndsWrong)

/-- 'yettlaw10.WinFirst': WHATEVER THE INPUT: true; the input reads as it did. -/
def winFirstSpec : ChangeSpec := { name := "winFirst", fn := fun _ => fun
  | [d1, d2] => { results := [.lit (.bool true)], args := [d1, d2] }
  | _ => none }
def winFirstRow : OpenClaim := { program := "ytkmmfobnpapceaa", sum := "13168eaefd59e4073c228647cd5dd7c5ca6388926c45d8c9f8d913ea5125a725", func := "yett/yettlaw10.WinFirst", spec := "winFirst", apart := false }
def WinFirstSaid : Prop := winFirstRow.holds Try.pinned (OpenSpec.ofChange winFirstSpec)

/-- ITS FALSE NEIGHBOUR: 'it returns false'. Refute it at one input. -/
def winFirstWrong : ChangeSpec := { name := "winFirst", fn := fun _ => fun
  | [d1, d2] => { results := [.lit (.bool false)], args := [d1, d2] }
  | _ => none }
def WinFirstWrongFalsely : Prop := winFirstRow.holds Try.pinned (OpenSpec.ofChange winFirstWrong)

/- THE SECOND FORM. 'bulk': how many values and letters a reading holds, each counted each time it is reached (what is shared counts as often as it is met; a slice's spare places count too). A statement '..UptoSaid' is the law's where the arguments, and the package variables that the reading takes, are together of bulk at most 1048576: NARROWER than '..Said'. Prove '..Said' where nothing that the law and all that it calls make is longer than what came in: it says more and counts as full. Else prove '..UptoSaid'. A law counts once. -/
mutual
def uptoBulk {H : Type} : DataW H → Nat
  | .lit (.string bytes) => bytes.length + 1
  | .lit _ => 1
  | .nil => 1
  | .ptr d => uptoBulk d + 1
  | .slice elems spare => uptoBulkAll elems + uptoBulkAll spare + 1
  | .agg parts => uptoBulkAll parts + 1
  | .iface _ d => uptoBulk d + 1
  | .map entries => uptoBulkEntries entries + 1
  | .held _ => 1
def uptoBulkAll {H : Type} : List (DataW H) → Nat
  | [] => 0
  | d :: r => uptoBulk d + uptoBulkAll r
def uptoBulkEntries {H : Type} : List (Lit × DataW H) → Nat
  | [] => 0
  | x :: r => uptoBulkEntry x + uptoBulkEntries r
def uptoBulkEntry {H : Type} : Lit × DataW H → Nat
  | (.string bytes, d) => bytes.length + uptoBulk d + 1
  | (_, d) => uptoBulk d + 1
 end
def uptoSmall : (H : Type) → List (DataW H) → Bool := fun _ ds => decide (uptoBulkAll ds ≤ 1048576)
def OpenSpec.upto (s : _root_.Go.ChangeSpec) : _root_.Go.OpenSpec := { _root_.Go.OpenSpec.ofChange s with cond := some uptoSmall }

/-- 'yettlaw10.WinTells', WHERE WHAT IT READS IS OF BULK AT MOST 1048576: true; the input reads as it did. -/
def winTellsUptoRow : OpenClaim := { program := "ytkmmfobnpapceaa", sum := "13168eaefd59e4073c228647cd5dd7c5ca6388926c45d8c9f8d913ea5125a725", func := "yett/yettlaw10.WinTells", spec := "winTells", apart := false, narrowed := true }
def WinTellsUptoSaid : Prop := winTellsUptoRow.holds Try.pinned (OpenSpec.upto winTellsSpec)

/-- 'yettlaw10.WinMarks', WHERE WHAT IT READS IS OF BULK AT MOST 1048576: true; the input reads as it did. -/
def winMarksUptoRow : OpenClaim := { program := "ytkmmfobnpapceaa", sum := "13168eaefd59e4073c228647cd5dd7c5ca6388926c45d8c9f8d913ea5125a725", func := "yett/yettlaw10.WinMarks", spec := "winMarks", apart := false, narrowed := true }
def WinMarksUptoSaid : Prop := winMarksUptoRow.holds Try.pinned (OpenSpec.upto winMarksSpec)

/-- 'yettlaw10.WinOnce', WHERE WHAT IT READS IS OF BULK AT MOST 1048576: true; the input reads as it did. -/
def winOnceUptoRow : OpenClaim := { program := "ytkmmfobnpapceaa", sum := "13168eaefd59e4073c228647cd5dd7c5ca6388926c45d8c9f8d913ea5125a725", func := "yett/yettlaw10.WinOnce", spec := "winOnce", apart := false, narrowed := true }
def WinOnceUptoSaid : Prop := winOnceUptoRow.holds Try.pinned (OpenSpec.upto winOnceSpec)

/-- 'yettlaw10.WinLeaves', WHERE WHAT IT READS IS OF BULK AT MOST 1048576: true; the input reads as it did. -/
def winLeavesUptoRow : OpenClaim := { program := "ytkmmfobnpapceaa", sum := "13168eaefd59e4073c228647cd5dd7c5ca6388926c45d8c9f8d913ea5125a725", func := "yett/yettlaw10.WinLeaves", spec := "winLeaves", apart := false, narrowed := true }
def WinLeavesUptoSaid : Prop := winLeavesUptoRow.holds Try.pinned (OpenSpec.upto winLeavesSpec)

/-- 'yettlaw10.WinOrder', WHERE WHAT IT READS IS OF BULK AT MOST 1048576: true; the input reads as it did. -/
def winOrderUptoRow : OpenClaim := { program := "ytkmmfobnpapceaa", sum := "13168eaefd59e4073c228647cd5dd7c5ca6388926c45d8c9f8d913ea5125a725", func := "yett/yettlaw10.WinOrder", spec := "winOrder", apart := false, narrowed := true }
def WinOrderUptoSaid : Prop := winOrderUptoRow.holds Try.pinned (OpenSpec.upto winOrderSpec)

/-- 'yettlaw10.WinEnds', WHERE WHAT IT READS IS OF BULK AT MOST 1048576: true; the input reads as it did. -/
def winEndsUptoRow : OpenClaim := { program := "ytkmmfobnpapceaa", sum := "13168eaefd59e4073c228647cd5dd7c5ca6388926c45d8c9f8d913ea5125a725", func := "yett/yettlaw10.WinEnds", spec := "winEnds", apart := false, narrowed := true }
def WinEndsUptoSaid : Prop := winEndsUptoRow.holds Try.pinned (OpenSpec.upto winEndsSpec)

/-- 'yettlaw10.WinFirst', WHERE WHAT IT READS IS OF BULK AT MOST 1048576: true; the input reads as it did. -/
def winFirstUptoRow : OpenClaim := { program := "ytkmmfobnpapceaa", sum := "13168eaefd59e4073c228647cd5dd7c5ca6388926c45d8c9f8d913ea5125a725", func := "yett/yettlaw10.WinFirst", spec := "winFirst", apart := false, narrowed := true }
def WinFirstUptoSaid : Prop := winFirstUptoRow.holds Try.pinned (OpenSpec.upto winFirstSpec)

end Rows
end Go.Proofs.Ytkmmfobnpapceaa
