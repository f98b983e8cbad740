/-
  No cell of these rows narrows 'for every input' (looked for: loops, veiled, ifaces, maps, wideKeys, modest, calm, conditions, laid).
  DERIVED. THE GIVEN ROWS OF THIS SEAT. 5 by the template 'for every input the law returns true; each argument reads behind the call as it read before'; 0 by the template 'total and deterministic' (their statements: YtnmbcdphjmcomaaTotals.lean).
  GIVEN WITH THE SEED: the statements are not yours to turn. If you find one false, say at which input.
  Laid BY PROGRAM, IN A SANDBOX (cutbox-rows.mjs): the forced cells as the released guide's own fill.sh prints them over the translation 2c7b62e7b03a7d39… (all of the seat's roots in one cut). By AI agents, Wed Nov 11 2026. No macro, syntax, notation, axiom, sorry.
-/
import Derived.Test.YtnmbcdphjmcomaaChecked
import GoSem.Claim
import GoSem.ClaimJoined
import GoSem.ClaimMapViews
import Derived.JoinedTies
import Derived.KernelRfl
namespace Go.Proofs.Ytnmbcdphjmcomaa
/- THE CELL 'sum', in the pinned program and in every row, IS THE sha256 OF THE DUMP (.gsa) THAT YtnmbcdphjmcomaaProg.lean LOADS. Nothing in Lean hashes anything: it is a label: what it is worth is what the hold of that sum in a sandbox is worth. -/
noncomputable def Try.pinned : Pinned := { name := "ytnmbcdphjmcomaa", sum := "2c7b62e7b03a7d3985e9d3f36dac3d7c569850d1c1f1c5561424138f96ccd454", checked := Try.checked }
namespace Rows
def none {H : Type} : Left H := { results := [], args := [] }

/-- 'yettlaw15.AskTells': WHATEVER THE INPUT: true; the input reads as it did. -/
def askTellsSpec : ChangeSpec := { name := "askTells", fn := fun _ => fun
  | [d] => { results := [.lit (.bool true)], args := [d] }
  | _ => none }
def askTellsRow : OpenClaim := { program := "ytnmbcdphjmcomaa", sum := "2c7b62e7b03a7d3985e9d3f36dac3d7c569850d1c1f1c5561424138f96ccd454", func := "yett/yettlaw15.AskTells", spec := "askTells", unfollowed := true, recurses := true, apart := false }
def AskTellsSaid : Prop := askTellsRow.holds Try.pinned (OpenSpec.ofChange askTellsSpec)

/-- ITS FALSE NEIGHBOUR: 'it returns false'. Refute it at one input. -/
def askTellsWrong : ChangeSpec := { name := "askTells", fn := fun _ => fun
  | [d] => { results := [.lit (.bool false)], args := [d] }
  | _ => none }
def AskTellsWrongFalsely : Prop := askTellsRow.holds Try.pinned (OpenSpec.ofChange askTellsWrong)

/-- 'yettlaw15.AskTicks': WHATEVER THE INPUT: true; the input reads as it did. -/
def askTicksSpec : ChangeSpec := { name := "askTicks", fn := fun _ => fun
  | [d] => { results := [.lit (.bool true)], args := [d] }
  | _ => none }
def askTicksRow : OpenClaim := { program := "ytnmbcdphjmcomaa", sum := "2c7b62e7b03a7d3985e9d3f36dac3d7c569850d1c1f1c5561424138f96ccd454", func := "yett/yettlaw15.AskTicks", spec := "askTicks", unfollowed := true, recurses := true, apart := false }
def AskTicksSaid : Prop := askTicksRow.holds Try.pinned (OpenSpec.ofChange askTicksSpec)

/-- ITS FALSE NEIGHBOUR: 'it returns false'. Refute it at one input. -/
def askTicksWrong : ChangeSpec := { name := "askTicks", fn := fun _ => fun
  | [d] => { results := [.lit (.bool false)], args := [d] }
  | _ => none }
def AskTicksWrongFalsely : Prop := askTicksRow.holds Try.pinned (OpenSpec.ofChange askTicksWrong)

/-- 'yettlaw15.AskEnds': WHATEVER THE INPUT: true; the input reads as it did. -/
def askEndsSpec : ChangeSpec := { name := "askEnds", fn := fun _ => fun
  | [d] => { results := [.lit (.bool true)], args := [d] }
  | _ => none }
def askEndsRow : OpenClaim := { program := "ytnmbcdphjmcomaa", sum := "2c7b62e7b03a7d3985e9d3f36dac3d7c569850d1c1f1c5561424138f96ccd454", func := "yett/yettlaw15.AskEnds", spec := "askEnds", unfollowed := true, recurses := true, apart := false }
def AskEndsSaid : Prop := askEndsRow.holds Try.pinned (OpenSpec.ofChange askEndsSpec)

/-- ITS FALSE NEIGHBOUR: 'it returns false'. Refute it at one input. -/
def askEndsWrong : ChangeSpec := { name := "askEnds", fn := fun _ => fun
  | [d] => { results := [.lit (.bool false)], args := [d] }
  | _ => none }
def AskEndsWrongFalsely : Prop := askEndsRow.holds Try.pinned (OpenSpec.ofChange askEndsWrong)

/-- 'yettlaw15.AskBegins': WHATEVER THE INPUT: true; the input reads as it did. -/
def askBeginsSpec : ChangeSpec := { name := "askBegins", fn := fun _ => fun
  | [d] => { results := [.lit (.bool true)], args := [d] }
  | _ => none }
def askBeginsRow : OpenClaim := { program := "ytnmbcdphjmcomaa", sum := "2c7b62e7b03a7d3985e9d3f36dac3d7c569850d1c1f1c5561424138f96ccd454", func := "yett/yettlaw15.AskBegins", spec := "askBegins", unfollowed := true, recurses := true, apart := false }
def AskBeginsSaid : Prop := askBeginsRow.holds Try.pinned (OpenSpec.ofChange askBeginsSpec)

/-- ITS FALSE NEIGHBOUR: 'it returns false'. Refute it at one input. -/
def askBeginsWrong : ChangeSpec := { name := "askBegins", fn := fun _ => fun
  | [d] => { results := [.lit (.bool false)], args := [d] }
  | _ => none }
def AskBeginsWrongFalsely : Prop := askBeginsRow.holds Try.pinned (OpenSpec.ofChange askBeginsWrong)

/-- 'yettlaw15.AskStans': WHATEVER THE INPUT: true; the input reads as it did. -/
def askStansSpec : ChangeSpec := { name := "askStans", fn := fun _ => fun
  | [d1, d2] => { results := [.lit (.bool true)], args := [d1, d2] }
  | _ => none }
def askStansRow : OpenClaim := { program := "ytnmbcdphjmcomaa", sum := "2c7b62e7b03a7d3985e9d3f36dac3d7c569850d1c1f1c5561424138f96ccd454", func := "yett/yettlaw15.AskStans", spec := "askStans", unfollowed := true, recurses := true, apart := false }
def AskStansSaid : Prop := askStansRow.holds Try.pinned (OpenSpec.ofChange askStansSpec)

/-- ITS FALSE NEIGHBOUR: 'it returns false'. Refute it at one input. -/
def askStansWrong : ChangeSpec := { name := "askStans", fn := fun _ => fun
  | [d1, d2] => { results := [.lit (.bool false)], args := [d1, d2] }
  | _ => none }
def AskStansWrongFalsely : Prop := askStansRow.holds Try.pinned (OpenSpec.ofChange askStansWrong)

/- THE SECOND FORM. 'bulk': how many values and letters a reading holds, each counted each time it is reached (what is shared counts as often as it is met; a slice's spare places count too). A statement '..UptoSaid' is the law's where the arguments, and the package variables that the reading takes, are together of bulk at most 1048576: NARROWER than '..Said'. Prove '..Said' where nothing that the law and all that it calls make is longer than what came in: it says more and counts as full. Else prove '..UptoSaid'. A law counts once. -/
mutual
def uptoBulk {H : Type} : DataW H → Nat
  | .lit (.string bytes) => bytes.length + 1
  | .lit _ => 1
  | .nil => 1
  | .ptr d => uptoBulk d + 1
  | .slice elems spare => uptoBulkAll elems + uptoBulkAll spare + 1
  | .agg parts => uptoBulkAll parts + 1
  | .iface _ d => uptoBulk d + 1
  | .map entries => uptoBulkEntries entries + 1
  | .held _ => 1
def uptoBulkAll {H : Type} : List (DataW H) → Nat
  | [] => 0
  | d :: r => uptoBulk d + uptoBulkAll r
def uptoBulkEntries {H : Type} : List (Lit × DataW H) → Nat
  | [] => 0
  | x :: r => uptoBulkEntry x + uptoBulkEntries r
def uptoBulkEntry {H : Type} : Lit × DataW H → Nat
  | (.string bytes, d) => bytes.length + uptoBulk d + 1
  | (_, d) => uptoBulk d + 1
 end
def uptoSmall : (H : Type) → List (DataW H) → Bool := fun _ ds => decide (uptoBulkAll ds ≤ 1048576)
def OpenSpec.upto (s : _root_.Go.ChangeSpec) : _root_.Go.OpenSpec := { _root_.Go.OpenSpec.ofChange s with cond := some uptoSmall }

/-- 'yettlaw15.AskTells', WHERE WHAT IT READS IS OF BULK AT MOST 1048576: true; the input reads as it did. -/
def askTellsUptoRow : OpenClaim := { program := "ytnmbcdphjmcomaa", sum := "2c7b62e7b03a7d3985e9d3f36dac3d7c569850d1c1f1c5561424138f96ccd454", func := "yett/yettlaw15.AskTells", spec := "askTells", unfollowed := true, recurses := true, apart := false, narrowed := true }
def AskTellsUptoSaid : Prop := askTellsUptoRow.holds Try.pinned (OpenSpec.upto askTellsSpec)

/-- 'yettlaw15.AskTicks', WHERE WHAT IT READS IS OF BULK AT MOST 1048576: true; the input reads as it did. -/
def askTicksUptoRow : OpenClaim := { program := "ytnmbcdphjmcomaa", sum := "2c7b62e7b03a7d3985e9d3f36dac3d7c569850d1c1f1c5561424138f96ccd454", func := "yett/yettlaw15.AskTicks", spec := "askTicks", unfollowed := true, recurses := true, apart := false, narrowed := true }
def AskTicksUptoSaid : Prop := askTicksUptoRow.holds Try.pinned (OpenSpec.upto askTicksSpec)

/-- 'yettlaw15.AskEnds', WHERE WHAT IT READS IS OF BULK AT MOST 1048576: true; the input reads as it did. -/
def askEndsUptoRow : OpenClaim := { program := "ytnmbcdphjmcomaa", sum := "2c7b62e7b03a7d3985e9d3f36dac3d7c569850d1c1f1c5561424138f96ccd454", func := "yett/yettlaw15.AskEnds", spec := "askEnds", unfollowed := true, recurses := true, apart := false, narrowed := true }
def AskEndsUptoSaid : Prop := askEndsUptoRow.holds Try.pinned (OpenSpec.upto askEndsSpec)

/-- 'yettlaw15.AskBegins', WHERE WHAT IT READS IS OF BULK AT MOST 1048576: true; the input reads as it did. -/
def askBeginsUptoRow : OpenClaim := { program := "ytnmbcdphjmcomaa", sum := "2c7b62e7b03a7d3985e9d3f36dac3d7c569850d1c1f1c5561424138f96ccd454", func := "yett/yettlaw15.AskBegins", spec := "askBegins", unfollowed := true, recurses := true, apart := false, narrowed := true }
def AskBeginsUptoSaid : Prop := askBeginsUptoRow.holds Try.pinned (OpenSpec.upto askBeginsSpec)

/-- 'yettlaw15.AskStans', WHERE WHAT IT READS IS OF BULK AT MOST 1048576: true; the input reads as it did. -/
def askStansUptoRow : OpenClaim := { program := "ytnmbcdphjmcomaa", sum := "2c7b62e7b03a7d3985e9d3f36dac3d7c569850d1c1f1c5561424138f96ccd454", func := "yett/yettlaw15.AskStans", spec := "askStans", unfollowed := true, recurses := true, apart := false, narrowed := true }
def AskStansUptoSaid : Prop := askStansUptoRow.holds Try.pinned (OpenSpec.upto askStansSpec)

end Rows
end Go.Proofs.Ytnmbcdphjmcomaa
