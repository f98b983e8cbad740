/-
  No cell of these rows narrows 'for every input' (looked for: loops, veiled, ifaces, maps, wideKeys, modest, calm, conditions, laid).
  DERIVED. THE GIVEN ROWS OF THIS SEAT. 6 by the template 'for every input the law returns true; each argument reads behind the call as it read before'; 0 by the template 'total and deterministic' (their statements: YtalmgpcffbccoaaTotals.lean).
  GIVEN WITH THE SEED: the statements are not yours to turn. If you find one false, say at which input.
  Laid BY PROGRAM, IN A SANDBOX (cutbox-rows.mjs): the forced cells as the released guide's own fill.sh prints them over the translation d39e071302d29ef7… (all of the seat's roots in one cut). By AI agents, Wed Nov 11 2026. No macro, syntax, notation, axiom, sorry.
-/
import Derived.Test.YtalmgpcffbccoaaChecked
import GoSem.Claim
import GoSem.ClaimJoined
import GoSem.ClaimMapViews
import Derived.JoinedTies
import Derived.KernelRfl
namespace Go.Proofs.Ytalmgpcffbccoaa
/- THE CELL 'sum', in the pinned program and in every row, IS THE sha256 OF THE DUMP (.gsa) THAT YtalmgpcffbccoaaProg.lean LOADS. Nothing in Lean hashes anything: it is a label: what it is worth is what the hold of that sum in a sandbox is worth. -/
noncomputable def Try.pinned : Pinned := { name := "ytalmgpcffbccoaa", sum := "d39e071302d29ef7aaaac6f34fd5c64ec9aac2ea9d7457ce838a008fc1d32ee4", checked := Try.checked }
namespace Rows
def none {H : Type} : Left H := { results := [], args := [] }

/-- 'yettlaw06.BitmapTells': WHATEVER THE INPUT: true; the input reads as it did. -/
def bitmapTellsSpec : ChangeSpec := { name := "bitmapTells", fn := fun _ => fun
  | [d1, d2] => { results := [.lit (.bool true)], args := [d1, d2] }
  | _ => none }
def bitmapTellsRow : OpenClaim := { program := "ytalmgpcffbccoaa", sum := "d39e071302d29ef7aaaac6f34fd5c64ec9aac2ea9d7457ce838a008fc1d32ee4", func := "yett/yettlaw06.BitmapTells", spec := "bitmapTells", unfollowed := true, recurses := true, apart := false }
def BitmapTellsSaid : Prop := bitmapTellsRow.holds Try.pinned (OpenSpec.ofChange bitmapTellsSpec)

/-- ITS FALSE NEIGHBOUR: 'it returns false'. Refute it at one input. -/
def bitmapTellsWrong : ChangeSpec := { name := "bitmapTells", fn := fun _ => fun
  | [d1, d2] => { results := [.lit (.bool false)], args := [d1, d2] }
  | _ => none }
def BitmapTellsWrongFalsely : Prop := bitmapTellsRow.holds Try.pinned (OpenSpec.ofChange bitmapTellsWrong)

/-- 'yettlaw06.BitmapReads': WHATEVER THE INPUT: true; the input reads as it did. -/
def bitmapReadsSpec : ChangeSpec := { name := "bitmapReads", fn := fun _ => fun
  | [d1, d2] => { results := [.lit (.bool true)], args := [d1, d2] }
  | _ => none }
def bitmapReadsRow : OpenClaim := { program := "ytalmgpcffbccoaa", sum := "d39e071302d29ef7aaaac6f34fd5c64ec9aac2ea9d7457ce838a008fc1d32ee4", func := "yett/yettlaw06.BitmapReads", spec := "bitmapReads", unfollowed := true, recurses := true, apart := false }
def BitmapReadsSaid : Prop := bitmapReadsRow.holds Try.pinned (OpenSpec.ofChange bitmapReadsSpec)

/-- ITS FALSE NEIGHBOUR: 'it returns false'. Refute it at one input. -/
def bitmapReadsWrong : ChangeSpec := { name := "bitmapReads", fn := fun _ => fun
  | [d1, d2] => { results := [.lit (.bool false)], args := [d1, d2] }
  | _ => none }
def BitmapReadsWrongFalsely : Prop := bitmapReadsRow.holds Try.pinned (OpenSpec.ofChange bitmapReadsWrong)

/-- 'yettlaw06.BitmapBack': WHATEVER THE INPUT: true; the input reads as it did. -/
def bitmapBackSpec : ChangeSpec := { name := "bitmapBack", fn := fun _ => fun
  | [d1, d2, d3] => { results := [.lit (.bool true)], args := [d1, d2, d3] }
  | _ => none }
def bitmapBackRow : OpenClaim := { program := "ytalmgpcffbccoaa", sum := "d39e071302d29ef7aaaac6f34fd5c64ec9aac2ea9d7457ce838a008fc1d32ee4", func := "yett/yettlaw06.BitmapBack", spec := "bitmapBack", unfollowed := true, recurses := true, apart := false }
def BitmapBackSaid : Prop := bitmapBackRow.holds Try.pinned (OpenSpec.ofChange bitmapBackSpec)

/-- ITS FALSE NEIGHBOUR: 'it returns false'. Refute it at one input. -/
def bitmapBackWrong : ChangeSpec := { name := "bitmapBack", fn := fun _ => fun
  | [d1, d2, d3] => { results := [.lit (.bool false)], args := [d1, d2, d3] }
  | _ => none }
def BitmapBackWrongFalsely : Prop := bitmapBackRow.holds Try.pinned (OpenSpec.ofChange bitmapBackWrong)

/-- 'yettlaw06.BitmapBits': WHATEVER THE INPUT: true; the input reads as it did. -/
def bitmapBitsSpec : ChangeSpec := { name := "bitmapBits", fn := fun _ => fun
  | [d1, d2] => { results := [.lit (.bool true)], args := [d1, d2] }
  | _ => none }
def bitmapBitsRow : OpenClaim := { program := "ytalmgpcffbccoaa", sum := "d39e071302d29ef7aaaac6f34fd5c64ec9aac2ea9d7457ce838a008fc1d32ee4", func := "yett/yettlaw06.BitmapBits", spec := "bitmapBits", unfollowed := true, recurses := true, apart := false }
def BitmapBitsSaid : Prop := bitmapBitsRow.holds Try.pinned (OpenSpec.ofChange bitmapBitsSpec)

/-- ITS FALSE NEIGHBOUR: 'it returns false'. Refute it at one input. -/
def bitmapBitsWrong : ChangeSpec := { name := "bitmapBits", fn := fun _ => fun
  | [d1, d2] => { results := [.lit (.bool false)], args := [d1, d2] }
  | _ => none }
def BitmapBitsWrongFalsely : Prop := bitmapBitsRow.holds Try.pinned (OpenSpec.ofChange bitmapBitsWrong)

/-- 'yettlaw06.BitmapPlaces': WHATEVER THE INPUT: true; the input reads as it did. -/
def bitmapPlacesSpec : ChangeSpec := { name := "bitmapPlaces", fn := fun _ => fun
  | [d1, d2] => { results := [.lit (.bool true)], args := [d1, d2] }
  | _ => none }
def bitmapPlacesRow : OpenClaim := { program := "ytalmgpcffbccoaa", sum := "d39e071302d29ef7aaaac6f34fd5c64ec9aac2ea9d7457ce838a008fc1d32ee4", func := "yett/yettlaw06.BitmapPlaces", spec := "bitmapPlaces", unfollowed := true, recurses := true, apart := false }
def BitmapPlacesSaid : Prop := bitmapPlacesRow.holds Try.pinned (OpenSpec.ofChange bitmapPlacesSpec)

/-- ITS FALSE NEIGHBOUR: 'it returns false'. Refute it at one input. -/
def bitmapPlacesWrong : ChangeSpec := { name := "bitmapPlaces", fn := fun _ => fun
  | [d1, d2] => { results := [.lit (.bool false)], args := [d1, d2] }
  | _ => none }
def BitmapPlacesWrongFalsely : Prop := bitmapPlacesRow.holds Try.pinned (OpenSpec.ofChange bitmapPlacesWrong)

/-- 'yettlaw06.BitmapCuts': WHATEVER THE INPUT: true; the input reads as it did. -/
def bitmapCutsSpec : ChangeSpec := { name := "bitmapCuts", fn := fun _ => fun
  | [d1, d2] => { results := [.lit (.bool true)], args := [d1, d2] }
  | _ => none }
def bitmapCutsRow : OpenClaim := { program := "ytalmgpcffbccoaa", sum := "d39e071302d29ef7aaaac6f34fd5c64ec9aac2ea9d7457ce838a008fc1d32ee4", func := "yett/yettlaw06.BitmapCuts", spec := "bitmapCuts", unfollowed := true, recurses := true, apart := false }
def BitmapCutsSaid : Prop := bitmapCutsRow.holds Try.pinned (OpenSpec.ofChange bitmapCutsSpec)

/-- ITS FALSE NEIGHBOUR: 'it returns false'. Refute it at one input. -/
def bitmapCutsWrong : ChangeSpec := { name := "bitmapCuts", fn := fun _ => fun
  | [d1, d2] => { results := [.lit (.bool false)], args := [d1, d2] }
  | _ => none }
def BitmapCutsWrongFalsely : Prop := bitmapCutsRow.holds Try.pinned (OpenSpec.ofChange bitmapCutsWrong)

/- THE SECOND FORM. 'bulk': how many values and letters a reading holds, each counted each time it is reached (what is shared counts as often as it is met; a slice's spare places count too). A statement '..UptoSaid' is the law's where the arguments, and the package variables that the reading takes, are together of bulk at most 1048576: NARROWER than '..Said'. Prove '..Said' where nothing that the law and all that it calls make is longer than what came in: it says more and counts as full. Else prove '..UptoSaid'. A law counts once. -/
mutual
def uptoBulk {H : Type} : DataW H → Nat
  | .lit (.string bytes) => bytes.length + 1
  | .lit _ => 1
  | .nil => 1
  | .ptr d => uptoBulk d + 1
  | .slice elems spare => uptoBulkAll elems + uptoBulkAll spare + 1
  | .agg parts => uptoBulkAll parts + 1
  | .iface _ d => uptoBulk d + 1
  | .map entries => uptoBulkEntries entries + 1
  | .held _ => 1
def uptoBulkAll {H : Type} : List (DataW H) → Nat
  | [] => 0
  | d :: r => uptoBulk d + uptoBulkAll r
def uptoBulkEntries {H : Type} : List (Lit × DataW H) → Nat
  | [] => 0
  | x :: r => uptoBulkEntry x + uptoBulkEntries r
def uptoBulkEntry {H : Type} : Lit × DataW H → Nat
  | (.string bytes, d) => bytes.length + uptoBulk d + 1
  | (_, d) => uptoBulk d + 1
 end
def uptoSmall : (H : Type) → List (DataW H) → Bool := fun _ ds => decide (uptoBulkAll ds ≤ 1048576)
def OpenSpec.upto (s : _root_.Go.ChangeSpec) : _root_.Go.OpenSpec := { _root_.Go.OpenSpec.ofChange s with cond := some uptoSmall }

/-- 'yettlaw06.BitmapTells', WHERE WHAT IT READS IS OF BULK AT MOST 1048576: true; the input reads as it did. -/
def bitmapTellsUptoRow : OpenClaim := { program := "ytalmgpcffbccoaa", sum := "d39e071302d29ef7aaaac6f34fd5c64ec9aac2ea9d7457ce838a008fc1d32ee4", func := "yett/yettlaw06.BitmapTells", spec := "bitmapTells", unfollowed := true, recurses := true, apart := false, narrowed := true }
def BitmapTellsUptoSaid : Prop := bitmapTellsUptoRow.holds Try.pinned (OpenSpec.upto bitmapTellsSpec)

/-- 'yettlaw06.BitmapReads', WHERE WHAT IT READS IS OF BULK AT MOST 1048576: true; the input reads as it did. -/
def bitmapReadsUptoRow : OpenClaim := { program := "ytalmgpcffbccoaa", sum := "d39e071302d29ef7aaaac6f34fd5c64ec9aac2ea9d7457ce838a008fc1d32ee4", func := "yett/yettlaw06.BitmapReads", spec := "bitmapReads", unfollowed := true, recurses := true, apart := false, narrowed := true }
def BitmapReadsUptoSaid : Prop := bitmapReadsUptoRow.holds Try.pinned (OpenSpec.upto bitmapReadsSpec)

/-- 'yettlaw06.BitmapBack', WHERE WHAT IT READS IS OF BULK AT MOST 1048576: true; the input reads as it did. -/
def bitmapBackUptoRow : OpenClaim := { program := "ytalmgpcffbccoaa", sum := "d39e071302d29ef7aaaac6f34fd5c64ec9aac2ea9d7457ce838a008fc1d32ee4", func := "yett/yettlaw06.BitmapBack", spec := "bitmapBack", unfollowed := true, recurses := true, apart := false, narrowed := true }
def BitmapBackUptoSaid : Prop := bitmapBackUptoRow.holds Try.pinned (OpenSpec.upto bitmapBackSpec)

/-- 'yettlaw06.BitmapBits', WHERE WHAT IT READS IS OF BULK AT MOST 1048576: true; the input reads as it did. -/
def bitmapBitsUptoRow : OpenClaim := { program := "ytalmgpcffbccoaa", sum := "d39e071302d29ef7aaaac6f34fd5c64ec9aac2ea9d7457ce838a008fc1d32ee4", func := "yett/yettlaw06.BitmapBits", spec := "bitmapBits", unfollowed := true, recurses := true, apart := false, narrowed := true }
def BitmapBitsUptoSaid : Prop := bitmapBitsUptoRow.holds Try.pinned (OpenSpec.upto bitmapBitsSpec)

/-- 'yettlaw06.BitmapPlaces', WHERE WHAT IT READS IS OF BULK AT MOST 1048576: true; the input reads as it did. -/
def bitmapPlacesUptoRow : OpenClaim := { program := "ytalmgpcffbccoaa", sum := "d39e071302d29ef7aaaac6f34fd5c64ec9aac2ea9d7457ce838a008fc1d32ee4", func := "yett/yettlaw06.BitmapPlaces", spec := "bitmapPlaces", unfollowed := true, recurses := true, apart := false, narrowed := true }
def BitmapPlacesUptoSaid : Prop := bitmapPlacesUptoRow.holds Try.pinned (OpenSpec.upto bitmapPlacesSpec)

/-- 'yettlaw06.BitmapCuts', WHERE WHAT IT READS IS OF BULK AT MOST 1048576: true; the input reads as it did. -/
def bitmapCutsUptoRow : OpenClaim := { program := "ytalmgpcffbccoaa", sum := "d39e071302d29ef7aaaac6f34fd5c64ec9aac2ea9d7457ce838a008fc1d32ee4", func := "yett/yettlaw06.BitmapCuts", spec := "bitmapCuts", unfollowed := true, recurses := true, apart := false, narrowed := true }
def BitmapCutsUptoSaid : Prop := bitmapCutsUptoRow.holds Try.pinned (OpenSpec.upto bitmapCutsSpec)

end Rows
end Go.Proofs.Ytalmgpcffbccoaa
