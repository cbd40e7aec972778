/-
  No cell of these rows narrows 'for every input' (looked for: loops, veiled, ifaces, maps, wideKeys, modest, calm, conditions, laid).
  DERIVED. THE GIVEN ROWS OF THIS SEAT. 8 by the template 'for every input the law returns true; each argument reads behind the call as it read before'; 0 by the template 'total and deterministic' (their statements: YtdhmbgogmoaofaaGreatTotals.lean).
  GIVEN WITH THE SEED: the statements are not yours to turn. If you find one false, say at which input.
  Laid BY PROGRAM, IN A SANDBOX (cutbox-rows.mjs): the forced cells as the released guide's own fill.sh prints them over the translation 2988ae675186b118… (all of the seat's roots in one cut). By AI agents, Wed Nov 11 2026. No macro, syntax, notation, axiom, sorry.
-/
import Derived.Test.YtdhmbgogmoaofaaGreatChecked
import GoSem.Claim
import GoSem.ClaimJoined
import GoSem.ClaimMapViews
import Derived.JoinedTies
import Derived.KernelRfl
namespace Go.Proofs.YtdhmbgogmoaofaaGreat
/- THE CELL 'sum', in the pinned program and in every row, IS THE sha256 OF THE DUMP (.gsa) THAT YtdhmbgogmoaofaaGreatProg.lean LOADS. Nothing in Lean hashes anything: it is a label: what it is worth is what the hold of that sum in a sandbox is worth. -/
noncomputable def Tryz.pinned : Pinned := { name := "ytdhmbgogmoaofaagreat", sum := "2988ae675186b1184b5c05b26b39a957f66ed90c6b0ed4851441c4dd56de8ead", checked := Tryz.checked }
namespace Rows
def none {H : Type} : Left H := { results := [], args := [] }

/-- 'routescopelaw34.LinearPoints': WHATEVER THE INPUT: true; the input reads as it did. -/
def linearPointsSpec : ChangeSpec := { name := "linearPoints", fn := fun _ => fun
  | [d1, d2, d3, d4, d5] => { results := [.lit (.bool true)], args := [d1, d2, d3, d4, d5] }
  | _ => none }
def linearPointsRow : OpenClaim := { program := "ytdhmbgogmoaofaagreat", sum := "2988ae675186b1184b5c05b26b39a957f66ed90c6b0ed4851441c4dd56de8ead", func := "routescope/routescopelaw34.LinearPoints", spec := "linearPoints", inPlace := ["slices.overlaps[routescope/linear.whole]"], unfollowed := true, recurses := true, apart := false }
def LinearPointsSaid : Prop := linearPointsRow.holds Tryz.pinned (OpenSpec.ofChange linearPointsSpec)

/-- ITS FALSE NEIGHBOUR: 'it returns false'. Refute it at one input. -/
def linearPointsWrong : ChangeSpec := { name := "linearPoints", fn := fun _ => fun
  | [d1, d2, d3, d4, d5] => { results := [.lit (.bool false)], args := [d1, d2, d3, d4, d5] }
  | _ => none }
def LinearPointsWrongFalsely : Prop := linearPointsRow.holds Tryz.pinned (OpenSpec.ofChange linearPointsWrong)

/-- 'routescopelaw34.LinearBest': WHATEVER THE INPUT: true; the input reads as it did. -/
def linearBestSpec : ChangeSpec := { name := "linearBest", fn := fun _ => fun
  | [d] => { results := [.lit (.bool true)], args := [d] }
  | _ => none }
def linearBestRow : OpenClaim := { program := "ytdhmbgogmoaofaagreat", sum := "2988ae675186b1184b5c05b26b39a957f66ed90c6b0ed4851441c4dd56de8ead", func := "routescope/routescopelaw34.LinearBest", spec := "linearBest", inPlace := ["slices.overlaps[routescope/linear.whole]"], unfollowed := true, recurses := true, apart := false }
def LinearBestSaid : Prop := linearBestRow.holds Tryz.pinned (OpenSpec.ofChange linearBestSpec)

/-- ITS FALSE NEIGHBOUR: 'it returns false'. Refute it at one input. -/
def linearBestWrong : ChangeSpec := { name := "linearBest", fn := fun _ => fun
  | [d] => { results := [.lit (.bool false)], args := [d] }
  | _ => none }
def LinearBestWrongFalsely : Prop := linearBestRow.holds Tryz.pinned (OpenSpec.ofChange linearBestWrong)

/-- 'routescopelaw34.LinearRows': WHATEVER THE INPUT: true; the input reads as it did. -/
def linearRowsSpec : ChangeSpec := { name := "linearRows", fn := fun _ => fun
  | [d1, d2] => { results := [.lit (.bool true)], args := [d1, d2] }
  | _ => none }
def linearRowsRow : OpenClaim := { program := "ytdhmbgogmoaofaagreat", sum := "2988ae675186b1184b5c05b26b39a957f66ed90c6b0ed4851441c4dd56de8ead", func := "routescope/routescopelaw34.LinearRows", spec := "linearRows", inPlace := ["slices.overlaps[routescope/linear.whole]"], unfollowed := true, recurses := true, apart := false }
def LinearRowsSaid : Prop := linearRowsRow.holds Tryz.pinned (OpenSpec.ofChange linearRowsSpec)

/-- ITS FALSE NEIGHBOUR: 'it returns false'. Refute it at one input. -/
def linearRowsWrong : ChangeSpec := { name := "linearRows", fn := fun _ => fun
  | [d1, d2] => { results := [.lit (.bool false)], args := [d1, d2] }
  | _ => none }
def LinearRowsWrongFalsely : Prop := linearRowsRow.holds Tryz.pinned (OpenSpec.ofChange linearRowsWrong)

/-- 'routescopelaw34.LinearSolves': WHATEVER THE INPUT: true; the input reads as it did. -/
def linearSolvesSpec : ChangeSpec := { name := "linearSolves", fn := fun _ => fun
  | [d1, d2, d3, d4] => { results := [.lit (.bool true)], args := [d1, d2, d3, d4] }
  | _ => none }
def linearSolvesRow : OpenClaim := { program := "ytdhmbgogmoaofaagreat", sum := "2988ae675186b1184b5c05b26b39a957f66ed90c6b0ed4851441c4dd56de8ead", func := "routescope/routescopelaw34.LinearSolves", spec := "linearSolves", inPlace := ["slices.overlaps[routescope/linear.whole]"], unfollowed := true, recurses := true, apart := false }
def LinearSolvesSaid : Prop := linearSolvesRow.holds Tryz.pinned (OpenSpec.ofChange linearSolvesSpec)

/-- ITS FALSE NEIGHBOUR: 'it returns false'. Refute it at one input. -/
def linearSolvesWrong : ChangeSpec := { name := "linearSolves", fn := fun _ => fun
  | [d1, d2, d3, d4] => { results := [.lit (.bool false)], args := [d1, d2, d3, d4] }
  | _ => none }
def LinearSolvesWrongFalsely : Prop := linearSolvesRow.holds Tryz.pinned (OpenSpec.ofChange linearSolvesWrong)

/-- 'routescopelaw34.LinearScales': WHATEVER THE INPUT: true; the input reads as it did. -/
def linearScalesSpec : ChangeSpec := { name := "linearScales", fn := fun _ => fun
  | [d1, d2] => { results := [.lit (.bool true)], args := [d1, d2] }
  | _ => none }
def linearScalesRow : OpenClaim := { program := "ytdhmbgogmoaofaagreat", sum := "2988ae675186b1184b5c05b26b39a957f66ed90c6b0ed4851441c4dd56de8ead", func := "routescope/routescopelaw34.LinearScales", spec := "linearScales", inPlace := ["slices.overlaps[routescope/linear.whole]"], unfollowed := true, recurses := true, apart := false }
def LinearScalesSaid : Prop := linearScalesRow.holds Tryz.pinned (OpenSpec.ofChange linearScalesSpec)

/-- ITS FALSE NEIGHBOUR: 'it returns false'. Refute it at one input. -/
def linearScalesWrong : ChangeSpec := { name := "linearScales", fn := fun _ => fun
  | [d1, d2] => { results := [.lit (.bool false)], args := [d1, d2] }
  | _ => none }
def LinearScalesWrongFalsely : Prop := linearScalesRow.holds Tryz.pinned (OpenSpec.ofChange linearScalesWrong)

/-- 'routescopelaw35.FarkasDual': WHATEVER THE INPUT: true; the input reads as it did. -/
def farkasDualSpec : ChangeSpec := { name := "farkasDual", fn := fun _ => fun
  | [d] => { results := [.lit (.bool true)], args := [d] }
  | _ => none }
def farkasDualRow : OpenClaim := { program := "ytdhmbgogmoaofaagreat", sum := "2988ae675186b1184b5c05b26b39a957f66ed90c6b0ed4851441c4dd56de8ead", func := "routescope/routescopelaw35.FarkasDual", spec := "farkasDual", inPlace := ["slices.overlaps[routescope/linear.whole]"], unfollowed := true, recurses := true, apart := false }
def FarkasDualSaid : Prop := farkasDualRow.holds Tryz.pinned (OpenSpec.ofChange farkasDualSpec)

/-- ITS FALSE NEIGHBOUR: 'it returns false'. Refute it at one input. -/
def farkasDualWrong : ChangeSpec := { name := "farkasDual", fn := fun _ => fun
  | [d] => { results := [.lit (.bool false)], args := [d] }
  | _ => none }
def FarkasDualWrongFalsely : Prop := farkasDualRow.holds Tryz.pinned (OpenSpec.ofChange farkasDualWrong)

/-- 'routescopelaw35.FarkasAccepts': WHATEVER THE INPUT: true; the input reads as it did. -/
def farkasAcceptsSpec : ChangeSpec := { name := "farkasAccepts", fn := fun _ => fun
  | [d] => { results := [.lit (.bool true)], args := [d] }
  | _ => none }
def farkasAcceptsRow : OpenClaim := { program := "ytdhmbgogmoaofaagreat", sum := "2988ae675186b1184b5c05b26b39a957f66ed90c6b0ed4851441c4dd56de8ead", func := "routescope/routescopelaw35.FarkasAccepts", spec := "farkasAccepts", inPlace := ["slices.overlaps[routescope/linear.whole]"], unfollowed := true, recurses := true, apart := false }
def FarkasAcceptsSaid : Prop := farkasAcceptsRow.holds Tryz.pinned (OpenSpec.ofChange farkasAcceptsSpec)

/-- ITS FALSE NEIGHBOUR: 'it returns false'. Refute it at one input. -/
def farkasAcceptsWrong : ChangeSpec := { name := "farkasAccepts", fn := fun _ => fun
  | [d] => { results := [.lit (.bool false)], args := [d] }
  | _ => none }
def FarkasAcceptsWrongFalsely : Prop := farkasAcceptsRow.holds Tryz.pinned (OpenSpec.ofChange farkasAcceptsWrong)

/-- 'routescopelaw35.FarkasChecks': WHATEVER THE INPUT: true; the input reads as it did. -/
def farkasChecksSpec : ChangeSpec := { name := "farkasChecks", fn := fun _ => fun
  | [d1, d2, d3, d4, d5, d6, d7] => { results := [.lit (.bool true)], args := [d1, d2, d3, d4, d5, d6, d7] }
  | _ => none }
def farkasChecksRow : OpenClaim := { program := "ytdhmbgogmoaofaagreat", sum := "2988ae675186b1184b5c05b26b39a957f66ed90c6b0ed4851441c4dd56de8ead", func := "routescope/routescopelaw35.FarkasChecks", spec := "farkasChecks", unfollowed := true, recurses := true, apart := false }
def FarkasChecksSaid : Prop := farkasChecksRow.holds Tryz.pinned (OpenSpec.ofChange farkasChecksSpec)

/-- ITS FALSE NEIGHBOUR: 'it returns false'. Refute it at one input. -/
def farkasChecksWrong : ChangeSpec := { name := "farkasChecks", fn := fun _ => fun
  | [d1, d2, d3, d4, d5, d6, d7] => { results := [.lit (.bool false)], args := [d1, d2, d3, d4, d5, d6, d7] }
  | _ => none }
def FarkasChecksWrongFalsely : Prop := farkasChecksRow.holds Tryz.pinned (OpenSpec.ofChange farkasChecksWrong)

/- THE SECOND FORM. 'bulk': how many values and letters a reading holds, each counted each time it is reached (what is shared counts as often as it is met; a slice's spare places count too). A statement '..UptoSaid' is the law's where the arguments, and the package variables that the reading takes, are together of bulk at most 1048576: NARROWER than '..Said'. Prove '..Said' where nothing that the law and all that it calls make is longer than what came in: it says more and counts as full. Else prove '..UptoSaid'. A law counts once. -/
mutual
def uptoBulk {H : Type} : DataW H → Nat
  | .lit (.string bytes) => bytes.length + 1
  | .lit _ => 1
  | .nil => 1
  | .ptr d => uptoBulk d + 1
  | .slice elems spare => uptoBulkAll elems + uptoBulkAll spare + 1
  | .agg parts => uptoBulkAll parts + 1
  | .iface _ d => uptoBulk d + 1
  | .map entries => uptoBulkEntries entries + 1
  | .held _ => 1
def uptoBulkAll {H : Type} : List (DataW H) → Nat
  | [] => 0
  | d :: r => uptoBulk d + uptoBulkAll r
def uptoBulkEntries {H : Type} : List (Lit × DataW H) → Nat
  | [] => 0
  | x :: r => uptoBulkEntry x + uptoBulkEntries r
def uptoBulkEntry {H : Type} : Lit × DataW H → Nat
  | (.string bytes, d) => bytes.length + uptoBulk d + 1
  | (_, d) => uptoBulk d + 1
 end
def uptoSmall : (H : Type) → List (DataW H) → Bool := fun _ ds => decide (uptoBulkAll ds ≤ 1048576)
def OpenSpec.upto (s : _root_.Go.ChangeSpec) : _root_.Go.OpenSpec := { _root_.Go.OpenSpec.ofChange s with cond := some uptoSmall }

/-- 'routescopelaw34.LinearPoints', WHERE WHAT IT READS IS OF BULK AT MOST 1048576: true; the input reads as it did. -/
def linearPointsUptoRow : OpenClaim := { program := "ytdhmbgogmoaofaagreat", sum := "2988ae675186b1184b5c05b26b39a957f66ed90c6b0ed4851441c4dd56de8ead", func := "routescope/routescopelaw34.LinearPoints", spec := "linearPoints", inPlace := ["slices.overlaps[routescope/linear.whole]"], unfollowed := true, recurses := true, apart := false, narrowed := true }
def LinearPointsUptoSaid : Prop := linearPointsUptoRow.holds Tryz.pinned (OpenSpec.upto linearPointsSpec)

/-- 'routescopelaw34.LinearBest', WHERE WHAT IT READS IS OF BULK AT MOST 1048576: true; the input reads as it did. -/
def linearBestUptoRow : OpenClaim := { program := "ytdhmbgogmoaofaagreat", sum := "2988ae675186b1184b5c05b26b39a957f66ed90c6b0ed4851441c4dd56de8ead", func := "routescope/routescopelaw34.LinearBest", spec := "linearBest", inPlace := ["slices.overlaps[routescope/linear.whole]"], unfollowed := true, recurses := true, apart := false, narrowed := true }
def LinearBestUptoSaid : Prop := linearBestUptoRow.holds Tryz.pinned (OpenSpec.upto linearBestSpec)

/-- 'routescopelaw34.LinearRows', WHERE WHAT IT READS IS OF BULK AT MOST 1048576: true; the input reads as it did. -/
def linearRowsUptoRow : OpenClaim := { program := "ytdhmbgogmoaofaagreat", sum := "2988ae675186b1184b5c05b26b39a957f66ed90c6b0ed4851441c4dd56de8ead", func := "routescope/routescopelaw34.LinearRows", spec := "linearRows", inPlace := ["slices.overlaps[routescope/linear.whole]"], unfollowed := true, recurses := true, apart := false, narrowed := true }
def LinearRowsUptoSaid : Prop := linearRowsUptoRow.holds Tryz.pinned (OpenSpec.upto linearRowsSpec)

/-- 'routescopelaw34.LinearSolves', WHERE WHAT IT READS IS OF BULK AT MOST 1048576: true; the input reads as it did. -/
def linearSolvesUptoRow : OpenClaim := { program := "ytdhmbgogmoaofaagreat", sum := "2988ae675186b1184b5c05b26b39a957f66ed90c6b0ed4851441c4dd56de8ead", func := "routescope/routescopelaw34.LinearSolves", spec := "linearSolves", inPlace := ["slices.overlaps[routescope/linear.whole]"], unfollowed := true, recurses := true, apart := false, narrowed := true }
def LinearSolvesUptoSaid : Prop := linearSolvesUptoRow.holds Tryz.pinned (OpenSpec.upto linearSolvesSpec)

/-- 'routescopelaw34.LinearScales', WHERE WHAT IT READS IS OF BULK AT MOST 1048576: true; the input reads as it did. -/
def linearScalesUptoRow : OpenClaim := { program := "ytdhmbgogmoaofaagreat", sum := "2988ae675186b1184b5c05b26b39a957f66ed90c6b0ed4851441c4dd56de8ead", func := "routescope/routescopelaw34.LinearScales", spec := "linearScales", inPlace := ["slices.overlaps[routescope/linear.whole]"], unfollowed := true, recurses := true, apart := false, narrowed := true }
def LinearScalesUptoSaid : Prop := linearScalesUptoRow.holds Tryz.pinned (OpenSpec.upto linearScalesSpec)

/-- 'routescopelaw35.FarkasDual', WHERE WHAT IT READS IS OF BULK AT MOST 1048576: true; the input reads as it did. -/
def farkasDualUptoRow : OpenClaim := { program := "ytdhmbgogmoaofaagreat", sum := "2988ae675186b1184b5c05b26b39a957f66ed90c6b0ed4851441c4dd56de8ead", func := "routescope/routescopelaw35.FarkasDual", spec := "farkasDual", inPlace := ["slices.overlaps[routescope/linear.whole]"], unfollowed := true, recurses := true, apart := false, narrowed := true }
def FarkasDualUptoSaid : Prop := farkasDualUptoRow.holds Tryz.pinned (OpenSpec.upto farkasDualSpec)

/-- 'routescopelaw35.FarkasAccepts', WHERE WHAT IT READS IS OF BULK AT MOST 1048576: true; the input reads as it did. -/
def farkasAcceptsUptoRow : OpenClaim := { program := "ytdhmbgogmoaofaagreat", sum := "2988ae675186b1184b5c05b26b39a957f66ed90c6b0ed4851441c4dd56de8ead", func := "routescope/routescopelaw35.FarkasAccepts", spec := "farkasAccepts", inPlace := ["slices.overlaps[routescope/linear.whole]"], unfollowed := true, recurses := true, apart := false, narrowed := true }
def FarkasAcceptsUptoSaid : Prop := farkasAcceptsUptoRow.holds Tryz.pinned (OpenSpec.upto farkasAcceptsSpec)

/-- 'routescopelaw35.FarkasChecks', WHERE WHAT IT READS IS OF BULK AT MOST 1048576: true; the input reads as it did. -/
def farkasChecksUptoRow : OpenClaim := { program := "ytdhmbgogmoaofaagreat", sum := "2988ae675186b1184b5c05b26b39a957f66ed90c6b0ed4851441c4dd56de8ead", func := "routescope/routescopelaw35.FarkasChecks", spec := "farkasChecks", unfollowed := true, recurses := true, apart := false, narrowed := true }
def FarkasChecksUptoSaid : Prop := farkasChecksUptoRow.holds Tryz.pinned (OpenSpec.upto farkasChecksSpec)

end Rows
end Go.Proofs.YtdhmbgogmoaofaaGreat
