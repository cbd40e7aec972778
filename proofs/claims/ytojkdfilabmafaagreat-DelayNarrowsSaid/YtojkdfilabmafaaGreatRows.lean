/-
  No cell of these rows narrows 'for every input' (looked for: loops, veiled, ifaces, maps, wideKeys, modest, calm, conditions, laid).
  DERIVED. THE GIVEN ROWS OF THIS SEAT. 6 by the template 'for every input the law returns true; each argument reads behind the call as it read before'; 0 by the template 'total and deterministic' (their statements: YtojkdfilabmafaaGreatTotals.lean).
  GIVEN WITH THE SEED: the statements are not yours to turn. If you find one false, say at which input.
  Laid BY PROGRAM, IN A SANDBOX (cutbox-rows.mjs): the forced cells as the released guide's own fill.sh prints them over the translation d9fc68947f062b5b… (all of the seat's roots in one cut). By AI agents, Wed Nov 11 2026. No macro, syntax, notation, axiom, sorry.
-/
import Derived.Test.YtojkdfilabmafaaGreatChecked
import GoSem.Claim
import GoSem.ClaimJoined
import GoSem.ClaimMapViews
import Derived.JoinedTies
import Derived.KernelRfl
namespace Go.Proofs.YtojkdfilabmafaaGreat
/- THE CELL 'sum', in the pinned program and in every row, IS THE sha256 OF THE DUMP (.gsa) THAT YtojkdfilabmafaaGreatProg.lean LOADS. Nothing in Lean hashes anything: it is a label: what it is worth is what the hold of that sum in a sandbox is worth. -/
noncomputable def Tryz.pinned : Pinned := { name := "ytojkdfilabmafaagreat", sum := "d9fc68947f062b5b98a0949cbbeaa8e9be33a4ab6f291ac095b736c93c1088c1", checked := Tryz.checked }
namespace Rows
def none {H : Type} : Left H := { results := [], args := [] }

/-- 'routescopelaw36.DelayNarrows': WHATEVER THE INPUT: true; the input reads as it did. -/
def delayNarrowsSpec : ChangeSpec := { name := "delayNarrows", fn := fun _ => fun
  | [d1, d2] => { results := [.lit (.bool true)], args := [d1, d2] }
  | _ => none }
def delayNarrowsRow : OpenClaim := { program := "ytojkdfilabmafaagreat", sum := "d9fc68947f062b5b98a0949cbbeaa8e9be33a4ab6f291ac095b736c93c1088c1", func := "routescope/routescopelaw36.DelayNarrows", spec := "delayNarrows", inPlace := ["slices.overlaps[routescope/linear.whole]"], unfollowed := true, recurses := true, plainKeys := false, apart := false }
def DelayNarrowsSaid : Prop := delayNarrowsRow.holds Tryz.pinned (OpenSpec.ofChange delayNarrowsSpec)

/-- ITS FALSE NEIGHBOUR: 'it returns false'. Refute it at one input. -/
def delayNarrowsWrong : ChangeSpec := { name := "delayNarrows", fn := fun _ => fun
  | [d1, d2] => { results := [.lit (.bool false)], args := [d1, d2] }
  | _ => none }
def DelayNarrowsWrongFalsely : Prop := delayNarrowsRow.holds Tryz.pinned (OpenSpec.ofChange delayNarrowsWrong)

/-- 'routescopelaw36.DelayOne': WHATEVER THE INPUT: true; the input reads as it did. -/
def delayOneSpec : ChangeSpec := { name := "delayOne", fn := fun _ => fun
  | [d1, d2] => { results := [.lit (.bool true)], args := [d1, d2] }
  | _ => none }
def delayOneRow : OpenClaim := { program := "ytojkdfilabmafaagreat", sum := "d9fc68947f062b5b98a0949cbbeaa8e9be33a4ab6f291ac095b736c93c1088c1", func := "routescope/routescopelaw36.DelayOne", spec := "delayOne", inPlace := ["slices.overlaps[routescope/linear.whole]"], unfollowed := true, recurses := true, plainKeys := false, apart := false }
def DelayOneSaid : Prop := delayOneRow.holds Tryz.pinned (OpenSpec.ofChange delayOneSpec)

/-- ITS FALSE NEIGHBOUR: 'it returns false'. Refute it at one input. -/
def delayOneWrong : ChangeSpec := { name := "delayOne", fn := fun _ => fun
  | [d1, d2] => { results := [.lit (.bool false)], args := [d1, d2] }
  | _ => none }
def DelayOneWrongFalsely : Prop := delayOneRow.holds Tryz.pinned (OpenSpec.ofChange delayOneWrong)

/-- 'routescopelaw36.DelayTruth': WHATEVER THE INPUT: true; the input reads as it did. -/
def delayTruthSpec : ChangeSpec := { name := "delayTruth", fn := fun _ => fun
  | [d1, d2, d3] => { results := [.lit (.bool true)], args := [d1, d2, d3] }
  | _ => none }
def delayTruthRow : OpenClaim := { program := "ytojkdfilabmafaagreat", sum := "d9fc68947f062b5b98a0949cbbeaa8e9be33a4ab6f291ac095b736c93c1088c1", func := "routescope/routescopelaw36.DelayTruth", spec := "delayTruth", inPlace := ["slices.overlaps[routescope/linear.whole]"], unfollowed := true, recurses := true, plainKeys := false, apart := false }
def DelayTruthSaid : Prop := delayTruthRow.holds Tryz.pinned (OpenSpec.ofChange delayTruthSpec)

/-- ITS FALSE NEIGHBOUR: 'it returns false'. Refute it at one input. -/
def delayTruthWrong : ChangeSpec := { name := "delayTruth", fn := fun _ => fun
  | [d1, d2, d3] => { results := [.lit (.bool false)], args := [d1, d2, d3] }
  | _ => none }
def DelayTruthWrongFalsely : Prop := delayTruthRow.holds Tryz.pinned (OpenSpec.ofChange delayTruthWrong)

/-- 'routescopelaw36.DelayProved': WHATEVER THE INPUT: true; the input reads as it did. -/
def delayProvedSpec : ChangeSpec := { name := "delayProved", fn := fun _ => fun
  | [d1, d2, d3] => { results := [.lit (.bool true)], args := [d1, d2, d3] }
  | _ => none }
def delayProvedRow : OpenClaim := { program := "ytojkdfilabmafaagreat", sum := "d9fc68947f062b5b98a0949cbbeaa8e9be33a4ab6f291ac095b736c93c1088c1", func := "routescope/routescopelaw36.DelayProved", spec := "delayProved", inPlace := ["slices.overlaps[routescope/linear.whole]"], unfollowed := true, recurses := true, plainKeys := false, apart := false }
def DelayProvedSaid : Prop := delayProvedRow.holds Tryz.pinned (OpenSpec.ofChange delayProvedSpec)

/-- ITS FALSE NEIGHBOUR: 'it returns false'. Refute it at one input. -/
def delayProvedWrong : ChangeSpec := { name := "delayProved", fn := fun _ => fun
  | [d1, d2, d3] => { results := [.lit (.bool false)], args := [d1, d2, d3] }
  | _ => none }
def DelayProvedWrongFalsely : Prop := delayProvedRow.holds Tryz.pinned (OpenSpec.ofChange delayProvedWrong)

/-- 'routescopelaw36.DelaySteps': WHATEVER THE INPUT: true; the input reads as it did. -/
def delayStepsSpec : ChangeSpec := { name := "delaySteps", fn := fun _ => fun
  | [d1, d2, d3, d4, d5] => { results := [.lit (.bool true)], args := [d1, d2, d3, d4, d5] }
  | _ => none }
def delayStepsRow : OpenClaim := { program := "ytojkdfilabmafaagreat", sum := "d9fc68947f062b5b98a0949cbbeaa8e9be33a4ab6f291ac095b736c93c1088c1", func := "routescope/routescopelaw36.DelaySteps", spec := "delaySteps", inPlace := ["slices.overlaps[routescope/linear.whole]"], unfollowed := true, recurses := true, plainKeys := false, apart := false }
def DelayStepsSaid : Prop := delayStepsRow.holds Tryz.pinned (OpenSpec.ofChange delayStepsSpec)

/-- ITS FALSE NEIGHBOUR: 'it returns false'. Refute it at one input. -/
def delayStepsWrong : ChangeSpec := { name := "delaySteps", fn := fun _ => fun
  | [d1, d2, d3, d4, d5] => { results := [.lit (.bool false)], args := [d1, d2, d3, d4, d5] }
  | _ => none }
def DelayStepsWrongFalsely : Prop := delayStepsRow.holds Tryz.pinned (OpenSpec.ofChange delayStepsWrong)

/-- 'routescopelaw36.DelayProves': WHATEVER THE INPUT: true; the input reads as it did. -/
def delayProvesSpec : ChangeSpec := { name := "delayProves", fn := fun _ => fun
  | [d] => { results := [.lit (.bool true)], args := [d] }
  | _ => none }
def delayProvesRow : OpenClaim := { program := "ytojkdfilabmafaagreat", sum := "d9fc68947f062b5b98a0949cbbeaa8e9be33a4ab6f291ac095b736c93c1088c1", func := "routescope/routescopelaw36.DelayProves", spec := "delayProves", inPlace := ["slices.overlaps[routescope/linear.whole]"], unfollowed := true, recurses := true, plainKeys := false, apart := false }
def DelayProvesSaid : Prop := delayProvesRow.holds Tryz.pinned (OpenSpec.ofChange delayProvesSpec)

/-- ITS FALSE NEIGHBOUR: 'it returns false'. Refute it at one input. -/
def delayProvesWrong : ChangeSpec := { name := "delayProves", fn := fun _ => fun
  | [d] => { results := [.lit (.bool false)], args := [d] }
  | _ => none }
def DelayProvesWrongFalsely : Prop := delayProvesRow.holds Tryz.pinned (OpenSpec.ofChange delayProvesWrong)

/- THE SECOND FORM. 'bulk': how many values and letters a reading holds, each counted each time it is reached (what is shared counts as often as it is met; a slice's spare places count too). A statement '..UptoSaid' is the law's where the arguments, and the package variables that the reading takes, are together of bulk at most 1048576: NARROWER than '..Said'. Prove '..Said' where nothing that the law and all that it calls make is longer than what came in: it says more and counts as full. Else prove '..UptoSaid'. A law counts once. -/
mutual
def uptoBulk {H : Type} : DataW H → Nat
  | .lit (.string bytes) => bytes.length + 1
  | .lit _ => 1
  | .nil => 1
  | .ptr d => uptoBulk d + 1
  | .slice elems spare => uptoBulkAll elems + uptoBulkAll spare + 1
  | .agg parts => uptoBulkAll parts + 1
  | .iface _ d => uptoBulk d + 1
  | .map entries => uptoBulkEntries entries + 1
  | .held _ => 1
def uptoBulkAll {H : Type} : List (DataW H) → Nat
  | [] => 0
  | d :: r => uptoBulk d + uptoBulkAll r
def uptoBulkEntries {H : Type} : List (Lit × DataW H) → Nat
  | [] => 0
  | x :: r => uptoBulkEntry x + uptoBulkEntries r
def uptoBulkEntry {H : Type} : Lit × DataW H → Nat
  | (.string bytes, d) => bytes.length + uptoBulk d + 1
  | (_, d) => uptoBulk d + 1
 end
def uptoSmall : (H : Type) → List (DataW H) → Bool := fun _ ds => decide (uptoBulkAll ds ≤ 1048576)
def OpenSpec.upto (s : _root_.Go.ChangeSpec) : _root_.Go.OpenSpec := { _root_.Go.OpenSpec.ofChange s with cond := some uptoSmall }

/-- 'routescopelaw36.DelayNarrows', WHERE WHAT IT READS IS OF BULK AT MOST 1048576: true; the input reads as it did. -/
def delayNarrowsUptoRow : OpenClaim := { program := "ytojkdfilabmafaagreat", sum := "d9fc68947f062b5b98a0949cbbeaa8e9be33a4ab6f291ac095b736c93c1088c1", func := "routescope/routescopelaw36.DelayNarrows", spec := "delayNarrows", inPlace := ["slices.overlaps[routescope/linear.whole]"], unfollowed := true, recurses := true, plainKeys := false, apart := false, narrowed := true }
def DelayNarrowsUptoSaid : Prop := delayNarrowsUptoRow.holds Tryz.pinned (OpenSpec.upto delayNarrowsSpec)

/-- 'routescopelaw36.DelayOne', WHERE WHAT IT READS IS OF BULK AT MOST 1048576: true; the input reads as it did. -/
def delayOneUptoRow : OpenClaim := { program := "ytojkdfilabmafaagreat", sum := "d9fc68947f062b5b98a0949cbbeaa8e9be33a4ab6f291ac095b736c93c1088c1", func := "routescope/routescopelaw36.DelayOne", spec := "delayOne", inPlace := ["slices.overlaps[routescope/linear.whole]"], unfollowed := true, recurses := true, plainKeys := false, apart := false, narrowed := true }
def DelayOneUptoSaid : Prop := delayOneUptoRow.holds Tryz.pinned (OpenSpec.upto delayOneSpec)

/-- 'routescopelaw36.DelayTruth', WHERE WHAT IT READS IS OF BULK AT MOST 1048576: true; the input reads as it did. -/
def delayTruthUptoRow : OpenClaim := { program := "ytojkdfilabmafaagreat", sum := "d9fc68947f062b5b98a0949cbbeaa8e9be33a4ab6f291ac095b736c93c1088c1", func := "routescope/routescopelaw36.DelayTruth", spec := "delayTruth", inPlace := ["slices.overlaps[routescope/linear.whole]"], unfollowed := true, recurses := true, plainKeys := false, apart := false, narrowed := true }
def DelayTruthUptoSaid : Prop := delayTruthUptoRow.holds Tryz.pinned (OpenSpec.upto delayTruthSpec)

/-- 'routescopelaw36.DelayProved', WHERE WHAT IT READS IS OF BULK AT MOST 1048576: true; the input reads as it did. -/
def delayProvedUptoRow : OpenClaim := { program := "ytojkdfilabmafaagreat", sum := "d9fc68947f062b5b98a0949cbbeaa8e9be33a4ab6f291ac095b736c93c1088c1", func := "routescope/routescopelaw36.DelayProved", spec := "delayProved", inPlace := ["slices.overlaps[routescope/linear.whole]"], unfollowed := true, recurses := true, plainKeys := false, apart := false, narrowed := true }
def DelayProvedUptoSaid : Prop := delayProvedUptoRow.holds Tryz.pinned (OpenSpec.upto delayProvedSpec)

/-- 'routescopelaw36.DelaySteps', WHERE WHAT IT READS IS OF BULK AT MOST 1048576: true; the input reads as it did. -/
def delayStepsUptoRow : OpenClaim := { program := "ytojkdfilabmafaagreat", sum := "d9fc68947f062b5b98a0949cbbeaa8e9be33a4ab6f291ac095b736c93c1088c1", func := "routescope/routescopelaw36.DelaySteps", spec := "delaySteps", inPlace := ["slices.overlaps[routescope/linear.whole]"], unfollowed := true, recurses := true, plainKeys := false, apart := false, narrowed := true }
def DelayStepsUptoSaid : Prop := delayStepsUptoRow.holds Tryz.pinned (OpenSpec.upto delayStepsSpec)

/-- 'routescopelaw36.DelayProves', WHERE WHAT IT READS IS OF BULK AT MOST 1048576: true; the input reads as it did. -/
def delayProvesUptoRow : OpenClaim := { program := "ytojkdfilabmafaagreat", sum := "d9fc68947f062b5b98a0949cbbeaa8e9be33a4ab6f291ac095b736c93c1088c1", func := "routescope/routescopelaw36.DelayProves", spec := "delayProves", inPlace := ["slices.overlaps[routescope/linear.whole]"], unfollowed := true, recurses := true, plainKeys := false, apart := false, narrowed := true }
def DelayProvesUptoSaid : Prop := delayProvesUptoRow.holds Tryz.pinned (OpenSpec.upto delayProvesSpec)

end Rows
end Go.Proofs.YtojkdfilabmafaaGreat
