/-
  No cell of these rows narrows 'for every input' (looked for: loops, veiled, ifaces, maps, wideKeys, modest, calm, conditions, laid).
  DERIVED. THE GIVEN ROWS OF THIS SEAT. 6 by the template 'for every input the law returns true; each argument reads behind the call as it read before'; 0 by the template 'total and deterministic' (their statements: YtlkdkbdgnjcopaaGreatTotals.lean).
  GIVEN WITH THE SEED: the statements are not yours to turn. If you find one false, say at which input.
  Laid BY PROGRAM, IN A SANDBOX (cutbox-rows.mjs): the forced cells as the released guide's own fill.sh prints them over the translation 976a65fca84b0d22… (all of the seat's roots in one cut). By AI agents, Wed Nov 11 2026. No macro, syntax, notation, axiom, sorry.
-/
import Derived.Test.YtlkdkbdgnjcopaaGreatChecked
import GoSem.Claim
import GoSem.ClaimJoined
import GoSem.ClaimMapViews
import Derived.JoinedTies
import Derived.KernelRfl
namespace Go.Proofs.YtlkdkbdgnjcopaaGreat
/- THE CELL 'sum', in the pinned program and in every row, IS THE sha256 OF THE DUMP (.gsa) THAT YtlkdkbdgnjcopaaGreatProg.lean LOADS. Nothing in Lean hashes anything: it is a label: what it is worth is what the hold of that sum in a sandbox is worth. -/
noncomputable def Tryz.pinned : Pinned := { name := "ytlkdkbdgnjcopaagreat", sum := "976a65fca84b0d22c9e61abe13dcf4ad7024b3904e7b47c2f06f7e4f29ed1e3f", checked := Tryz.checked }
namespace Rows
def none {H : Type} : Left H := { results := [], args := [] }

/-- 'routescopelaw37.LossTruth': WHATEVER THE INPUT: true; the input reads as it did. -/
def lossTruthSpec : ChangeSpec := { name := "lossTruth", fn := fun _ => fun
  | [d] => { results := [.lit (.bool true)], args := [d] }
  | _ => none }
def lossTruthRow : OpenClaim := { program := "ytlkdkbdgnjcopaagreat", sum := "976a65fca84b0d22c9e61abe13dcf4ad7024b3904e7b47c2f06f7e4f29ed1e3f", func := "routescope/routescopelaw37.LossTruth", spec := "lossTruth", unfollowed := true, recurses := true, plainKeys := false, apart := false }
def LossTruthSaid : Prop := lossTruthRow.holds Tryz.pinned (OpenSpec.ofChange lossTruthSpec)

/-- ITS FALSE NEIGHBOUR: 'it returns false'. Refute it at one input. -/
def lossTruthWrong : ChangeSpec := { name := "lossTruth", fn := fun _ => fun
  | [d] => { results := [.lit (.bool false)], args := [d] }
  | _ => none }
def LossTruthWrongFalsely : Prop := lossTruthRow.holds Tryz.pinned (OpenSpec.ofChange lossTruthWrong)

/-- 'routescopelaw37.LossNear': WHATEVER THE INPUT: true; the input reads as it did. -/
def lossNearSpec : ChangeSpec := { name := "lossNear", fn := fun _ => fun
  | [d] => { results := [.lit (.bool true)], args := [d] }
  | _ => none }
def lossNearRow : OpenClaim := { program := "ytlkdkbdgnjcopaagreat", sum := "976a65fca84b0d22c9e61abe13dcf4ad7024b3904e7b47c2f06f7e4f29ed1e3f", func := "routescope/routescopelaw37.LossNear", spec := "lossNear", unfollowed := true, recurses := true, plainKeys := false, apart := false }
def LossNearSaid : Prop := lossNearRow.holds Tryz.pinned (OpenSpec.ofChange lossNearSpec)

/-- ITS FALSE NEIGHBOUR: 'it returns false'. Refute it at one input. -/
def lossNearWrong : ChangeSpec := { name := "lossNear", fn := fun _ => fun
  | [d] => { results := [.lit (.bool false)], args := [d] }
  | _ => none }
def LossNearWrongFalsely : Prop := lossNearRow.holds Tryz.pinned (OpenSpec.ofChange lossNearWrong)

/-- 'routescopelaw37.LossBudget': WHATEVER THE INPUT: true; the input reads as it did. -/
def lossBudgetSpec : ChangeSpec := { name := "lossBudget", fn := fun _ => fun
  | [d1, d2] => { results := [.lit (.bool true)], args := [d1, d2] }
  | _ => none }
def lossBudgetRow : OpenClaim := { program := "ytlkdkbdgnjcopaagreat", sum := "976a65fca84b0d22c9e61abe13dcf4ad7024b3904e7b47c2f06f7e4f29ed1e3f", func := "routescope/routescopelaw37.LossBudget", spec := "lossBudget", unfollowed := true, recurses := true, plainKeys := false, apart := false }
def LossBudgetSaid : Prop := lossBudgetRow.holds Tryz.pinned (OpenSpec.ofChange lossBudgetSpec)

/-- ITS FALSE NEIGHBOUR: 'it returns false'. Refute it at one input. -/
def lossBudgetWrong : ChangeSpec := { name := "lossBudget", fn := fun _ => fun
  | [d1, d2] => { results := [.lit (.bool false)], args := [d1, d2] }
  | _ => none }
def LossBudgetWrongFalsely : Prop := lossBudgetRow.holds Tryz.pinned (OpenSpec.ofChange lossBudgetWrong)

/-- 'routescopelaw37.LossSteps': WHATEVER THE INPUT: true; the input reads as it did. -/
def lossStepsSpec : ChangeSpec := { name := "lossSteps", fn := fun _ => fun
  | [d1, d2, d3, d4, d5] => { results := [.lit (.bool true)], args := [d1, d2, d3, d4, d5] }
  | _ => none }
def lossStepsRow : OpenClaim := { program := "ytlkdkbdgnjcopaagreat", sum := "976a65fca84b0d22c9e61abe13dcf4ad7024b3904e7b47c2f06f7e4f29ed1e3f", func := "routescope/routescopelaw37.LossSteps", spec := "lossSteps", unfollowed := true, recurses := true, plainKeys := false, apart := false }
def LossStepsSaid : Prop := lossStepsRow.holds Tryz.pinned (OpenSpec.ofChange lossStepsSpec)

/-- ITS FALSE NEIGHBOUR: 'it returns false'. Refute it at one input. -/
def lossStepsWrong : ChangeSpec := { name := "lossSteps", fn := fun _ => fun
  | [d1, d2, d3, d4, d5] => { results := [.lit (.bool false)], args := [d1, d2, d3, d4, d5] }
  | _ => none }
def LossStepsWrongFalsely : Prop := lossStepsRow.holds Tryz.pinned (OpenSpec.ofChange lossStepsWrong)

/-- 'routescopelaw37.LossHolds': WHATEVER THE INPUT: true; the input reads as it did. -/
def lossHoldsSpec : ChangeSpec := { name := "lossHolds", fn := fun _ => fun
  | [d1, d2] => { results := [.lit (.bool true)], args := [d1, d2] }
  | _ => none }
def lossHoldsRow : OpenClaim := { program := "ytlkdkbdgnjcopaagreat", sum := "976a65fca84b0d22c9e61abe13dcf4ad7024b3904e7b47c2f06f7e4f29ed1e3f", func := "routescope/routescopelaw37.LossHolds", spec := "lossHolds", unfollowed := true, recurses := true, plainKeys := false, apart := false }
def LossHoldsSaid : Prop := lossHoldsRow.holds Tryz.pinned (OpenSpec.ofChange lossHoldsSpec)

/-- ITS FALSE NEIGHBOUR: 'it returns false'. Refute it at one input. -/
def lossHoldsWrong : ChangeSpec := { name := "lossHolds", fn := fun _ => fun
  | [d1, d2] => { results := [.lit (.bool false)], args := [d1, d2] }
  | _ => none }
def LossHoldsWrongFalsely : Prop := lossHoldsRow.holds Tryz.pinned (OpenSpec.ofChange lossHoldsWrong)

/-- 'routescopelaw37.LossCovers': WHATEVER THE INPUT: true; the input reads as it did. -/
def lossCoversSpec : ChangeSpec := { name := "lossCovers", fn := fun _ => fun
  | [d] => { results := [.lit (.bool true)], args := [d] }
  | _ => none }
def lossCoversRow : OpenClaim := { program := "ytlkdkbdgnjcopaagreat", sum := "976a65fca84b0d22c9e61abe13dcf4ad7024b3904e7b47c2f06f7e4f29ed1e3f", func := "routescope/routescopelaw37.LossCovers", spec := "lossCovers", unfollowed := true, recurses := true, plainKeys := false, apart := false }
def LossCoversSaid : Prop := lossCoversRow.holds Tryz.pinned (OpenSpec.ofChange lossCoversSpec)

/-- ITS FALSE NEIGHBOUR: 'it returns false'. Refute it at one input. -/
def lossCoversWrong : ChangeSpec := { name := "lossCovers", fn := fun _ => fun
  | [d] => { results := [.lit (.bool false)], args := [d] }
  | _ => none }
def LossCoversWrongFalsely : Prop := lossCoversRow.holds Tryz.pinned (OpenSpec.ofChange lossCoversWrong)

/- THE SECOND FORM. 'bulk': how many values and letters a reading holds, each counted each time it is reached (what is shared counts as often as it is met; a slice's spare places count too). A statement '..UptoSaid' is the law's where the arguments, and the package variables that the reading takes, are together of bulk at most 1048576: NARROWER than '..Said'. Prove '..Said' where nothing that the law and all that it calls make is longer than what came in: it says more and counts as full. Else prove '..UptoSaid'. A law counts once. -/
mutual
def uptoBulk {H : Type} : DataW H → Nat
  | .lit (.string bytes) => bytes.length + 1
  | .lit _ => 1
  | .nil => 1
  | .ptr d => uptoBulk d + 1
  | .slice elems spare => uptoBulkAll elems + uptoBulkAll spare + 1
  | .agg parts => uptoBulkAll parts + 1
  | .iface _ d => uptoBulk d + 1
  | .map entries => uptoBulkEntries entries + 1
  | .held _ => 1
def uptoBulkAll {H : Type} : List (DataW H) → Nat
  | [] => 0
  | d :: r => uptoBulk d + uptoBulkAll r
def uptoBulkEntries {H : Type} : List (Lit × DataW H) → Nat
  | [] => 0
  | x :: r => uptoBulkEntry x + uptoBulkEntries r
def uptoBulkEntry {H : Type} : Lit × DataW H → Nat
  | (.string bytes, d) => bytes.length + uptoBulk d + 1
  | (_, d) => uptoBulk d + 1
 end
def uptoSmall : (H : Type) → List (DataW H) → Bool := fun _ ds => decide (uptoBulkAll ds ≤ 1048576)
def OpenSpec.upto (s : _root_.Go.ChangeSpec) : _root_.Go.OpenSpec := { _root_.Go.OpenSpec.ofChange s with cond := some uptoSmall }

/-- 'routescopelaw37.LossTruth', WHERE WHAT IT READS IS OF BULK AT MOST 1048576: true; the input reads as it did. -/
def lossTruthUptoRow : OpenClaim := { program := "ytlkdkbdgnjcopaagreat", sum := "976a65fca84b0d22c9e61abe13dcf4ad7024b3904e7b47c2f06f7e4f29ed1e3f", func := "routescope/routescopelaw37.LossTruth", spec := "lossTruth", unfollowed := true, recurses := true, plainKeys := false, apart := false, narrowed := true }
def LossTruthUptoSaid : Prop := lossTruthUptoRow.holds Tryz.pinned (OpenSpec.upto lossTruthSpec)

/-- 'routescopelaw37.LossNear', WHERE WHAT IT READS IS OF BULK AT MOST 1048576: true; the input reads as it did. -/
def lossNearUptoRow : OpenClaim := { program := "ytlkdkbdgnjcopaagreat", sum := "976a65fca84b0d22c9e61abe13dcf4ad7024b3904e7b47c2f06f7e4f29ed1e3f", func := "routescope/routescopelaw37.LossNear", spec := "lossNear", unfollowed := true, recurses := true, plainKeys := false, apart := false, narrowed := true }
def LossNearUptoSaid : Prop := lossNearUptoRow.holds Tryz.pinned (OpenSpec.upto lossNearSpec)

/-- 'routescopelaw37.LossBudget', WHERE WHAT IT READS IS OF BULK AT MOST 1048576: true; the input reads as it did. -/
def lossBudgetUptoRow : OpenClaim := { program := "ytlkdkbdgnjcopaagreat", sum := "976a65fca84b0d22c9e61abe13dcf4ad7024b3904e7b47c2f06f7e4f29ed1e3f", func := "routescope/routescopelaw37.LossBudget", spec := "lossBudget", unfollowed := true, recurses := true, plainKeys := false, apart := false, narrowed := true }
def LossBudgetUptoSaid : Prop := lossBudgetUptoRow.holds Tryz.pinned (OpenSpec.upto lossBudgetSpec)

/-- 'routescopelaw37.LossSteps', WHERE WHAT IT READS IS OF BULK AT MOST 1048576: true; the input reads as it did. -/
def lossStepsUptoRow : OpenClaim := { program := "ytlkdkbdgnjcopaagreat", sum := "976a65fca84b0d22c9e61abe13dcf4ad7024b3904e7b47c2f06f7e4f29ed1e3f", func := "routescope/routescopelaw37.LossSteps", spec := "lossSteps", unfollowed := true, recurses := true, plainKeys := false, apart := false, narrowed := true }
def LossStepsUptoSaid : Prop := lossStepsUptoRow.holds Tryz.pinned (OpenSpec.upto lossStepsSpec)

/-- 'routescopelaw37.LossHolds', WHERE WHAT IT READS IS OF BULK AT MOST 1048576: true; the input reads as it did. -/
def lossHoldsUptoRow : OpenClaim := { program := "ytlkdkbdgnjcopaagreat", sum := "976a65fca84b0d22c9e61abe13dcf4ad7024b3904e7b47c2f06f7e4f29ed1e3f", func := "routescope/routescopelaw37.LossHolds", spec := "lossHolds", unfollowed := true, recurses := true, plainKeys := false, apart := false, narrowed := true }
def LossHoldsUptoSaid : Prop := lossHoldsUptoRow.holds Tryz.pinned (OpenSpec.upto lossHoldsSpec)

/-- 'routescopelaw37.LossCovers', WHERE WHAT IT READS IS OF BULK AT MOST 1048576: true; the input reads as it did. -/
def lossCoversUptoRow : OpenClaim := { program := "ytlkdkbdgnjcopaagreat", sum := "976a65fca84b0d22c9e61abe13dcf4ad7024b3904e7b47c2f06f7e4f29ed1e3f", func := "routescope/routescopelaw37.LossCovers", spec := "lossCovers", unfollowed := true, recurses := true, plainKeys := false, apart := false, narrowed := true }
def LossCoversUptoSaid : Prop := lossCoversUptoRow.holds Tryz.pinned (OpenSpec.upto lossCoversSpec)

end Rows
end Go.Proofs.YtlkdkbdgnjcopaaGreat
