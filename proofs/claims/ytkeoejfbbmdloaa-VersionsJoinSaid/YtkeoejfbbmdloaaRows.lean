/-
  No cell of these rows narrows 'for every input' (looked for: loops, veiled, ifaces, maps, wideKeys, modest, calm, conditions, laid).
  DERIVED. THE GIVEN ROWS OF THIS SEAT. 2 by the template 'for every input the law returns true; each argument reads behind the call as it read before'; 0 by the template 'total and deterministic' (their statements: YtkeoejfbbmdloaaTotals.lean).
  GIVEN WITH THE SEED: the statements are not yours to turn. If you find one false, say at which input.
  Laid BY PROGRAM, IN A SANDBOX (cutbox-rows.mjs): the forced cells as the released guide's own fill.sh prints them over the translation bb09c471d26a1c7d… (all of the seat's roots in one cut). By AI agents, Wed Nov 11 2026. No macro, syntax, notation, axiom, sorry.
-/
import Derived.Test.YtkeoejfbbmdloaaChecked
import GoSem.Claim
import GoSem.ClaimJoined
import GoSem.ClaimMapViews
import Derived.JoinedTies
import Derived.KernelRfl
namespace Go.Proofs.Ytkeoejfbbmdloaa
/- THE CELL 'sum', in the pinned program and in every row, IS THE sha256 OF THE DUMP (.gsa) THAT YtkeoejfbbmdloaaProg.lean LOADS. Nothing in Lean hashes anything: it is a label: what it is worth is what the hold of that sum in a sandbox is worth. -/
noncomputable def Try.pinned : Pinned := { name := "ytkeoejfbbmdloaa", sum := "bb09c471d26a1c7d4c96d603aaead2f46cfcadbc57f553b439104965ce0b2f8e", checked := Try.checked }
namespace Rows
def none {H : Type} : Left H := { results := [], args := [] }

/-- 'routescopelaw40.VersionsBack': WHATEVER THE INPUT: true; the input reads as it did. -/
def versionsBackSpec : ChangeSpec := { name := "versionsBack", fn := fun _ => fun
  | [d] => { results := [.lit (.bool true)], args := [d] }
  | _ => none }
def versionsBackRow : OpenClaim := { program := "ytkeoejfbbmdloaa", sum := "bb09c471d26a1c7d4c96d603aaead2f46cfcadbc57f553b439104965ce0b2f8e", func := "routescope/routescopelaw40.VersionsBack", spec := "versionsBack", unfollowed := true, recurses := true, apart := false }
def VersionsBackSaid : Prop := versionsBackRow.holds Try.pinned (OpenSpec.ofChange versionsBackSpec)

/-- ITS FALSE NEIGHBOUR: 'it returns false'. Refute it at one input. -/
def versionsBackWrong : ChangeSpec := { name := "versionsBack", fn := fun _ => fun
  | [d] => { results := [.lit (.bool false)], args := [d] }
  | _ => none }
def VersionsBackWrongFalsely : Prop := versionsBackRow.holds Try.pinned (OpenSpec.ofChange versionsBackWrong)

/-- 'routescopelaw40.VersionsJoin': WHATEVER THE INPUT: true; the input reads as it did. -/
def versionsJoinSpec : ChangeSpec := { name := "versionsJoin", fn := fun _ => fun
  | [d] => { results := [.lit (.bool true)], args := [d] }
  | _ => none }
def versionsJoinRow : OpenClaim := { program := "ytkeoejfbbmdloaa", sum := "bb09c471d26a1c7d4c96d603aaead2f46cfcadbc57f553b439104965ce0b2f8e", func := "routescope/routescopelaw40.VersionsJoin", spec := "versionsJoin", unfollowed := true, recurses := true, apart := false }
def VersionsJoinSaid : Prop := versionsJoinRow.holds Try.pinned (OpenSpec.ofChange versionsJoinSpec)

/-- ITS FALSE NEIGHBOUR: 'it returns false'. Refute it at one input. -/
def versionsJoinWrong : ChangeSpec := { name := "versionsJoin", fn := fun _ => fun
  | [d] => { results := [.lit (.bool false)], args := [d] }
  | _ => none }
def VersionsJoinWrongFalsely : Prop := versionsJoinRow.holds Try.pinned (OpenSpec.ofChange versionsJoinWrong)

/- THE SECOND FORM. 'bulk': how many values and letters a reading holds, each counted each time it is reached (what is shared counts as often as it is met; a slice's spare places count too). A statement '..UptoSaid' is the law's where the arguments, and the package variables that the reading takes, are together of bulk at most 1048576: NARROWER than '..Said'. Prove '..Said' where nothing that the law and all that it calls make is longer than what came in: it says more and counts as full. Else prove '..UptoSaid'. A law counts once. -/
mutual
def uptoBulk {H : Type} : DataW H → Nat
  | .lit (.string bytes) => bytes.length + 1
  | .lit _ => 1
  | .nil => 1
  | .ptr d => uptoBulk d + 1
  | .slice elems spare => uptoBulkAll elems + uptoBulkAll spare + 1
  | .agg parts => uptoBulkAll parts + 1
  | .iface _ d => uptoBulk d + 1
  | .map entries => uptoBulkEntries entries + 1
  | .held _ => 1
def uptoBulkAll {H : Type} : List (DataW H) → Nat
  | [] => 0
  | d :: r => uptoBulk d + uptoBulkAll r
def uptoBulkEntries {H : Type} : List (Lit × DataW H) → Nat
  | [] => 0
  | x :: r => uptoBulkEntry x + uptoBulkEntries r
def uptoBulkEntry {H : Type} : Lit × DataW H → Nat
  | (.string bytes, d) => bytes.length + uptoBulk d + 1
  | (_, d) => uptoBulk d + 1
 end
def uptoSmall : (H : Type) → List (DataW H) → Bool := fun _ ds => decide (uptoBulkAll ds ≤ 1048576)
def OpenSpec.upto (s : _root_.Go.ChangeSpec) : _root_.Go.OpenSpec := { _root_.Go.OpenSpec.ofChange s with cond := some uptoSmall }

/-- 'routescopelaw40.VersionsBack', WHERE WHAT IT READS IS OF BULK AT MOST 1048576: true; the input reads as it did. -/
def versionsBackUptoRow : OpenClaim := { program := "ytkeoejfbbmdloaa", sum := "bb09c471d26a1c7d4c96d603aaead2f46cfcadbc57f553b439104965ce0b2f8e", func := "routescope/routescopelaw40.VersionsBack", spec := "versionsBack", unfollowed := true, recurses := true, apart := false, narrowed := true }
def VersionsBackUptoSaid : Prop := versionsBackUptoRow.holds Try.pinned (OpenSpec.upto versionsBackSpec)

/-- 'routescopelaw40.VersionsJoin', WHERE WHAT IT READS IS OF BULK AT MOST 1048576: true; the input reads as it did. -/
def versionsJoinUptoRow : OpenClaim := { program := "ytkeoejfbbmdloaa", sum := "bb09c471d26a1c7d4c96d603aaead2f46cfcadbc57f553b439104965ce0b2f8e", func := "routescope/routescopelaw40.VersionsJoin", spec := "versionsJoin", unfollowed := true, recurses := true, apart := false, narrowed := true }
def VersionsJoinUptoSaid : Prop := versionsJoinUptoRow.holds Try.pinned (OpenSpec.upto versionsJoinSpec)

end Rows
end Go.Proofs.Ytkeoejfbbmdloaa
