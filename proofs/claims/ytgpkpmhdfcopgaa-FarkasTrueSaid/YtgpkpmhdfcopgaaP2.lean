/-
  Facts of the program's tables: fractions and rows.
-/
import Derived.Test.YtgpkpmhdfcopgaaN8
namespace Go.Proofs.Ytgpkpmhdfcopgaa
open Go.Own Go.Limbs

theorem uBool : Try.prog.underlying 4 = some .bool := Try.underlying4
theorem zvFrac : (Try.prog.info? 34).map (·.zero) = some (some (.agg #[.bool false, .slice none 0 0, .slice none 0 0])) := by kernel_rfl
theorem fF0 : fldInfo Try.prog 34 0 = some (0, some 1) := by kernel_rfl
theorem fF1 : fldInfo Try.prog 34 1 = some (1, some 1) := by kernel_rfl
theorem fF2 : fldInfo Try.prog 34 2 = some (2, some 1) := by kernel_rfl
theorem fR0 : fldInfo Try.prog 49 0 = some (0, some 1) := by kernel_rfl
theorem fR1 : fldInfo Try.prog 49 1 = some (1, some 1) := by kernel_rfl
theorem lFrac : LdN Try.prog 34 3 := LdN.of _ Try.underlying34 rfl (by kernel_rfl)
theorem lRow : LdN Try.prog 49 2 := LdN.of _ Try.underlying49 rfl (by kernel_rfl)
theorem szFrac : (Try.prog.info? 34).map (·.size) = some 3 := by kernel_rfl
theorem szRow : (Try.prog.info? 49).map (·.size) = some 2 := by kernel_rfl
theorem bFrac : bInfo Try.prog 34 = some (.agg #[.bool false, .slice none 0 0, .slice none 0 0], [(0, some 1), (1, some 1), (2, some 1)]) := by kernel_rfl
theorem sFracs : SlcT Try.prog 30 34 3 56 (.agg #[.bool false, .slice none 0 0, .slice none 0 0]) := SlcT.of Try.underlying30 (by kernel_rfl) rfl (by decide)
theorem sRows : SlcT Try.prog 26 49 2 32 (.agg #[.slice none 0 0, .int .i64 0]) := SlcT.of Try.underlying26 (by kernel_rfl) rfl (by decide)

/-- A fraction. -/
structure Fr where
  neg : Bool
  num : Nat
  den : Nat

/-- The cells of a fraction. -/
abbrev frCs (f : Fr) : List CT := [boolC f.neg, natC f.num, natC f.den]
abbrev fracC (f : Fr) : CT := .fr (aggT (frCs f))
abbrev fracsC (fs : List Fr) : CT := .fr (sliceT 3 (fs.map frCs))
/-- The zero struct of a fraction. -/
abbrev frac0 : CT := .fr (aggT [boolC false, .ex (.slice none 0 0), .ex (.slice none 0 0)])

end Go.Proofs.Ytgpkpmhdfcopgaa
