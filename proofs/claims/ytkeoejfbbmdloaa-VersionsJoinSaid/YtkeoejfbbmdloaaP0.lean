/-
  Facts of the program's tables that all walks use: ints and bools, and lists of ints.
-/
import Derived.Test.YtkeoejfbbmdloaaProg
import Derived.Test.YtkeoejfbbmdloaaK7
import Derived.KernelRfl
namespace Go.Proofs.Ytkeoejfbbmdloaa
open Go.Own

theorem mixed : Try.prog.follows .mixedOrders = true := by kernel_rfl
theorem sInts : SlcT Try.prog 73 3 1 8 (.int .i64 0) := SlcT.of Try.underlying73 (by kernel_rfl) rfl (by decide)
theorem lInt : Ld1 Try.prog 3 := Ld1.of _ Try.underlying3 rfl
theorem lBool : Ld1 Try.prog 4 := Ld1.of _ Try.underlying4 rfl
theorem lInts : Ld1 Try.prog 73 := Ld1.of _ Try.underlying73 rfl
theorem zInt : (Try.prog.info? 3).map (·.size) = some 1 := by kernel_rfl

abbrev intC (x : Int) : CT := .ex (.int .i64 x)
abbrev boolC (b : Bool) : CT := .ex (.bool b)
/-- A slice of ints. -/
abbrev intsC (xs : List Int) : CT := .fr (sliceT 1 (xs.map fun x => [intC x]))

/-- The cells of a row of ints. -/
def ints (xs : List Int) : List CT := xs.map intC
@[simp] theorem ints_length (xs : List Int) : (ints xs).length = xs.length := by simp [ints]
theorem ints_set (xs : List Int) (i : Nat) (x : Int) : (ints xs).set i (intC x) = ints (xs.set i x) := by simp [ints, List.map_set]
theorem ints_get {xs : List Int} {i : Nat} (h : i < xs.length) : (ints xs)[i]? = some (intC (xs.getD i 0)) := by
  simp [ints, List.getElem?_eq_getElem h, List.getD_eq_getElem?_getD]
theorem ints_made (n : Nat) : zinit (.int .i64 0) n = ints (List.replicate n 0) := by
  rw [zinit_map]; simp [ints, Value.cells]
theorem flat_one {α β : Type} (f : α → β) (xs : List α) : (xs.map fun x => [f x]).flatten = xs.map f := by
  induction xs with
  | nil => rfl
  | cons x xs ih => simp [ih]
theorem ints_frozen (e : Nat) (xs : List Int) : (Ent.row e 1 (ints xs)).frozen (sliceT 1 (xs.map fun x => [intC x])) :=
  ⟨xs.map fun x => [intC x], (flat_one intC xs).symm, by simp, by decide, rfl⟩

theorem ints_at {xs : List Int} {j : Int} (h0 : 0 ≤ j) (h : j < (xs.length : Int)) : (xs.map fun x => [intC x])[j.toNat]? = some [intC (xs.getD j.toNat 0)] := by
  have hl : j.toNat < xs.length := by omega
  rw [List.getElem?_map, List.getElem?_eq_getElem hl, List.getD_eq_getElem?_getD, List.getElem?_eq_getElem hl]; rfl

end Go.Proofs.Ytkeoejfbbmdloaa
