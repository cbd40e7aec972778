/-
  Plain laws: setting one limb; products of limbs. No program.
-/
import Derived.Test.YtgpkpmhdfcopgaaM3
namespace Go.Limbs

theorem val_set {xs : List Int} {p : Nat} (h : p < xs.length) (v : Int) : val (xs.set p v) = val xs + (v - xs.getD p 0) * BB ^ p := by
  induction xs generalizing p with
  | nil => simp at h
  | cons x xs ih =>
    cases p with
    | zero => simp [val]; omega
    | succ p =>
      have := ih (p := p) (by simpa using h)
      simp only [List.set_cons_succ, val, this, List.getD_cons_succ, Int.pow_succ]
      grind
theorem getD_set {xs : List Int} {p j : Nat} (h : p < xs.length) (v : Int) : (xs.set p v).getD j 0 = if p = j then v else xs.getD j 0 := by
  simp only [List.getD_eq_getElem?_getD, List.getElem?_set]
  by_cases hp : p = j
  · subst hp; simp [h]
  · simp [hp]
theorem mul_bd {x y : Int} (hx : 0 ≤ x ∧ x < BB) (hy : 0 ≤ y ∧ y < BB) : 0 ≤ x * y ∧ x * y ≤ 1152921502459363329 := by
  simp only [BB] at hx hy
  refine ⟨Int.mul_nonneg hx.1 hy.1, ?_⟩
  have h1 : x * y ≤ 1073741823 * 1073741823 := Int.mul_le_mul (by omega) (by omega) hy.1 (by omega)
  omega

/-- A list with nothing but zeros from p on is worth its first p limbs. -/
theorem val_of_zeros {xs : List Int} {p : Nat} (h : ∀ j, p ≤ j → xs.getD j 0 = 0) : val xs = pre xs p := by
  have key : ∀ n, pre xs (p + n) = pre xs p := by
    intro n
    induction n with
    | zero => rfl
    | succ n ih => rw [show p + (n + 1) = (p + n) + 1 by omega, pre_succ, ih, h (p + n) (by omega)]; simp
  rw [← key xs.length, pre_all (by omega)]

theorem limbs_mul_len {a b : Nat} : (limbs (a * b)).length ≤ (limbs a).length + (limbs b).length := by
  apply limbs_length_le
  rw [Nat.pow_add]
  exact Nat.mul_lt_mul'' (lt_of_limbs_length (Nat.le_refl _)) (lt_of_limbs_length (Nat.le_refl _))

end Go.Limbs
