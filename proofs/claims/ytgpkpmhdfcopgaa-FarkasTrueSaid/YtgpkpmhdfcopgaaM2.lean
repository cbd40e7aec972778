/-
  Plain laws: what a list of limbs is worth; the canonical limbs of a number; sums, differences, products and quotients limb by limb. No program.
-/
import Derived.Test.YtgpkpmhdfcopgaaM1
namespace Go.Limbs

abbrev BB : Int := 1073741824

def val : List Int → Int
  | [] => 0
  | x :: xs => x + BB * val xs

/-- All limbs lie in their range. -/
def OKL (xs : List Int) : Prop := ∀ x ∈ xs, 0 ≤ x ∧ x < BB

theorem OKL.nil : OKL [] := fun _ h => by cases h
theorem OKL.cons {x : Int} {xs : List Int} (h : 0 ≤ x ∧ x < BB) (hs : OKL xs) : OKL (x :: xs) := fun y hy => by
  rcases List.mem_cons.1 hy with rfl | hy
  · exact h
  · exact hs y hy
theorem OKL.tail {x : Int} {xs : List Int} (h : OKL (x :: xs)) : OKL xs := fun y hy => h y (List.mem_cons_of_mem _ hy)
theorem OKL.head {x : Int} {xs : List Int} (h : OKL (x :: xs)) : 0 ≤ x ∧ x < BB := h x (List.mem_cons_self ..)
theorem OKL.append {xs ys : List Int} (h : OKL xs) (h' : OKL ys) : OKL (xs ++ ys) := fun y hy => by
  rcases List.mem_append.1 hy with hy | hy
  · exact h y hy
  · exact h' y hy
theorem OKL.take {xs : List Int} (h : OKL xs) (n : Nat) : OKL (xs.take n) := fun y hy => h y (List.mem_of_mem_take hy)
theorem OKL.drop {xs : List Int} (h : OKL xs) (n : Nat) : OKL (xs.drop n) := fun y hy => h y (List.mem_of_mem_drop hy)
theorem OKL.zeros (n : Nat) : OKL (List.replicate n 0) := fun y hy => by rw [List.eq_of_mem_replicate hy]; decide
theorem OKL.set {xs : List Int} (h : OKL xs) (i : Nat) {x : Int} (hx : 0 ≤ x ∧ x < BB) : OKL (xs.set i x) := fun y hy => by
  rcases List.mem_or_eq_of_mem_set hy with hy | rfl
  · exact h y hy
  · exact hx
theorem OKL.get {xs : List Int} (h : OKL xs) (i : Nat) : 0 ≤ xs.getD i 0 ∧ xs.getD i 0 < BB := by
  rw [List.getD_eq_getElem?_getD]
  cases e : xs[i]? with
  | none => decide
  | some x => exact h x (List.mem_of_getElem? e)

theorem val_nonneg {xs : List Int} (h : OKL xs) : 0 ≤ val xs := by
  induction xs with
  | nil => decide
  | cons x xs ih => have := ih h.tail; have := h.head; simp only [val, BB] at *; omega

theorem val_append (xs ys : List Int) : val (xs ++ ys) = val xs + BB ^ xs.length * val ys := by
  induction xs with
  | nil => simp [val]
  | cons x xs ih => simp only [List.cons_append, val, ih, List.length_cons]; grind

theorem val_zeros (n : Nat) : val (List.replicate n 0) = 0 := by
  induction n with
  | zero => rfl
  | succ n ih => simp [List.replicate_succ, val, ih]

theorem val_trim (xs : List Int) : val (trimL xs) = val xs := by
  induction xs with
  | nil => rfl
  | cons x xs ih =>
    simp only [trimL]
    split
    · rename_i e
      rw [e] at ih
      simp only [val] at ih ⊢
      split
      · rename_i e0; subst e0; simp [val, ← ih]
      · simp [val, ← ih]
    · rename_i y ys e; rw [e] at ih; simp only [val] at ih ⊢; rw [ih]

theorem OKL.trim {xs : List Int} (h : OKL xs) : OKL (trimL xs) := by
  induction xs with
  | nil => exact h
  | cons x xs ih =>
    simp only [trimL]
    split
    · split
      · exact OKL.nil
      · exact OKL.cons h.head OKL.nil
    · rename_i y ys e
      have := ih h.tail
      rw [e] at this
      exact OKL.cons h.head this

/-- The limbs of a number. -/
def limbs (n : Nat) : List Int := if h : n = 0 then [] else ((n % 1073741824 : Nat) : Int) :: limbs (n / 1073741824)
termination_by n
decreasing_by exact Nat.div_lt_self (by omega) (by decide)

theorem limbs_zero : limbs 0 = [] := by unfold limbs; rfl
theorem limbs_pos {n : Nat} (h : n ≠ 0) : limbs n = ((n % 1073741824 : Nat) : Int) :: limbs (n / 1073741824) := by rw [limbs]; simp [h]

theorem limbs_ok (n : Nat) : OKL (limbs n) := by
  induction n using Nat.strongRecOn with
  | ind n ih =>
    by_cases h : n = 0
    · subst h; rw [limbs_zero]; exact OKL.nil
    · rw [limbs_pos h]
      refine OKL.cons (by simp only [BB]; omega) (ih _ (Nat.div_lt_self (by omega) (by decide)))

theorem val_limbs (n : Nat) : val (limbs n) = n := by
  induction n using Nat.strongRecOn with
  | ind n ih =>
    by_cases h : n = 0
    · subst h; rw [limbs_zero]; rfl
    · rw [limbs_pos h, val, ih _ (Nat.div_lt_self (by omega) (by decide))]
      simp only [BB]; omega

theorem limbs_nil {n : Nat} (h : limbs n = []) : n = 0 := by
  by_cases h0 : n = 0
  · exact h0
  · rw [limbs_pos h0] at h; cases h

/-- A list without a zero at its end is the limbs of its value. -/
theorem limbs_val {xs : List Int} (h : OKL xs) (ht : trimL xs = xs) : xs = limbs (val xs).toNat := by
  induction xs with
  | nil => simp [val, limbs_zero]
  | cons x xs ih =>
    have hx := h.head
    have hv := val_nonneg h.tail
    have ht2 : trimL xs = xs ∧ ¬ (xs = [] ∧ x = 0) := by
      simp only [trimL] at ht
      split at ht
      · rename_i e
        split at ht
        · cases ht
        · rename_i hne; injection ht with _ h2; subst h2; exact ⟨e, fun h => hne h.2⟩
      · rename_i y ys e; injection ht with _ h2; rw [e, h2]; exact ⟨rfl, fun h => by rw [h.1] at h2; cases h2⟩
    have ih2 := ih h.tail ht2.1
    have hne : (val (x :: xs)).toNat ≠ 0 := by
      intro h0
      simp only [val, BB] at h0
      have hx0 : x = 0 := by simp only [BB] at hx; omega
      have hv0 : val xs = 0 := by omega
      rw [hv0] at ih2
      exact ht2.2 ⟨by rw [ih2]; exact limbs_zero, hx0⟩
    rw [limbs_pos hne]
    simp only [val, BB] at *
    congr 1
    · omega
    · rw [ih2]; congr 1; rw [← ih2]; omega

theorem trim_trim (xs : List Int) : trimL (trimL xs) = trimL xs := by
  induction xs with
  | nil => rfl
  | cons x xs ih =>
    simp only [trimL]
    split
    · split
      · rfl
      · rename_i h; simp [trimL, h]
    · rename_i y ys e; rw [e] at ih; rw [trimL, ih]

theorem trim_limbs {xs : List Int} (h : OKL xs) : trimL xs = limbs (val xs).toNat := by
  have := limbs_val h.trim (trim_trim xs)
  rwa [val_trim] at this

theorem trim_of_limbs (n : Nat) : trimL (limbs n) = limbs n := by rw [trim_limbs (limbs_ok n), val_limbs]; simp

/-! ### The value of the first limbs -/

def pre (xs : List Int) (i : Nat) : Int := val (xs.take i)
theorem pre_zero (xs : List Int) : pre xs 0 = 0 := by simp [pre, val]
theorem pre_succ (xs : List Int) (i : Nat) : pre xs (i + 1) = pre xs i + xs.getD i 0 * BB ^ i := by
  unfold pre
  by_cases h : i < xs.length
  · rw [List.take_succ_eq_append_getElem h, val_append]
    have hl : (xs.take i).length = i := by simp; omega
    rw [hl]
    simp [val, List.getD_eq_getElem?_getD, List.getElem?_eq_getElem h]; grind
  · rw [List.take_of_length_le (by omega), List.take_of_length_le (by omega), List.getD_eq_getElem?_getD, List.getElem?_eq_none (by omega)]; simp
theorem pre_all {xs : List Int} {i : Nat} (h : xs.length ≤ i) : pre xs i = val xs := by unfold pre; rw [List.take_of_length_le h]

theorem set_snoc {zs : List Int} {n : Nat} (x : Int) : (zs ++ List.replicate (n + 1) 0).set zs.length x = (zs ++ [x]) ++ List.replicate n 0 := by
  rw [List.set_append_right _ _ (Nat.le_refl _)]; simp [List.replicate_succ]

/-- How many limbs. -/
theorem limbs_length_le {n k : Nat} (h : n < 1073741824 ^ k) : (limbs n).length ≤ k := by
  induction k generalizing n with
  | zero => have : n = 0 := by omega
            subst this; simp [limbs_zero]
  | succ k ih =>
    by_cases h0 : n = 0
    · subst h0; simp [limbs_zero]
    · rw [limbs_pos h0]
      have : n / 1073741824 < 1073741824 ^ k := by rw [Nat.div_lt_iff_lt_mul (by decide)]; rw [Nat.pow_succ] at h; exact h
      have := ih this
      simp; omega
theorem lt_of_limbs_length {n k : Nat} (h : (limbs n).length ≤ k) : n < 1073741824 ^ k := by
  induction k generalizing n with
  | zero =>
    have : limbs n = [] := List.eq_nil_of_length_eq_zero (by omega)
    have := limbs_nil this
    subst this; decide
  | succ k ih =>
    by_cases h0 : n = 0
    · subst h0; exact Nat.pow_pos (by decide)
    · rw [limbs_pos h0] at h
      have := ih (n := n / 1073741824) (by simpa using h)
      rw [Nat.div_lt_iff_lt_mul (by decide)] at this
      rw [Nat.pow_succ]; exact this

end Go.Limbs
