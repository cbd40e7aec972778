/-
  Plain laws of lists of limbs. No program.
-/
namespace Go.Limbs

/-- Zeros at the end are taken away. -/
def trimL : List Int → List Int
  | [] => []
  | x :: xs => match trimL xs with
    | [] => if x = 0 then [] else [x]
    | y :: ys => x :: y :: ys

theorem trim_snoc (ys : List Int) : trimL (ys ++ [0]) = trimL ys := by
  induction ys with
  | nil => simp [trimL]
  | cons y ys ih => simp only [List.cons_append, trimL, ih]

theorem trim_id {ys : List Int} {z : Int} (hz : z ≠ 0) : trimL (ys ++ [z]) = ys ++ [z] := by
  induction ys with
  | nil => simp [trimL, hz]
  | cons y ys ih =>
    simp only [List.cons_append, trimL, ih]
    cases ys <;> rfl

theorem trim_last {ys : List Int} (h : 0 < ys.length) (h0 : ys.getD (ys.length - 1) 0 = 0) : trimL (ys.take (ys.length - 1)) = trimL ys := by
  obtain ⟨zs, z, rfl⟩ : ∃ zs z, ys = zs ++ [z] := ⟨ys.dropLast, ys.getLast (by intro e; subst e; simp at h), (List.dropLast_concat_getLast _).symm⟩
  simp at h0
  subst h0
  rw [trim_snoc]; simp

theorem trim_done {ys : List Int} (h : 0 < ys.length → ys.getD (ys.length - 1) 0 ≠ 0) : trimL ys = ys := by
  rcases Nat.eq_zero_or_pos ys.length with h0 | h0
  · have : ys = [] := List.eq_nil_of_length_eq_zero h0
    subst this; rfl
  · obtain ⟨zs, z, rfl⟩ : ∃ zs z, ys = zs ++ [z] := ⟨ys.dropLast, ys.getLast (by intro e; subst e; simp at h0), (List.dropLast_concat_getLast _).symm⟩
    have := h h0
    simp at this
    exact trim_id this

theorem trim_len (xs : List Int) : (trimL xs).length ≤ xs.length := by
  induction xs with
  | nil => simp [trimL]
  | cons x xs ih =>
    simp only [trimL]
    split
    · split <;> simp
    · rename_i y ys e; rw [e] at ih; simp at ih ⊢; omega

end Go.Limbs
