/-
  The plain law of claims: sorted lists of valid claims; differences.
-/
import Derived.Test.YtkeoejfbbmdloaaL3
import Derived.Test.YtkeoejfbbmdloaaV9
namespace Go.Proofs.Ytkeoejfbbmdloaa
open Go.Own

theorem Asc.app {a r : List Cl} (ha : Asc a) (hr : Asc r) (h : ∀ x ∈ a, ∀ y ∈ r, cmpC x y < 0) : Asc (a ++ r) := by
  induction a with
  | nil => exact hr
  | cons x a ih =>
    refine Asc.cons (fun z hz => ?_) (ih ha.tail (fun x hx => h x (List.mem_cons_of_mem _ hx)))
    rcases List.mem_append.1 hz with hz | hz
    · exact ha.head z hz
    · exact h x (List.mem_cons_self ..) z hz
theorem Asc.left {a r : List Cl} (h : Asc (a ++ r)) : Asc a := by
  induction a with
  | nil => trivial
  | cons x a ih => exact Asc.cons (fun z hz => h.head z (List.mem_append_left _ hz)) (ih h.tail)
theorem Asc.right {a r : List Cl} (h : Asc (a ++ r)) : Asc r := by
  induction a with
  | nil => exact h
  | cons x a ih => exact ih h.tail
theorem posN_spec (l : List Cl) (c : Cl) : ∀ k, k ≤ l.length → (∀ z ∈ (l.take k).drop (posN l c k), 0 < cmpC z c) ∧ (posN l c k ≠ 0 → ¬ 0 < cmpC (l.getD (posN l c k - 1) c0) c)
  | 0, _ => ⟨by simp [posN], fun h => absurd rfl h⟩
  | k + 1, hk => by
    obtain ⟨h1, h2⟩ := posN_spec l c k (by omega)
    have hle := posN_le l c k
    have ht : l.take (k + 1) = l.take k ++ [l.getD k c0] := by
      rw [List.take_add_one, List.getElem?_eq_getElem (by omega), List.getD_eq_getElem?_getD, List.getElem?_eq_getElem (by omega)]; rfl
    simp only [posN]
    by_cases h : 0 < cmpC (l.getD k c0) c
    · rw [if_pos h]
      refine ⟨fun z hz => ?_, h2⟩
      rw [ht, List.drop_append_of_le_length (by simp; omega)] at hz
      rcases List.mem_append.1 hz with hz | hz
      · exact h1 z hz
      · rw [List.mem_singleton.1 hz]; exact h
    · rw [if_neg h]
      refine ⟨fun z hz => ?_, fun _ => h⟩
      rw [List.drop_of_length_le (by simp; omega)] at hz
      cases hz
theorem put_asc {l : List Cl} {c : Cl} (ha : Asc l) : Asc (put l c) := by
  obtain ⟨h1, h2⟩ := posN_spec l c l.length (Nat.le_refl _)
  have hle := posN_le l c l.length
  rw [List.take_length] at h1
  unfold put
  generalize posN l c l.length = k at *
  split
  · exact ha
  · rename_i hne
    have hs : Asc (l.take k ++ l.drop k) := by rw [List.take_append_drop]; exact ha
    refine Asc.app hs.left (Asc.cons (fun z hz => ?_) hs.right) (fun x hx y hy => ?_)
    · have := h1 z hz
      rw [cmpC_anti z c]; omega
    · have hxc : cmpC x c < 0 := by
        have hk0 : k ≠ 0 := fun h => by subst h; simp at hx
        have ht : l.take k = l.take (k - 1) ++ [l.getD (k - 1) c0] := by
          obtain ⟨q, rfl⟩ : ∃ q, k = q + 1 := ⟨k - 1, by omega⟩
          rw [Nat.add_sub_cancel, List.take_add_one, List.getElem?_eq_getElem (by omega), List.getD_eq_getElem?_getD, List.getElem?_eq_getElem (by omega)]; rfl
        have hlast : cmpC (l.getD (k - 1) c0) c < 0 := by
          have h3 := h2 hk0
          have h4 : cmpC (l.getD (k - 1) c0) c ≠ 0 := fun h => hne ⟨hk0, cmpC_eq h⟩
          omega
        have hsl := hs.left
        rw [ht] at hx hsl
        rcases List.mem_append.1 hx with hx | hx
        · exact cmpC_trans (hsl.unsnoc.2 x hx) hlast
        · rw [List.mem_singleton.1 hx]; exact hlast
      rcases List.mem_cons.1 hy with rfl | hy
      · exact hxc
      · refine cmpC_trans hxc ?_
        have := h1 y hy
        rw [cmpC_anti y c]; omega

/-- A sorted list of valid claims. -/
structure Good (n : Nat) (l : List Cl) : Prop where
  asc : Asc l
  val : ∀ c ∈ l, ValidP c
  len : l.length ≤ n
theorem sortC_good : ∀ (l out : List Cl) (n : Nat), Asc out → (∀ c ∈ out, ValidP c) → out.length + l.length ≤ n → Good n (sortC l out)
  | [], out, n, h1, h2, h3 => ⟨h1, h2, by simpa [sortC] using h3⟩
  | c :: l, out, n, h1, h2, h3 => by
    simp only [sortC]
    by_cases hv : validC c = true
    · rw [if_pos hv]
      have hl := put_len out c
      exact sortC_good l (put out c) n (put_asc h1) (fun x hx => by
        rcases put_mem hx with h | h
        · exact h2 x h
        · rw [h]; exact of_decide_eq_true hv) (by simp at h3; omega)
    · rw [if_neg hv]
      exact sortC_good l out n h1 h2 (by simp at h3; omega)

/-- What the difference of two maps does. -/
structure Step (a b : List Cl) : Prop where
  w : wo (wo a b) (wo b a) = wo a b
  len : (wo a (wo a b)).length + (wo a b).length = a.length
  mc : wo (wo b a) a = wo b a
  res : srt (wo a (wo a b) ++ wo b a) = b
theorem step_ok {a b : List Cl} (ha : Asc a) (hb : Asc b) : Step a b := by
  have m1 := fun x => wo_mem ha hb x
  have m2 := fun x => wo_mem hb ha x
  have a1 : Asc (wo a b) := wo_asc ha
  have a2 : Asc (wo b a) := wo_asc hb
  have m3 := fun x => wo_mem ha a1 x
  have a3 : Asc (wo a (wo a b)) := wo_asc ha
  have d1 : ∀ z, z ∈ wo a (wo a b) → z ∉ wo b a := fun z h1 h2 => ((m2 z).1 h2).2 ((m3 z).1 h1).1
  have s1 := srt_app a3 a2 d1
  have d2 : ∀ z, z ∈ wo a (wo a b) → z ∉ wo a b := fun z h1 h2 => ((m3 z).1 h1).2 h2
  have s2 := srt_app a3 a1 d2
  refine ⟨?_, ?_, ?_, ?_⟩
  · exact Asc.ext (wo_asc a1) a1 (fun x => by
      rw [wo_mem a1 a2, m1, m2]
      constructor
      · exact fun h => h.1
      · exact fun h => ⟨h, fun h' => h.2 h'.1⟩)
  · have e : srt (wo a (wo a b) ++ wo a b) = a := Asc.ext s2.1 ha (fun x => by
      rw [s2.2, m3]
      constructor
      · rintro (h | h)
        · exact h.1
        · exact ((m1 x).1 h).1
      · intro h
        by_cases hx : x ∈ wo a b
        · exact .inr hx
        · exact .inl ⟨h, hx⟩)
    have := congrArg List.length e
    rw [srt_len, List.length_append] at this
    exact this
  · exact Asc.ext (wo_asc a2) a2 (fun x => by
      rw [wo_mem a2 ha, m2]
      constructor
      · exact fun h => h.1
      · exact fun h => ⟨h, h.2⟩)
  · exact Asc.ext s1.1 hb (fun x => by
      rw [s1.2, m3, m1, m2]
      constructor
      · rintro (⟨h1, h2⟩ | h)
        · exact Classical.byContradiction fun h3 => h2 ⟨h1, h3⟩
        · exact h.1
      · intro h
        by_cases hx : x ∈ a
        · exact .inl ⟨hx, fun h' => h'.2 h⟩
        · exact .inr ⟨h, hx⟩)
theorem wo_self {a : List Cl} (ha : Asc a) : wo a a = [] := Asc.ext (wo_asc ha) trivial (fun x => by rw [wo_mem ha ha]; simp)

end Go.Proofs.Ytkeoejfbbmdloaa
