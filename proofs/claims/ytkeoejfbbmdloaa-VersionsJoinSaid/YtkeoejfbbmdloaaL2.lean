/-
  The plain law of claims: an order; strictly ascending lists are sets.
-/
import Derived.Test.YtkeoejfbbmdloaaV7
namespace Go.Proofs.Ytkeoejfbbmdloaa
open Go.Own

theorem cmp3_anti (a b : Int) : cmp3 b a = - cmp3 a b := by unfold cmp3; split <;> split <;> (try split) <;> omega
theorem cmp3_zero {a b : Int} : cmp3 a b = 0 ↔ a = b := by unfold cmp3; split <;> (try split) <;> constructor <;> intro h <;> omega
theorem cmp3_lt {a b : Int} : cmp3 a b < 0 ↔ a < b := by unfold cmp3; split <;> (try split) <;> constructor <;> intro h <;> omega

theorem cmpL_anti : ∀ xs ys : List Int, cmpL ys xs = - cmpL xs ys
  | [], [] => rfl
  | [], _ :: _ => rfl
  | _ :: _, [] => rfl
  | x :: xs, y :: ys => by
    simp only [cmpL]
    rw [cmp3_anti x y, cmpL_anti xs ys]
    by_cases h : cmp3 x y = 0
    · simp [h]
    · rw [if_pos h, if_pos (by omega)]
theorem cmpL_eq : ∀ {xs ys : List Int}, xs.length = ys.length → cmpL xs ys = 0 → xs = ys
  | [], [], _, _ => rfl
  | x :: xs, y :: ys, hl, h => by
    simp only [cmpL] at h
    by_cases h0 : cmp3 x y = 0
    · rw [if_neg (by omega)] at h
      rw [cmp3_zero.1 h0, cmpL_eq (by simpa using hl) h]
    · rw [if_pos h0] at h; exact absurd h h0
  | [], _ :: _, hl, _ => by simp at hl
  | _ :: _, [], hl, _ => by simp at hl
theorem cmpL_trans : ∀ {xs ys zs : List Int}, xs.length = ys.length → ys.length = zs.length → cmpL xs ys < 0 → cmpL ys zs < 0 → cmpL xs zs < 0
  | x :: xs, y :: ys, z :: zs, h1, h2, ha, hb => by
    simp only [cmpL] at ha hb ⊢
    by_cases h3 : cmp3 x y = 0
    · have e := cmp3_zero.1 h3
      subst e
      rw [if_neg (by omega)] at ha
      by_cases h4 : cmp3 x z = 0
      · rw [if_neg (by omega)] at hb ⊢
        exact cmpL_trans (by simpa using h1) (by simpa using h2) ha hb
      · rw [if_pos h4] at hb ⊢; exact hb
    · rw [if_pos h3] at ha
      have l1 := cmp3_lt.1 ha
      by_cases h4 : cmp3 y z = 0
      · have e := cmp3_zero.1 h4
        subst e
        rw [if_pos h3]; exact ha
      · rw [if_pos h4] at hb
        have l2 := cmp3_lt.1 hb
        have l3 : cmp3 x z < 0 := cmp3_lt.2 (by omega)
        rw [if_pos (by omega)]; exact l3
  | [], [], _, _, _, ha, _ => by simp [cmpL] at ha
  | [], _ :: _, _, h1, _, _, _ => by simp at h1
  | _ :: _, [], _, h1, _, _, _ => by simp at h1
  | _ :: _, _ :: _, [], _, h2, _, _ => by simp at h2
theorem cmpC_anti (a b : Cl) : cmpC b a = - cmpC a b := cmpL_anti _ _
theorem cmpC_eq {a b : Cl} (h : cmpC a b = 0) : a = b := clI_inj.1 (cmpL_eq rfl h)
theorem cmpC_trans {a b c : Cl} (h1 : cmpC a b < 0) (h2 : cmpC b c < 0) : cmpC a c < 0 := cmpL_trans (xs := clI a) (ys := clI b) (zs := clI c) rfl rfl h1 h2

/-- Less than all of a list. -/
def LtA (x : Cl) (l : List Cl) : Prop := ∀ y ∈ l, cmpC x y < 0
theorem Asc.tail {x : Cl} {l : List Cl} (h : Asc (x :: l)) : Asc l := by
  cases l with
  | nil => trivial
  | cons y r => exact h.2
theorem Asc.head {x : Cl} {l : List Cl} (h : Asc (x :: l)) : LtA x l := by
  induction l generalizing x with
  | nil => intro y hy; cases hy
  | cons y r ih =>
    intro z hz
    rcases List.mem_cons.1 hz with rfl | hz
    · exact h.1
    · exact cmpC_trans h.1 (ih h.2 z hz)
theorem Asc.cons {x : Cl} {l : List Cl} (h : LtA x l) (ha : Asc l) : Asc (x :: l) := by
  cases l with
  | nil => trivial
  | cons y r => exact ⟨h y (List.mem_cons_self ..), ha⟩
theorem LtA.not {x : Cl} {l : List Cl} (h : LtA x l) : x ∉ l := fun hx => by have := h x hx; rw [cmpC_self] at this; omega

/-- Ascending lists with the same claims are equal. -/
theorem Asc.ext : ∀ {l m : List Cl}, Asc l → Asc m → (∀ x, x ∈ l ↔ x ∈ m) → l = m
  | [], [], _, _, _ => rfl
  | [], y :: m, _, _, h => by have := (h y).2 (List.mem_cons_self ..); cases this
  | x :: l, [], _, _, h => by have := (h x).1 (List.mem_cons_self ..); cases this
  | x :: l, y :: m, hl, hm, h => by
    have e : x = y := by
      rcases List.mem_cons.1 ((h x).1 (List.mem_cons_self ..)) with e | e
      · exact e
      · rcases List.mem_cons.1 ((h y).2 (List.mem_cons_self ..)) with e' | e'
        · exact e'.symm
        · have h1 := hm.head x e
          have h2 := hl.head y e'
          rw [cmpC_anti y x] at h2
          omega
    subst e
    rw [Asc.ext hl.tail hm.tail (fun z => ⟨fun hz => by
      rcases List.mem_cons.1 ((h z).1 (List.mem_cons_of_mem _ hz)) with rfl | h1
      · exact absurd hz hl.head.not
      · exact h1, fun hz => by
      rcases List.mem_cons.1 ((h z).2 (List.mem_cons_of_mem _ hz)) with rfl | h1
      · exact absurd hz hm.head.not
      · exact h1⟩)]

theorem wo_mem_of {l o : List Cl} {x : Cl} (h : x ∈ wo l o) : x ∈ l := by
  induction l, o using wo.induct with
  | case1 o => rw [wo_nil] at h; cases h
  | case2 y ys ih =>
    rw [wo_end] at h
    rcases List.mem_cons.1 h with rfl | h
    · exact List.mem_cons_self ..
    · exact List.mem_cons_of_mem _ (ih h)
  | case3 a xs b ys hc ih =>
    rw [wo_cons, if_pos hc] at h
    rcases List.mem_cons.1 h with rfl | h
    · exact List.mem_cons_self ..
    · exact List.mem_cons_of_mem _ (ih h)
  | case4 a xs b ys h1 h2 ih => rw [wo_cons, if_neg h1, if_pos h2] at h; exact ih h
  | case5 a xs b ys h1 h2 ih => rw [wo_cons, if_neg h1, if_neg h2] at h; exact List.mem_cons_of_mem _ (ih h)

theorem wo_mem {l o : List Cl} (hl : Asc l) (ho : Asc o) (x : Cl) : x ∈ wo l o ↔ x ∈ l ∧ x ∉ o := by
  induction l, o using wo.induct with
  | case1 o => rw [wo_nil]; simp
  | case2 y ys ih =>
    rw [wo_end, List.mem_cons, ih hl.tail ho]; simp
  | case3 a xs b ys hc ih =>
    have ha : a ∉ b :: ys := (show LtA a (b :: ys) from fun z hz => by
      rcases List.mem_cons.1 hz with rfl | hz
      · exact hc
      · exact cmpC_trans hc (ho.head z hz)).not
    rw [wo_cons, if_pos hc, List.mem_cons, ih hl.tail ho]
    constructor
    · rintro (rfl | ⟨h1, h2⟩)
      · exact ⟨List.mem_cons_self .., ha⟩
      · exact ⟨List.mem_cons_of_mem _ h1, h2⟩
    · rintro ⟨h1, h2⟩
      rcases List.mem_cons.1 h1 with rfl | h1
      · exact .inl rfl
      · exact .inr ⟨h1, h2⟩
  | case4 a xs b ys h1 h2 ih =>
    rw [wo_cons, if_neg h1, if_pos h2, ih hl ho.tail]
    have hb : b ∉ a :: xs := (show LtA b (a :: xs) from fun z hz => by
      have hba : cmpC b a < 0 := by rw [cmpC_anti a b]; omega
      rcases List.mem_cons.1 hz with rfl | hz
      · exact hba
      · exact cmpC_trans hba (hl.head z hz)).not
    constructor
    · rintro ⟨h3, h4⟩
      exact ⟨h3, fun h5 => by
        rcases List.mem_cons.1 h5 with rfl | h5
        · exact hb h3
        · exact h4 h5⟩
    · rintro ⟨h3, h4⟩
      exact ⟨h3, fun h5 => h4 (List.mem_cons_of_mem _ h5)⟩
  | case5 a xs b ys h1 h2 ih =>
    have e : a = b := cmpC_eq (by omega)
    subst e
    rw [wo_cons, if_neg h1, if_neg h2, ih hl.tail ho]
    constructor
    · rintro ⟨h3, h4⟩
      exact ⟨List.mem_cons_of_mem _ h3, h4⟩
    · rintro ⟨h3, h4⟩
      rcases List.mem_cons.1 h3 with rfl | h3
      · exact absurd (List.mem_cons_self ..) h4
      · exact ⟨h3, h4⟩
theorem wo_asc {l o : List Cl} (hl : Asc l) : Asc (wo l o) := by
  induction l, o using wo.induct with
  | case1 o => rw [wo_nil]; trivial
  | case2 y ys ih => rw [wo_end]; exact Asc.cons (fun z hz => hl.head z (wo_mem_of hz)) (ih hl.tail)
  | case3 a xs b ys hc ih => rw [wo_cons, if_pos hc]; exact Asc.cons (fun z hz => hl.head z (wo_mem_of hz)) (ih hl.tail)
  | case4 a xs b ys h1 h2 ih => rw [wo_cons, if_neg h1, if_pos h2]; exact ih hl
  | case5 a xs b ys h1 h2 ih => rw [wo_cons, if_neg h1, if_neg h2]; exact ih hl.tail
theorem wo_len (l o : List Cl) : (wo l o).length ≤ l.length := by
  induction l, o using wo.induct with
  | case1 o => rw [wo_nil]; exact Nat.le_refl _
  | case2 y ys ih => rw [wo_end]; simp; exact ih
  | case3 a xs b ys hc ih => rw [wo_cons, if_pos hc]; simp; exact ih
  | case4 a xs b ys h1 h2 ih => rw [wo_cons, if_neg h1, if_pos h2]; exact ih
  | case5 a xs b ys h1 h2 ih => rw [wo_cons, if_neg h1, if_neg h2]; simp; omega

end Go.Proofs.Ytkeoejfbbmdloaa
