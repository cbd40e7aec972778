/-
  The plain law: weak duality over the integers. Where a point satisfies the rows and the combined rows cover the goal, the value of the point is at most the combined bound.
-/
import Derived.Test.YtgpkpmhdfcopgaaN18
namespace Go.Proofs.Ytgpkpmhdfcopgaa
open Go.Own Go.Limbs

def sm (f : Nat → Int) : Nat → Int
  | 0 => 0
  | k + 1 => sm f k + f k
theorem sm_congr {f g : Nat → Int} : ∀ {n : Nat}, (∀ k, k < n → f k = g k) → sm f n = sm g n
  | 0, _ => rfl
  | n + 1, h => by simp only [sm]; rw [sm_congr fun k hk => h k (by omega), h n (by omega)]
theorem sm_le {f g : Nat → Int} : ∀ {n : Nat}, (∀ k, k < n → f k ≤ g k) → sm f n ≤ sm g n
  | 0, _ => Int.le_refl _
  | n + 1, h => by simp only [sm]; have := sm_le (n := n) fun k hk => h k (by omega); have := h n (by omega); omega
theorem sm_mul (f : Nat → Int) (c : Int) : ∀ n : Nat, sm (fun k => f k * c) n = sm f n * c
  | 0 => by simp [sm]
  | n + 1 => by simp only [sm]; rw [sm_mul f c n, Int.add_mul]
theorem sm_add (f g : Nat → Int) : ∀ n : Nat, sm (fun k => f k + g k) n = sm f n + sm g n
  | 0 => rfl
  | n + 1 => by simp only [sm]; rw [sm_add f g n]; omega
theorem sm_zero : ∀ n : Nat, sm (fun _ => 0) n = 0
  | 0 => rfl
  | n + 1 => by simp only [sm]; rw [sm_zero n]; rfl
theorem sm_swap (a : Nat → Nat → Int) (m : Nat) : ∀ n : Nat, sm (fun j => sm (fun i => a i j) m) n = sm (fun i => sm (fun j => a i j) n) m
  | 0 => by simp only [sm]; rw [sm_zero]
  | n + 1 => by simp only [sm]; rw [sm_swap a m n, sm_add]

theorem dotN_sm (c x : List Int) : ∀ n : Nat, dotN c x n = sm (fun k => c.getD k 0 * x.getD k 0) n
  | 0 => rfl
  | n + 1 => by simp only [sm, dotN]; rw [dotN_sm c x n]
theorem getD_out {c : List Int} {k : Nat} (h : c.length ≤ k) : c.getD k 0 = 0 := by
  rw [List.getD_eq_getElem?_getD, List.getElem?_eq_none h]; rfl
theorem dotN_ge (c x : List Int) : ∀ n : Nat, min c.length x.length ≤ n → dotN c x n = dot c x := by
  intro n h
  unfold dot
  induction n with
  | zero => rw [show min c.length x.length = 0 by omega]
  | succ n ih =>
    by_cases h1 : min c.length x.length ≤ n
    · simp only [dotN]; rw [ih h1]
      have : c.getD n 0 * x.getD n 0 = 0 := by
        rcases (by omega : c.length ≤ n ∨ x.length ≤ n) with h2 | h2
        · rw [getD_out h2, Int.zero_mul]
        · rw [getD_out h2, Int.mul_zero]
      omega
    · rw [show min c.length x.length = n + 1 by omega]
theorem dot_sm (c x : List Int) (n : Nat) (h : min c.length x.length ≤ n) : dot c x = sm (fun k => c.getD k 0 * x.getD k 0) n := by rw [← dotN_ge c x n h, dotN_sm]

theorem getD_map {α : Type} (f : α → Int) (z : α) {xs : List α} {k : Nat} (h : k < xs.length) : (xs.map f).getD k 0 = f (xs.getD k z) := by
  simp [List.getD_eq_getElem?_getD, List.getElem?_map, List.getElem?_eq_getElem h]

theorem covB_spec {os c : List Int} (h : covB os c = true) : c.length ≤ os.length ∧ ∀ j, j < os.length → 12 * c.getD j 0 ≤ os.getD j 0 := by
  unfold covB at h
  simp only [Bool.and_eq_true, decide_eq_true_eq, List.all_eq_true, List.mem_range] at h
  exact h
theorem cols_at (rs : List Rw) (ys : List Int) (n : Nat) {j : Nat} (h : j < n) : (cols rs ys n).getD j 0 = col rs ys j := by
  unfold cols
  simp [List.getD_eq_getElem?_getD, List.getElem?_map, h]

/-- Weak duality. -/
theorem weak_dual (rs : List Rw) (ys xs c : List Int) (hl : ys.length = rs.length) (hy : ∀ y ∈ ys, 0 ≤ y) (hx : ∀ x ∈ xs, 0 ≤ x)
    (hc : covB (cols rs ys xs.length) c = true) (hs : ∀ r ∈ rs, dot r.cs xs ≤ 12 * r.b) : dot c xs ≤ bsum rs ys := by
  obtain ⟨h1, h2⟩ := covB_spec hc
  have hcl : (cols rs ys xs.length).length = xs.length := by simp [cols]
  rw [hcl] at h1 h2
  have e1 : sm (fun k => 12 * c.getD k 0 * xs.getD k 0) xs.length = 12 * dot c xs := by
    rw [dot_sm c xs xs.length (by omega)]
    rw [Int.mul_comm, ← sm_mul]
    exact sm_congr fun k _ => by rw [Int.mul_assoc, Int.mul_comm]
  have e2 : sm (fun k => 12 * c.getD k 0 * xs.getD k 0) xs.length ≤ sm (fun k => col rs ys k * xs.getD k 0) xs.length :=
    sm_le fun k hk => by
      have h3 := h2 k hk
      rw [cols_at rs ys _ hk] at h3
      exact Int.mul_le_mul_of_nonneg_right h3 (hx _ (getD_mem hk))
  have e3 : sm (fun k => col rs ys k * xs.getD k 0) xs.length = sm (fun k => sm (fun i => (rs.getD i rw0).cs.getD k 0 * ys.getD i 0 * xs.getD k 0) rs.length) xs.length :=
    sm_congr fun k _ => by
      unfold col
      rw [dot_sm _ _ rs.length (by simp; omega), ← sm_mul]
      exact sm_congr fun i hi => by rw [getD_map (fun r => r.cs.getD k 0) rw0 hi]
  rw [sm_swap (fun i k => (rs.getD i rw0).cs.getD k 0 * ys.getD i 0 * xs.getD k 0)] at e3
  have hmem : ∀ i, i < rs.length → rs.getD i rw0 ∈ rs := fun i hi => by
    rw [List.getD_eq_getElem?_getD, List.getElem?_eq_getElem hi]; exact List.getElem_mem hi
  have e4 : sm (fun i => sm (fun k => (rs.getD i rw0).cs.getD k 0 * ys.getD i 0 * xs.getD k 0) xs.length) rs.length ≤ sm (fun i => 12 * (rs.getD i rw0).b * ys.getD i 0) rs.length :=
    sm_le fun i hi => by
      have h5 : sm (fun k => (rs.getD i rw0).cs.getD k 0 * ys.getD i 0 * xs.getD k 0) xs.length = dot (rs.getD i rw0).cs xs * ys.getD i 0 := by
        rw [dot_sm _ xs xs.length (by omega), ← sm_mul]
        exact sm_congr fun k _ => by rw [Int.mul_assoc, Int.mul_assoc, Int.mul_comm (ys.getD i 0)]
      rw [h5]
      exact Int.mul_le_mul_of_nonneg_right (hs _ (hmem i hi)) (hy _ (getD_mem (by omega)))
  have e5 : sm (fun i => 12 * (rs.getD i rw0).b * ys.getD i 0) rs.length = 12 * bsum rs ys := by
    unfold bsum
    rw [dot_sm _ _ rs.length (by simp; omega), Int.mul_comm, ← sm_mul]
    exact sm_congr fun i hi => by rw [getD_map (fun r => r.b) rw0 hi, Int.mul_assoc, Int.mul_comm]
  omega

/-- The size of the combined bound. -/
theorem sm_abs {f : Nat → Int} {M : Nat} : ∀ {n : Nat}, (∀ k, k < n → (f k).natAbs ≤ M) → (sm f n).natAbs ≤ n * M
  | 0, _ => by simp [sm]
  | n + 1, h => by
    have h1 := sm_abs (n := n) fun k hk => h k (by omega)
    have h2 := h n (by omega)
    simp only [sm]; rw [Nat.add_mul]; omega
theorem bsum_size {rs : List Rw} {ys : List Int} (hl : ys.length = rs.length) (h6 : rs.length ≤ 6) (hb : ∀ r ∈ rs, r.b.natAbs ≤ 4503599627370496) (hy : ∀ y ∈ ys, 0 ≤ y ∧ y ≤ 132) : (bsum rs ys).natAbs < 4611686018427387904 := by
  unfold bsum
  rw [dot_sm _ _ rs.length (by simp; omega)]
  have hmem : ∀ i, i < rs.length → rs.getD i rw0 ∈ rs := fun i hi => by
    rw [List.getD_eq_getElem?_getD, List.getElem?_eq_getElem hi]; exact List.getElem_mem hi
  have := sm_abs (f := fun k => (rs.map fun r => r.b).getD k 0 * ys.getD k 0) (M := 4503599627370496 * 132) (n := rs.length) fun k hk => by
    rw [getD_map (fun r => r.b) rw0 hk, Int.natAbs_mul]
    have h3 := hy _ (getD_mem (xs := ys) (z := 0) (i := k) (by omega))
    exact Nat.mul_le_mul (hb _ (hmem k hk)) (by omega)
  have : rs.length * (4503599627370496 * 132) ≤ 6 * (4503599627370496 * 132) := Nat.mul_le_mul_right _ h6
  omega
/-- The size of a value. -/
theorem dot_size {c xs : List Int} (h4 : c.length ≤ 6) (hc : ∀ y ∈ c, y.natAbs ≤ 100) (hx : ∀ y ∈ xs, 0 ≤ y ∧ y ≤ 132) : (dot c xs).natAbs ≤ 79200 := by
  rw [dot_sm _ _ c.length (by omega)]
  have := sm_abs (f := fun k => c.getD k 0 * xs.getD k 0) (M := 100 * 132) (n := c.length) fun k hk => by
    rw [Int.natAbs_mul]
    refine Nat.mul_le_mul (hc _ (getD_mem hk)) ?_
    by_cases h : k < xs.length
    · have := hx _ (getD_mem (z := 0) h); omega
    · rw [getD_out (by omega)]; decide
  have : c.length * (100 * 132) ≤ 6 * (100 * 132) := Nat.mul_le_mul_right _ h4
  omega

end Go.Proofs.Ytgpkpmhdfcopgaa
