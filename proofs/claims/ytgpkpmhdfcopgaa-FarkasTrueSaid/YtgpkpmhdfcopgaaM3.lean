/-
  Plain laws: comparing numbers limb by limb. No program.
-/
import Derived.Test.YtgpkpmhdfcopgaaM2
namespace Go.Limbs

def cmpI (a b : Int) : Int := if a < b then -1 else if b < a then 1 else 0
theorem cmpI_eq (a b : Int) : cmpI a b = if a < b then -1 else if b < a then 1 else 0 := rfl

theorem pre_bd {xs : List Int} (h : OKL xs) (i : Nat) : 0 ≤ pre xs i ∧ pre xs i < BB ^ i := by
  induction i with
  | zero => rw [pre_zero]; simp
  | succ i ih =>
    rw [pre_succ]
    have := h.get i
    have hp : 0 < BB ^ i := Int.pow_pos (by decide)
    obtain ⟨h1, h2⟩ := this
    refine ⟨?_, ?_⟩
    · have := Int.mul_nonneg h1 (Int.le_of_lt hp); omega
    · have h3 : xs.getD i 0 * BB ^ i ≤ (BB - 1) * BB ^ i := Int.mul_le_mul_of_nonneg_right (by omega) (Int.le_of_lt hp)
      have h4 : BB ^ (i + 1) = BB * BB ^ i := by rw [Int.pow_succ, Int.mul_comm]
      rw [h4]
      have h5 : (BB - 1) * BB ^ i = BB * BB ^ i - BB ^ i := by rw [Int.sub_mul, Int.one_mul]
      omega

/-- The first limb that differs decides. -/
theorem pre_decides {xs ys : List Int} (hx : OKL xs) (hy : OKL ys) {k : Nat} (h : xs.getD k 0 < ys.getD k 0) : pre xs (k + 1) < pre ys (k + 1) := by
  rw [pre_succ, pre_succ]
  have h1 := pre_bd hx k
  have h2 := pre_bd hy k
  have hp : 0 < BB ^ k := Int.pow_pos (by decide)
  have h3 : (xs.getD k 0 + 1) * BB ^ k ≤ ys.getD k 0 * BB ^ k := Int.mul_le_mul_of_nonneg_right (by omega) (Int.le_of_lt hp)
  rw [Int.add_mul, Int.one_mul] at h3
  omega

theorem limbs_len_mono {a b : Nat} (h : a ≤ b) : (limbs a).length ≤ (limbs b).length := limbs_length_le (Nat.lt_of_le_of_lt h (lt_of_limbs_length (Nat.le_refl _)))
theorem lt_of_len {a b : Nat} (h : (limbs a).length < (limbs b).length) : a < b := by
  rcases Nat.lt_or_ge a b with h1 | h1
  · exact h1
  · have := limbs_len_mono h1; omega

theorem val_eq_pre (n : Nat) : pre (limbs n) (limbs n).length = n := by rw [pre_all (Nat.le_refl _), val_limbs]

/-! ### Which lists are numbers -/

def validL (xs : List Int) : Bool := xs.all (fun x => decide (0 ≤ x) && decide (x < BB)) && decide (xs.length ≤ 256) && (decide (xs.length = 0) || decide (xs.getD (xs.length - 1) 0 ≠ 0))

theorem validL_limbs {n : Nat} (h : (limbs n).length ≤ 256) : validL (limbs n) = true := by
  unfold validL
  have h1 : (limbs n).all (fun x => decide (0 ≤ x) && decide (x < BB)) = true := by
    rw [List.all_eq_true]; intro x hx; have := limbs_ok n x hx; simp [this]
  rw [h1]
  simp only [h, decide_true, Bool.true_and]
  by_cases h0 : (limbs n).length = 0
  · simp [h0]
  · have ht := trim_of_limbs n
    have : (limbs n).getD ((limbs n).length - 1) 0 ≠ 0 := by
      intro he
      have h2 := trim_last (ys := limbs n) (by omega) he
      rw [ht] at h2
      have h3 := trim_len ((limbs n).take ((limbs n).length - 1))
      rw [h2] at h3; simp at h3; omega
    simp only [this, ne_eq, not_false_eq_true, decide_true, Bool.or_true]

theorem validL_spec {xs : List Int} (h : validL xs = true) : ∃ n, xs = limbs n := by
  unfold validL at h
  simp only [Bool.and_eq_true, Bool.or_eq_true, decide_eq_true_eq, List.all_eq_true] at h
  obtain ⟨⟨h1, h2⟩, h3⟩ := h
  have hok : OKL xs := fun x hx => h1 x hx
  exact ⟨_, limbs_val hok (trim_done (fun hp => by rcases h3 with h3 | h3; omega; exact h3))⟩

end Go.Limbs
