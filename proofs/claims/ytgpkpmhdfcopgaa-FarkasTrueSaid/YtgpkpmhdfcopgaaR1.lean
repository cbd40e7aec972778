/-
  Plain: fractions are rational numbers.
-/
import Derived.Test.YtgpkpmhdfcopgaaN10
namespace Go.Proofs.Ytgpkpmhdfcopgaa
open Go.Own Go.Limbs

def sg (n : Bool) (a : Nat) : Int := if n then -(a : Int) else a
/-- The fraction of a rational number. -/
def ofQ (q : Rat) : Fr := ⟨decide (q.num < 0), q.num.natAbs, q.den⟩
abbrev ratC (q : Rat) : CT := fracC (ofQ q)

theorem sg_natAbs (x : Int) : sg (decide (x < 0)) x.natAbs = x := by
  unfold sg; split
  · rename_i h; simp at h; omega
  · rename_i h; simp at h; omega
theorem natAbs_sg (n : Bool) (a : Nat) : (sg n a).natAbs = a := by unfold sg; split <;> omega
theorem sg_mul (n : Bool) (a b : Nat) : sg n (a * b) = sg n a * b := by
  unfold sg; split
  · rw [Int.natCast_mul, Int.neg_mul]
  · rw [Int.natCast_mul]
theorem ofQ_sg (q : Rat) : sg (ofQ q).neg (ofQ q).num = q.num := sg_natAbs _

theorem redF_q (n : Bool) (a b : Nat) (hb : 0 < b) : redF n a b = ofQ (mkRat (sg n a) b) := by
  have hb' : b ≠ 0 := by omega
  have hg : 0 < Nat.gcd a b := Nat.gcd_pos_of_pos_right _ hb
  rw [Rat.mkRat_def, dif_neg hb', Rat.normalize_eq]
  unfold redF ofQ
  simp only [natAbs_sg]
  have hd : (Nat.gcd a b : Int) ∣ (a : Int) := Int.natCast_dvd_natCast.mpr (Nat.gcd_dvd_left a b)
  have e1 : (sg n a / (Nat.gcd a b : Int)) = sg n (a / Nat.gcd a b) := by
    unfold sg; split
    · rw [Int.neg_ediv_of_dvd hd, Int.natCast_ediv]
    · rw [Int.natCast_ediv]
  rw [e1, natAbs_sg]
  congr 1
  generalize a / Nat.gcd a b = c
  unfold sg
  cases n
  · simp
  · show (true && decide (c ≠ 0)) = decide (-(c : Int) < 0)
    rw [Bool.true_and, decide_eq_decide]; omega

theorem sum_sg (n1 : Bool) (a : Nat) (n2 : Bool) (b : Nat) : sg (sumS n1 a n2 b) (sumN n1 a n2 b) = sg n1 a + sg n2 b := by
  unfold sumS sumN sg
  by_cases h : a < b <;> cases n1 <;> cases n2 <;> simp [h] <;> omega

theorem add_redF (p q : Rat) : redF (sumS (ofQ p).neg ((ofQ p).num * (ofQ q).den) (ofQ q).neg ((ofQ q).num * (ofQ p).den)) (sumN (ofQ p).neg ((ofQ p).num * (ofQ q).den) (ofQ q).neg ((ofQ q).num * (ofQ p).den)) ((ofQ p).den * (ofQ q).den) = ofQ (p + q) := by
  rw [redF_q _ _ _ (Nat.mul_pos (show 0 < (ofQ p).den from p.den_pos) (show 0 < (ofQ q).den from q.den_pos)), sum_sg, sg_mul, sg_mul, ofQ_sg, ofQ_sg, Rat.add_def']; rfl
theorem mul_redF (p q : Rat) : redF ((ofQ p).neg != (ofQ q).neg) ((ofQ p).num * (ofQ q).num) ((ofQ p).den * (ofQ q).den) = ofQ (p * q) := by
  rw [redF_q _ _ _ (Nat.mul_pos (show 0 < (ofQ p).den from p.den_pos) (show 0 < (ofQ q).den from q.den_pos)), Rat.mul_def']
  have : sg ((ofQ p).neg != (ofQ q).neg) ((ofQ p).num * (ofQ q).num) = p.num * q.num := by
    rw [← ofQ_sg p, ← ofQ_sg q]
    cases (ofQ p).neg <;> cases (ofQ q).neg <;> simp [sg, Int.natCast_mul, Int.neg_mul, Int.mul_neg]
  rw [this]; rfl
theorem from_redF (n d : Int) (hd : d ≠ 0) : redF (decide (n < 0) != decide (d < 0)) n.natAbs d.natAbs = ofQ (Rat.divInt n d) := by
  rw [redF_q _ _ _ (by omega)]
  congr 1
  have e : sg (decide (n < 0) != decide (d < 0)) n.natAbs = if d < 0 then -n else n := by
    unfold sg
    by_cases h1 : n < 0 <;> by_cases h2 : d < 0 <;> simp [h1, h2] <;> omega
  rw [e]
  rcases d with d | d
  · rw [if_neg (by simp)]; rfl
  · rw [if_pos (by omega)]
    show mkRat (-n) (d + 1) = Rat.normalize (-n) (d + 1) (by omega)
    rw [Rat.normalize_eq_mkRat]

end Go.Proofs.Ytgpkpmhdfcopgaa
