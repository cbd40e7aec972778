/-
  Walks: fraction.From, Compare, Add, Mul, natural.Int, fraction.round, whole, Floor (small denominators).
-/
import Derived.Test.YtgpkpmhdfcopgaaR1
namespace Go.Proofs.Ytgpkpmhdfcopgaa
open Go.Own Go.Limbs
attribute [local irreducible] St Ops Go.Own.Fin Ok

/-- Sizes that all rules here can take. -/
def Sz (a : Nat) : Prop := (limbs a).length ≤ 30
theorem Sz.of {a : Nat} (h : a < 1073741824 ^ 30) : Sz a := limbs_length_le h

theorem mul_len {a b : Nat} {i j : Nat} (ha : (limbs a).length ≤ i) (hb : (limbs b).length ≤ j) : (limbs (a * b)).length ≤ i + j := by
  have := limbs_mul_len (a := a) (b := b); omega
theorem sumN_len {n1 n2 : Bool} {a b i : Nat} (ha : (limbs a).length ≤ i) (hb : (limbs b).length ≤ i) : (limbs (sumN n1 a n2 b)).length ≤ i + 1 := by
  have h1 := lt_of_limbs_length ha
  have h2 := lt_of_limbs_length hb
  refine limbs_length_le ?_
  rw [Nat.pow_succ]
  unfold sumN
  generalize 1073741824 ^ i = z at *
  split
  · omega
  · split <;> omega
theorem div_len {a b i : Nat} (ha : (limbs a).length ≤ i) : (limbs (a / b)).length ≤ i := Nat.le_trans (limbs_len_mono (Nat.div_le_self a b)) ha

theorem redF_den (n : Bool) (a b : Nat) (h0 : 0 < b) : 0 < (redF n a b).den ∧ (redF n a b).den ≤ b := by
  have hg : 0 < Nat.gcd a b := Nat.gcd_pos_of_pos_right _ h0
  exact ⟨Nat.div_pos (Nat.gcd_le_right _ h0) hg, Nat.div_le_self _ _⟩
theorem redF_neg (n : Bool) (a b : Nat) : (redF n a b).neg = true → (redF n a b).num ≠ 0 := by
  unfold redF
  generalize a / Nat.gcd a b = c
  simp

theorem dne (p q : Bool) : decide (p ≠ q) = (p != q) := by cases p <;> cases q <;> rfl

set_option maxHeartbeats 2000000 in
theorem FFrom_ok (n d : Int) (h1 : -9223372036854775808 ≤ n) (h2 : n ≤ 9223372036854775807) (h3 : -1073741824 < d) (h4 : d < 1073741824) (h0 : d ≠ 0) : Ok Try.prog 27 [intC n, intC d] (.fr (tupT [ratC (Rat.divInt n d), intC 0])) := by
  have hl : (limbs n.natAbs).length ≤ 3 := limbs_length_le (k := 3) (by omega)
  rw [show ratC (Rat.divInt n d) = fracC (redF (decide (n < 0) != decide (d < 0)) n.natAbs d.natAbs) from by rw [from_redF n d h0]]
  refine Ok.enter Try.func27 rfl _ Try.ntmps27 rfl ?_
  intro S w
  (refine St.seq ?_; refine St.regionK (fun K hK => ?_); refine Ops.alloc 0 rfl rfl (by with_reducible first | exact zvFrac) rfl rfl rfl ?_; refine Ops.assign rfl rfl rfl ?_; refine Ops.nil (hK _ _ ?_); clear hK K; refine Fin.then ?_; refine St.seq ?_; refine St.seq ?_; refine St.regionK (fun K hK => ?_); refine Ops.move rfl rfl rfl ?_; refine Ops.ibin ieql rfl rfl rfl rfl ?_; refine Ops.nil (hK _ _ ?_); clear hK K; refine Fin.then ?_)
  refine St.condP rfl (fun h => absurd h h0) (fun h => ?_)
  (refine St.skip ?_; refine Fin.then ?_; refine St.seq ?_; refine St.regionK (fun K hK => ?_); refine Ops.move rfl rfl rfl ?_; refine Ops.ibin ilss rfl rfl rfl rfl ?_; refine Ops.move rfl rfl rfl ?_; refine Ops.ibin ilss rfl rfl rfl rfl ?_)
  refine Ops.bne rfl rfl rfl uBool rfl ?_
  rw [dne]
  (refine Ops.move rfl rfl rfl ?_)
  refine Ops.call gomagnitude (magnitude_ok n h1 h2) rfl rfl rfl rfl ?_
  (refine Ops.move rfl rfl rfl ?_)
  refine Ops.call gomagnitude (magnitude_ok d (by omega) (by omega)) rfl rfl rfl rfl ?_
  refine Ops.call goreduced (reduced_small _ n.natAbs d.natAbs (by omega) (by omega) (by omega)) rfl rfl rfl rfl ?_
  (refine Ops.stWN 3 rfl rfl rfl rfl rfl (by with_reducible exact szFrac) rfl rfl ?_; refine Ops.assign rfl rfl rfl ?_; refine Ops.nil (hK _ _ ?_); clear hK K; refine Fin.then ?_; refine St.ret ?_)
  refine Fin.ret [_, _] rfl (AllRes.cellN (n := 3) rfl rfl (by with_reducible exact lFrac) rfl (AllRes.tmp rfl AllRes.nil)) rfl rfl
theorem goFFrom : InGo Try.prog 27 := InGo.of Try.func27 (by kernel_rfl) (by kernel_rfl)

set_option maxHeartbeats 2000000 in
theorem FCompare_fr (f h : Fr) (h1 : Sz f.num) (h2 : Sz f.den) (h3 : Sz h.num) (h4 : Sz h.den) : Ok Try.prog 28 [fracC f, fracC h] (.fr (tupT [intC (if sumN f.neg (f.num * h.den) (!h.neg) (h.num * f.den) = 0 then 0 else if sumS f.neg (f.num * h.den) (!h.neg) (h.num * f.den) then -1 else 1), intC 0])) := by
  unfold Sz at *
  have l1 := mul_len h1 h4
  have l2 := mul_len h3 h2
  refine Ok.enter Try.func28 rfl _ Try.ntmps28 rfl ?_
  intro S w
  (refine St.seq ?_; refine St.regionK (fun K hK => ?_); refine Ops.boxN 0 rfl rfl rfl rfl rfl rfl rfl ?_; refine Ops.boxN 1 rfl rfl rfl rfl rfl rfl rfl ?_; refine Ops.assign rfl rfl rfl ?_; refine Ops.assign rfl rfl rfl ?_; refine Ops.nil (hK _ _ ?_); clear hK K; refine Fin.then ?_; refine St.seq ?_)
  refine St.drawK (by with_reducible exact mixed) 21 (.p 0 (.p 2 (.p 4 (.p 7 (.p 10 (.p 12 (.f 1 (.f 3 (.f 5 (.f 8 (.p 9 (.f 11 (.f 13 (.m 6 (.m 14 (.m 15 (.p 16 (.p 17 (.p 18 (.p 19 (.p 20 .done))))))))))))))))))))) (by kernel_rfl) (fun K hK => ?_)
  (refine Ops.fldO rfl rfl rfl (by with_reducible first | exact fF0 | exact fF1 | exact fF2 | exact fR0 | exact fR1) rfl ?_; refine Ops.fldO rfl rfl rfl (by with_reducible first | exact fF0 | exact fF1 | exact fF2 | exact fR0 | exact fR1) rfl ?_; refine Ops.fldO rfl rfl rfl (by with_reducible first | exact fF0 | exact fF1 | exact fF2 | exact fR0 | exact fR1) rfl ?_; refine Ops.fldO rfl rfl rfl (by with_reducible first | exact fF0 | exact fF1 | exact fF2 | exact fR0 | exact fR1) rfl ?_; refine Ops.fldO rfl rfl rfl (by with_reducible first | exact fF0 | exact fF1 | exact fF2 | exact fR0 | exact fR1) rfl ?_; refine Ops.fldO rfl rfl rfl (by with_reducible first | exact fF0 | exact fF1 | exact fF2 | exact fR0 | exact fR1) rfl ?_; refine Ops.ld1A rfl rfl rfl rfl rfl (by with_reducible first | exact lInt | exact lNat | exact lBool | exact lInts) rfl ?_; refine Ops.ld1A rfl rfl rfl rfl rfl (by with_reducible first | exact lInt | exact lNat | exact lBool | exact lInts) rfl ?_; refine Ops.ld1A rfl rfl rfl rfl rfl (by with_reducible first | exact lInt | exact lNat | exact lBool | exact lInts) rfl ?_; refine Ops.ld1A rfl rfl rfl rfl rfl (by with_reducible first | exact lInt | exact lNat | exact lBool | exact lInts) rfl ?_; refine Ops.inot rfl rfl rfl ?_; refine Ops.ld1A rfl rfl rfl rfl rfl (by with_reducible first | exact lInt | exact lNat | exact lBool | exact lInts) rfl ?_; refine Ops.ld1A rfl rfl rfl rfl rfl (by with_reducible first | exact lInt | exact lNat | exact lBool | exact lInts) rfl ?_)
  refine Ops.call goproduct (product_ok f.num h.den (by omega)) rfl rfl rfl rfl ?_
  skip
  refine Ops.call goproduct (product_ok h.num f.den (by omega)) rfl rfl rfl rfl ?_
  skip
  refine Ops.call gosum (sum_ok _ _ _ _ (by omega) (by omega)) rfl rfl rfl rfl ?_
  (refine Ops.move rfl rfl rfl ?_; refine Ops.extract rfl rfl rfl rfl ?_; refine Ops.extract rfl rfl rfl rfl ?_; refine Ops.assign rfl rfl rfl ?_; refine Ops.assign rfl rfl rfl ?_; refine Ops.nil (hK _ _ ?_); clear hK K; refine Fin.then ?_; refine St.seq ?_; refine St.block ?_; refine St.seq ?_; refine St.regionK (fun K hK => ?_); refine Ops.move rfl rfl rfl ?_; refine Ops.lenF rfl rfl (by with_reducible first | exact sNat.und | exact sInts.und) (List.length_map ..) rfl ?_; refine Ops.ibin ieql rfl rfl rfl rfl ?_; refine Ops.assign rfl rfl rfl ?_; refine Ops.nil (hK _ _ ?_); clear hK K; refine Fin.then ?_)
  refine St.condP rfl (fun hz => ?_) (fun hz => ?_)
  · have hz' : sumN f.neg (f.num * h.den) (!h.neg) (h.num * f.den) = 0 := limbs_nil (List.eq_nil_of_length_eq_zero (by omega))
    (refine St.seq ?_; refine St.regionK (fun K hK => ?_); refine Ops.assign rfl rfl rfl ?_; refine Ops.assign rfl rfl rfl ?_; refine Ops.nil (hK _ _ ?_); clear hK K; refine Fin.then ?_; refine St.ret ?_; refine Fin.blockRet ?_; refine Fin.thenRet ?_)
    refine Fin.ret [_, _] rfl (AllRes.tmp rfl (AllRes.tmp rfl AllRes.nil)) (by rw [if_pos hz']; rfl) rfl
  · have hz' : ¬ sumN f.neg (f.num * h.den) (!h.neg) (h.num * f.den) = 0 := fun e => hz (by rw [e, limbs_zero]; rfl)
    (refine St.seq ?_; refine St.regionK (fun K hK => ?_); refine Ops.move rfl rfl rfl ?_; refine Ops.assign rfl rfl rfl ?_; refine Ops.nil (hK _ _ ?_); clear hK K; refine Fin.then ?_)
    refine St.condB rfl (fun hs => ?_) (fun hs => ?_)
    · (refine St.seq ?_; refine St.regionK (fun K hK => ?_); refine Ops.assign rfl rfl rfl ?_; refine Ops.assign rfl rfl rfl ?_; refine Ops.nil (hK _ _ ?_); clear hK K; refine Fin.then ?_; refine St.ret ?_; refine Fin.blockRet ?_; refine Fin.thenRet ?_)
      refine Fin.ret [_, _] rfl (AllRes.tmp rfl (AllRes.tmp rfl AllRes.nil)) (by rw [if_neg hz', hs]; rfl) rfl
    · (refine St.skip ?_; refine Fin.then ?_; refine St.seq ?_; refine St.regionK (fun K hK => ?_); refine Ops.assign rfl rfl rfl ?_; refine Ops.assign rfl rfl rfl ?_; refine Ops.nil (hK _ _ ?_); clear hK K; refine Fin.then ?_; refine St.ret ?_)
      refine Fin.ret [_, _] rfl (AllRes.tmp rfl (AllRes.tmp rfl AllRes.nil)) (by rw [if_neg hz', hs]; rfl) rfl
theorem goFCompare : InGo Try.prog 28 := InGo.of Try.func28 (by kernel_rfl) (by kernel_rfl)

set_option maxHeartbeats 2000000 in
theorem FAdd_fr (f h : Fr) (h1 : Sz f.num) (h3 : Sz h.num) (h2 : 0 < f.den) (h4 : 0 < h.den) (h5 : f.den * h.den < 1073741824) : Ok Try.prog 32 [fracC f, fracC h] (.fr (tupT [fracC (redF (sumS f.neg (f.num * h.den) h.neg (h.num * f.den)) (sumN f.neg (f.num * h.den) h.neg (h.num * f.den)) (f.den * h.den)), intC 0])) := by
  unfold Sz at *
  have hp := Nat.mul_pos h2 h4
  have k1 : f.den ≤ f.den * h.den := Nat.le_mul_of_pos_right _ h4
  have k2 : h.den ≤ f.den * h.den := Nat.le_mul_of_pos_left _ h2
  have d1 : (limbs f.den).length ≤ 1 := limbs_length_le (k := 1) (by omega)
  have d2 : (limbs h.den).length ≤ 1 := limbs_length_le (k := 1) (by omega)
  have l1 := mul_len h1 d2
  have l2 := mul_len h3 d1
  have l3 := sumN_len (n1 := f.neg) (n2 := h.neg) l1 l2
  have l4 := redF_den (sumS f.neg (f.num * h.den) h.neg (h.num * f.den)) (sumN f.neg (f.num * h.den) h.neg (h.num * f.den)) _ hp
  have l5 := redF_neg (sumS f.neg (f.num * h.den) h.neg (h.num * f.den)) (sumN f.neg (f.num * h.den) h.neg (h.num * f.den)) (f.den * h.den)
  have l6 : (limbs (redF (sumS f.neg (f.num * h.den) h.neg (h.num * f.den)) (sumN f.neg (f.num * h.den) h.neg (h.num * f.den)) (f.den * h.den)).num).length ≤ 32 := div_len l3
  have l7 : (limbs (redF (sumS f.neg (f.num * h.den) h.neg (h.num * f.den)) (sumN f.neg (f.num * h.den) h.neg (h.num * f.den)) (f.den * h.den)).den).length ≤ 1 := limbs_length_le (k := 1) (by omega)
  refine Ok.enter Try.func32 rfl _ Try.ntmps32 rfl ?_
  intro S w
  have hr := reduced_small (sumS f.neg (f.num * h.den) h.neg (h.num * f.den)) (sumN f.neg (f.num * h.den) h.neg (h.num * f.den)) _ hp h5 (by omega)
  generalize redF (sumS f.neg (f.num * h.den) h.neg (h.num * f.den)) (sumN f.neg (f.num * h.den) h.neg (h.num * f.den)) (f.den * h.den) = rr at *
  (refine St.seq ?_; refine St.regionK (fun K hK => ?_); refine Ops.boxN 0 rfl rfl rfl rfl rfl rfl rfl ?_; refine Ops.boxN 1 rfl rfl rfl rfl rfl rfl rfl ?_; refine Ops.alloc 2 rfl rfl (by with_reducible first | exact zvFrac) rfl rfl rfl ?_; refine Ops.assign rfl rfl rfl ?_; refine Ops.nil (hK _ _ ?_); clear hK K; refine Fin.then ?_; refine St.seq ?_)
  refine St.drawK (by with_reducible exact mixed) 20 (.p 0 (.p 2 (.p 4 (.p 7 (.p 9 (.p 11 (.f 1 (.f 3 (.f 5 (.f 8 (.f 10 (.f 12 (.m 6 (.m 13 (.m 14 (.p 15 (.p 16 (.p 17 (.p 18 (.p 19 .done)))))))))))))))))))) (by kernel_rfl) (fun K hK => ?_)
  (refine Ops.fldO rfl rfl rfl (by with_reducible first | exact fF0 | exact fF1 | exact fF2 | exact fR0 | exact fR1) rfl ?_; refine Ops.fldO rfl rfl rfl (by with_reducible first | exact fF0 | exact fF1 | exact fF2 | exact fR0 | exact fR1) rfl ?_; refine Ops.fldO rfl rfl rfl (by with_reducible first | exact fF0 | exact fF1 | exact fF2 | exact fR0 | exact fR1) rfl ?_; refine Ops.fldO rfl rfl rfl (by with_reducible first | exact fF0 | exact fF1 | exact fF2 | exact fR0 | exact fR1) rfl ?_; refine Ops.fldO rfl rfl rfl (by with_reducible first | exact fF0 | exact fF1 | exact fF2 | exact fR0 | exact fR1) rfl ?_; refine Ops.fldO rfl rfl rfl (by with_reducible first | exact fF0 | exact fF1 | exact fF2 | exact fR0 | exact fR1) rfl ?_; refine Ops.ld1A rfl rfl rfl rfl rfl (by with_reducible first | exact lInt | exact lNat | exact lBool | exact lInts) rfl ?_; refine Ops.ld1A rfl rfl rfl rfl rfl (by with_reducible first | exact lInt | exact lNat | exact lBool | exact lInts) rfl ?_; refine Ops.ld1A rfl rfl rfl rfl rfl (by with_reducible first | exact lInt | exact lNat | exact lBool | exact lInts) rfl ?_; refine Ops.ld1A rfl rfl rfl rfl rfl (by with_reducible first | exact lInt | exact lNat | exact lBool | exact lInts) rfl ?_; refine Ops.ld1A rfl rfl rfl rfl rfl (by with_reducible first | exact lInt | exact lNat | exact lBool | exact lInts) rfl ?_; refine Ops.ld1A rfl rfl rfl rfl rfl (by with_reducible first | exact lInt | exact lNat | exact lBool | exact lInts) rfl ?_)
  refine Ops.call goproduct (product_ok f.num h.den (by omega)) rfl rfl rfl rfl ?_
  skip
  refine Ops.call goproduct (product_ok h.num f.den (by omega)) rfl rfl rfl rfl ?_
  skip
  refine Ops.call gosum (sum_ok _ _ _ _ (by omega) (by omega)) rfl rfl rfl rfl ?_
  (refine Ops.move rfl rfl rfl ?_; refine Ops.extract rfl rfl rfl rfl ?_; refine Ops.extract rfl rfl rfl rfl ?_; refine Ops.assign rfl rfl rfl ?_; refine Ops.assign rfl rfl rfl ?_; refine Ops.nil (hK _ _ ?_); clear hK K; refine Fin.then ?_; refine St.seq ?_; refine St.regionK (fun K hK => ?_); refine Ops.move rfl rfl rfl ?_; refine Ops.move rfl rfl rfl ?_; refine Ops.fldO rfl rfl rfl (by with_reducible first | exact fF0 | exact fF1 | exact fF2 | exact fR0 | exact fR1) rfl ?_; refine Ops.ld1A rfl rfl rfl rfl rfl (by with_reducible first | exact lInt | exact lNat | exact lBool | exact lInts) rfl ?_; refine Ops.fldO rfl rfl rfl (by with_reducible first | exact fF0 | exact fF1 | exact fF2 | exact fR0 | exact fR1) rfl ?_; refine Ops.ld1A rfl rfl rfl rfl rfl (by with_reducible first | exact lInt | exact lNat | exact lBool | exact lInts) rfl ?_)
  refine Ops.call goproduct (product_ok f.den h.den (by omega)) rfl rfl rfl rfl ?_
  skip
  refine Ops.call goreduced hr rfl rfl rfl rfl ?_
  refine Ops.call gochecked (checked_ok rr (by omega) (by omega) l4.1 l5) rfl rfl rfl rfl ?_
  (refine Ops.extract rfl rfl rfl rfl ?_; refine Ops.extract rfl rfl rfl rfl ?_; refine Ops.stWN 3 rfl rfl rfl rfl rfl (by with_reducible exact szFrac) rfl rfl ?_; refine Ops.assign rfl rfl rfl ?_; refine Ops.nil (hK _ _ ?_); clear hK K; refine Fin.then ?_; refine St.ret ?_)
  refine Fin.ret [_, _] rfl (AllRes.cellN (n := 3) rfl rfl (by with_reducible exact lFrac) rfl (AllRes.tmp rfl AllRes.nil)) rfl rfl
theorem goFAdd : InGo Try.prog 32 := InGo.of Try.func32 (by kernel_rfl) (by kernel_rfl)

set_option maxHeartbeats 2000000 in
theorem FMul_fr (f h : Fr) (h1 : Sz f.num) (h3 : Sz h.num) (h2 : 0 < f.den) (h4 : 0 < h.den) (h5 : f.den * h.den < 1073741824) : Ok Try.prog 31 [fracC f, fracC h] (.fr (tupT [fracC (redF (f.neg != h.neg) (f.num * h.num) (f.den * h.den)), intC 0])) := by
  unfold Sz at *
  have hp := Nat.mul_pos h2 h4
  have k1 : f.den ≤ f.den * h.den := Nat.le_mul_of_pos_right _ h4
  have k2 : h.den ≤ f.den * h.den := Nat.le_mul_of_pos_left _ h2
  have d1 : (limbs f.den).length ≤ 1 := limbs_length_le (k := 1) (by omega)
  have d2 : (limbs h.den).length ≤ 1 := limbs_length_le (k := 1) (by omega)
  have l3 := mul_len h1 h3
  have l4 := redF_den (f.neg != h.neg) (f.num * h.num) _ hp
  have l5 := redF_neg (f.neg != h.neg) (f.num * h.num) (f.den * h.den)
  have l6 : (limbs (redF (f.neg != h.neg) (f.num * h.num) (f.den * h.den)).num).length ≤ 60 := div_len l3
  have l7 : (limbs (redF (f.neg != h.neg) (f.num * h.num) (f.den * h.den)).den).length ≤ 1 := limbs_length_le (k := 1) (by omega)
  refine Ok.enter Try.func31 rfl _ Try.ntmps31 rfl ?_
  intro S w
  have hr := reduced_small (f.neg != h.neg) (f.num * h.num) _ hp h5 (by omega)
  generalize redF (f.neg != h.neg) (f.num * h.num) (f.den * h.den) = rr at *
  (refine St.seq ?_; refine St.regionK (fun K hK => ?_); refine Ops.boxN 0 rfl rfl rfl rfl rfl rfl rfl ?_; refine Ops.boxN 1 rfl rfl rfl rfl rfl rfl rfl ?_; refine Ops.alloc 2 rfl rfl (by with_reducible first | exact zvFrac) rfl rfl rfl ?_; refine Ops.assign rfl rfl rfl ?_; refine Ops.nil (hK _ _ ?_); clear hK K; refine Fin.then ?_; refine St.seq ?_)
  refine St.drawK (by with_reducible exact mixed) 19 (.p 0 (.p 2 (.p 5 (.p 7 (.p 10 (.p 12 (.f 1 (.f 3 (.p 4 (.f 6 (.f 8 (.f 11 (.f 13 (.m 9 (.m 14 (.m 15 (.m 16 (.p 17 (.p 18 (.a 19 (.p 20 .done))))))))))))))))))))) (by kernel_rfl) (fun K hK => ?_)
  (refine Ops.fldO rfl rfl rfl (by with_reducible first | exact fF0 | exact fF1 | exact fF2 | exact fR0 | exact fR1) rfl ?_; refine Ops.fldO rfl rfl rfl (by with_reducible first | exact fF0 | exact fF1 | exact fF2 | exact fR0 | exact fR1) rfl ?_; refine Ops.fldO rfl rfl rfl (by with_reducible first | exact fF0 | exact fF1 | exact fF2 | exact fR0 | exact fR1) rfl ?_; refine Ops.fldO rfl rfl rfl (by with_reducible first | exact fF0 | exact fF1 | exact fF2 | exact fR0 | exact fR1) rfl ?_; refine Ops.fldO rfl rfl rfl (by with_reducible first | exact fF0 | exact fF1 | exact fF2 | exact fR0 | exact fR1) rfl ?_; refine Ops.fldO rfl rfl rfl (by with_reducible first | exact fF0 | exact fF1 | exact fF2 | exact fR0 | exact fR1) rfl ?_; refine Ops.ld1A rfl rfl rfl rfl rfl (by with_reducible first | exact lInt | exact lNat | exact lBool | exact lInts) rfl ?_; refine Ops.ld1A rfl rfl rfl rfl rfl (by with_reducible first | exact lInt | exact lNat | exact lBool | exact lInts) rfl ?_)
  refine Ops.bne rfl rfl rfl uBool rfl ?_
  rw [dne]
  (refine Ops.ld1A rfl rfl rfl rfl rfl (by with_reducible first | exact lInt | exact lNat | exact lBool | exact lInts) rfl ?_; refine Ops.ld1A rfl rfl rfl rfl rfl (by with_reducible first | exact lInt | exact lNat | exact lBool | exact lInts) rfl ?_; refine Ops.ld1A rfl rfl rfl rfl rfl (by with_reducible first | exact lInt | exact lNat | exact lBool | exact lInts) rfl ?_; refine Ops.ld1A rfl rfl rfl rfl rfl (by with_reducible first | exact lInt | exact lNat | exact lBool | exact lInts) rfl ?_)
  refine Ops.call goproduct (product_ok f.num h.num (by omega)) rfl rfl rfl rfl ?_
  skip
  refine Ops.call goproduct (product_ok f.den h.den (by omega)) rfl rfl rfl rfl ?_
  refine Ops.call goreduced hr rfl rfl rfl rfl ?_
  refine Ops.call gochecked (checked_ok rr (by omega) (by omega) l4.1 l5) rfl rfl rfl rfl ?_
  (refine Ops.extract rfl rfl rfl rfl ?_; refine Ops.extract rfl rfl rfl rfl ?_; refine Ops.stWN 3 rfl rfl rfl rfl rfl (by with_reducible exact szFrac) rfl rfl ?_; refine Ops.assign rfl rfl rfl ?_; refine Ops.nil (hK _ _ ?_); clear hK K; refine Fin.then ?_; refine St.ret ?_)
  refine Fin.ret [_, _] rfl (AllRes.cellN (n := 3) rfl rfl (by with_reducible exact lFrac) rfl (AllRes.tmp rfl AllRes.nil)) rfl rfl
theorem goFMul : InGo Try.prog 31 := InGo.of Try.func31 (by kernel_rfl) (by kernel_rfl)

end Go.Proofs.Ytgpkpmhdfcopgaa
