/-
  Walks: fraction.magnitude, product, sum, reduced, checked (small denominators).
-/
import Derived.Test.YtgpkpmhdfcopgaaN9
import Derived.Test.YtgpkpmhdfcopgaaK9
namespace Go.Proofs.Ytgpkpmhdfcopgaa
open Go.Own Go.Limbs
attribute [local irreducible] St Ops Go.Own.Fin Ok

theorem limbs_len_pos {n : Nat} : 0 < (limbs n).length ↔ n ≠ 0 := by
  constructor
  · intro h h0; subst h0; rw [limbs_zero] at h; simp at h
  · intro h; rw [limbs_pos h]; simp
theorem limbs_len_posI {n : Nat} : decide ((limbs n).length > (0 : Int)) = decide (n ≠ 0) := by
  rw [decide_eq_decide, ← limbs_len_pos]; omega
theorem limbs_len_zeroI {n : Nat} : decide (((limbs n).length : Int) = 0) = decide (n = 0) := by
  rw [decide_eq_decide]; have := limbs_len_pos (n := n); omega

theorem goAdd : InGo Try.prog 73 := InGo.of Try.func73 (by kernel_rfl) (by kernel_rfl)

set_option maxHeartbeats 2000000 in
theorem magnitude_ok (n : Int) (h1 : -9223372036854775808 ≤ n) (h2 : n ≤ 9223372036854775807) : Ok Try.prog 49 [intC n] (natC n.natAbs) := by
  refine Ok.enter Try.func49 rfl _ Try.ntmps49 rfl ?_
  intro S w
  (refine St.seq ?_; refine St.regionK (fun K hK => ?_); refine Ops.assign rfl rfl rfl ?_; refine Ops.nil (hK _ _ ?_); clear hK K; refine Fin.then ?_; refine St.seq ?_; refine St.seq ?_; refine St.regionK (fun K hK => ?_); refine Ops.move rfl rfl rfl ?_; refine Ops.ibin ineq rfl rfl rfl rfl ?_; refine Ops.nil (hK _ _ ?_); clear hK K; refine Fin.then ?_)
  refine St.condP rfl (fun h => ?_) (fun h => ?_)
  · (refine St.seq ?_; refine St.regionK (fun K hK => ?_); refine Ops.move rfl rfl rfl ?_; refine Ops.move rfl rfl rfl ?_)
    refine Ops.ineg rfl rfl (by omega) (by omega) rfl ?_
    (refine Ops.max2 rfl rfl rfl rfl ?_; refine Ops.assign rfl rfl rfl ?_; refine Ops.nil (hK _ _ ?_); clear hK K; refine Fin.then ?_; refine St.seq ?_; refine St.regionK (fun K hK => ?_); refine Ops.move rfl rfl rfl ?_)
    rw [show max n (-n) = (n.natAbs : Int) by omega]
    refine Ops.call goFrom (From_ok n.natAbs (by omega)) rfl rfl rfl rfl ?_
    (refine Ops.move rfl rfl rfl ?_; refine Ops.extract rfl rfl rfl rfl ?_; refine Ops.extract rfl rfl rfl rfl ?_; refine Ops.assign rfl rfl rfl ?_; refine Ops.assign rfl rfl rfl ?_; refine Ops.nil (hK _ _ ?_); clear hK K; refine Fin.then ?_; refine St.seq ?_; refine St.regionK (fun K hK => ?_); refine Ops.move rfl rfl rfl ?_; refine Ops.assign rfl rfl rfl ?_; refine Ops.nil (hK _ _ ?_); clear hK K; refine Fin.then ?_; refine St.ret ?_; refine Fin.thenRet ?_)
    refine Fin.ret [_] rfl (AllRes.tmp rfl AllRes.nil) rfl rfl
  · (refine St.skip ?_; refine Fin.then ?_; refine St.seq ?_; refine St.regionK (fun K hK => ?_))
    refine Ops.call goFrom (From_ok 4611686018427387904 (by omega)) rfl rfl rfl rfl ?_
    (refine Ops.move rfl rfl rfl ?_; refine Ops.extract rfl rfl rfl rfl ?_; refine Ops.extract rfl rfl rfl rfl ?_; refine Ops.assign rfl rfl rfl ?_; refine Ops.assign rfl rfl rfl ?_; refine Ops.nil (hK _ _ ?_); clear hK K; refine Fin.then ?_; refine St.seq ?_; refine St.regionK (fun K hK => ?_); refine Ops.move rfl rfl rfl ?_; refine Ops.move rfl rfl rfl ?_)
    refine Ops.call goAdd (Add_list _ _ ?_ ?_ (limbs_ok _) (limbs_ok _)) rfl rfl rfl rfl ?_
    · exact Nat.le_trans (limbs_length_le (k := 3) (by decide)) (by decide)
    · exact Nat.le_trans (limbs_length_le (k := 3) (by decide)) (by decide)
    rw [val_limbs]
    (refine Ops.move rfl rfl rfl ?_; refine Ops.extract rfl rfl rfl rfl ?_; refine Ops.extract rfl rfl rfl rfl ?_; refine Ops.assign rfl rfl rfl ?_; refine Ops.assign rfl rfl rfl ?_; refine Ops.nil (hK _ _ ?_); clear hK K; refine Fin.then ?_; refine St.seq ?_; refine St.regionK (fun K hK => ?_); refine Ops.move rfl rfl rfl ?_; refine Ops.assign rfl rfl rfl ?_; refine Ops.nil (hK _ _ ?_); clear hK K; refine Fin.then ?_; refine St.ret ?_)
    refine Fin.ret [_] rfl (AllRes.tmp rfl AllRes.nil) (by congr 1; have : n.natAbs = 9223372036854775808 := by omega
                                                           rw [this]; rfl) rfl
theorem gomagnitude : InGo Try.prog 49 := InGo.of Try.func49 (by kernel_rfl) (by kernel_rfl)

theorem product_ok (a b : Nat) (h : (limbs a).length + (limbs b).length ≤ 256) : Ok Try.prog 51 [natC a, natC b] (natC (a * b)) := by
  refine Ok.enter Try.func51 rfl _ Try.ntmps51 rfl ?_
  intro S w
  (refine St.seq ?_; refine St.regionK (fun K hK => ?_); refine Ops.assign rfl rfl rfl ?_; refine Ops.nil (hK _ _ ?_); clear hK K; refine Fin.then ?_; refine St.seq ?_; refine St.regionK (fun K hK => ?_); refine Ops.move rfl rfl rfl ?_; refine Ops.move rfl rfl rfl ?_)
  refine Ops.call goMul (Mul_ok a b h) rfl rfl rfl rfl ?_
  (refine Ops.move rfl rfl rfl ?_; refine Ops.extract rfl rfl rfl rfl ?_; refine Ops.extract rfl rfl rfl rfl ?_; refine Ops.assign rfl rfl rfl ?_; refine Ops.assign rfl rfl rfl ?_; refine Ops.nil (hK _ _ ?_); clear hK K; refine Fin.then ?_; refine St.seq ?_; refine St.regionK (fun K hK => ?_); refine Ops.move rfl rfl rfl ?_; refine Ops.assign rfl rfl rfl ?_; refine Ops.nil (hK _ _ ?_); clear hK K; refine Fin.then ?_; refine St.ret ?_)
  refine Fin.ret [_] rfl (AllRes.tmp rfl AllRes.nil) rfl rfl
theorem goproduct : InGo Try.prog 51 := InGo.of Try.func51 (by kernel_rfl) (by kernel_rfl)

/-- A sum of two sizes with signs. -/
def sumN (n1 : Bool) (a : Nat) (n2 : Bool) (b : Nat) : Nat := if n1 = n2 then a + b else if a < b then b - a else a - b
def sumS (n1 : Bool) (a : Nat) (n2 : Bool) (b : Nat) : Bool := if n1 = n2 then n1 else if a < b then n2 else n1


set_option maxHeartbeats 2000000 in
theorem sum_ok (n1 : Bool) (a : Nat) (n2 : Bool) (b : Nat) (ha : (limbs a).length ≤ 200) (hb : (limbs b).length ≤ 200) : Ok Try.prog 50 [boolC n1, natC a, boolC n2, natC b] (.fr (tupT [boolC (sumS n1 a n2 b), natC (sumN n1 a n2 b)])) := by
  refine Ok.enter Try.func50 rfl _ Try.ntmps50 rfl ?_
  intro S w
  (refine St.seq ?_; refine St.regionK (fun K hK => ?_); refine Ops.assign rfl rfl rfl ?_; refine Ops.assign rfl rfl rfl ?_; refine Ops.nil (hK _ _ ?_); clear hK K; refine Fin.then ?_; refine St.seq ?_; refine St.seq ?_; refine St.regionK (fun K hK => ?_); refine Ops.move rfl rfl rfl ?_; refine Ops.move rfl rfl rfl ?_)
  refine Ops.beq rfl rfl rfl uBool rfl ?_
  (refine Ops.nil (hK _ _ ?_); clear hK K; refine Fin.then ?_)
  refine St.condB rfl (fun h => ?_) (fun h => ?_)
  · have h' : n1 = n2 := by simpa using h
    (refine St.seq ?_; refine St.regionK (fun K hK => ?_); refine Ops.move rfl rfl rfl ?_; refine Ops.move rfl rfl rfl ?_)
    refine Ops.call goAdd (Add_list _ _ ha hb (limbs_ok _) (limbs_ok _)) rfl rfl rfl rfl ?_
    rw [val_limbs, val_limbs, show ((a : Int) + b).toNat = a + b by omega]
    (refine Ops.move rfl rfl rfl ?_; refine Ops.extract rfl rfl rfl rfl ?_; refine Ops.extract rfl rfl rfl rfl ?_; refine Ops.assign rfl rfl rfl ?_; refine Ops.assign rfl rfl rfl ?_; refine Ops.nil (hK _ _ ?_); clear hK K; refine Fin.then ?_; refine St.seq ?_; refine St.regionK (fun K hK => ?_); refine Ops.move rfl rfl rfl ?_; refine Ops.move rfl rfl rfl ?_; refine Ops.assign rfl rfl rfl ?_; refine Ops.assign rfl rfl rfl ?_; refine Ops.nil (hK _ _ ?_); clear hK K; refine Fin.then ?_; refine St.ret ?_; refine Fin.thenRet ?_)
    refine Fin.ret [_, _] rfl (AllRes.tmp rfl (AllRes.tmp rfl AllRes.nil)) (by simp only [sumN, sumS, if_pos h']; rfl) rfl
  · have h' : ¬ n1 = n2 := by simpa using h
    (refine St.skip ?_; refine Fin.then ?_; refine St.seq ?_; refine St.seq ?_; refine St.regionK (fun K hK => ?_); refine Ops.move rfl rfl rfl ?_; refine Ops.move rfl rfl rfl ?_)
    refine Ops.call goCompare (Compare_ok a b (by omega) (by omega)) rfl rfl rfl rfl ?_
    (refine Ops.ibin ilss rfl rfl rfl rfl ?_; refine Ops.nil (hK _ _ ?_); clear hK K; refine Fin.then ?_)
    refine St.condP rfl (fun h3 => ?_) (fun h3 => ?_)
    · have hlt : a < b := by
        rw [cmpI_eq] at h3; split at h3
        · omega
        · split at h3 <;> omega
      (refine St.regionK (fun K hK => ?_); refine Ops.move rfl rfl rfl ?_; refine Ops.move rfl rfl rfl ?_; refine Ops.move rfl rfl rfl ?_; refine Ops.assign rfl rfl rfl ?_; refine Ops.assign rfl rfl rfl ?_; refine Ops.assign rfl rfl rfl ?_; refine Ops.nil (hK _ _ ?_); clear hK K; refine Fin.then ?_; refine St.seq ?_; refine St.regionK (fun K hK => ?_); refine Ops.move rfl rfl rfl ?_; refine Ops.move rfl rfl rfl ?_)
      refine Ops.call goSub (Sub_ok b a (by omega) (by omega)) rfl rfl rfl rfl ?_
      (refine Ops.move rfl rfl rfl ?_; refine Ops.extract rfl rfl rfl rfl ?_; refine Ops.extract rfl rfl rfl rfl ?_; refine Ops.assign rfl rfl rfl ?_; refine Ops.assign rfl rfl rfl ?_; refine Ops.nil (hK _ _ ?_); clear hK K; refine Fin.then ?_; refine St.seq ?_; refine St.regionK (fun K hK => ?_); refine Ops.move rfl rfl rfl ?_; refine Ops.move rfl rfl rfl ?_; refine Ops.assign rfl rfl rfl ?_; refine Ops.assign rfl rfl rfl ?_; refine Ops.nil (hK _ _ ?_); clear hK K; refine Fin.then ?_; refine St.ret ?_)
      refine Fin.ret [_, _] rfl (AllRes.tmp rfl (AllRes.tmp rfl AllRes.nil)) (by simp only [sumN, sumS, if_neg h', if_pos hlt]; rfl) rfl
    · have hlt : ¬ a < b := by
        intro hl; rw [cmpI_eq, if_pos (by omega)] at h3; omega
      (refine St.skip ?_; refine Fin.then ?_; refine St.seq ?_; refine St.regionK (fun K hK => ?_); refine Ops.move rfl rfl rfl ?_; refine Ops.move rfl rfl rfl ?_)
      refine Ops.call goSub (Sub_ok a b (by omega) (by omega)) rfl rfl rfl rfl ?_
      (refine Ops.move rfl rfl rfl ?_; refine Ops.extract rfl rfl rfl rfl ?_; refine Ops.extract rfl rfl rfl rfl ?_; refine Ops.assign rfl rfl rfl ?_; refine Ops.assign rfl rfl rfl ?_; refine Ops.nil (hK _ _ ?_); clear hK K; refine Fin.then ?_; refine St.seq ?_; refine St.regionK (fun K hK => ?_); refine Ops.move rfl rfl rfl ?_; refine Ops.move rfl rfl rfl ?_; refine Ops.assign rfl rfl rfl ?_; refine Ops.assign rfl rfl rfl ?_; refine Ops.nil (hK _ _ ?_); clear hK K; refine Fin.then ?_; refine St.ret ?_)
      refine Fin.ret [_, _] rfl (AllRes.tmp rfl (AllRes.tmp rfl AllRes.nil)) (by simp only [sumN, sumS, if_neg h', if_neg hlt]; rfl) rfl
theorem gosum : InGo Try.prog 50 := InGo.of Try.func50 (by kernel_rfl) (by kernel_rfl)

/-- The reduced fraction. -/
def redF (neg : Bool) (a b : Nat) : Fr := ⟨neg && decide (a / Nat.gcd a b ≠ 0), a / Nat.gcd a b, b / Nat.gcd a b⟩

set_option maxHeartbeats 2000000 in
theorem reduced_small (neg : Bool) (a b : Nat) (h0 : 0 < b) (hb : b < 1073741824) (hl : (limbs a).length ≤ 256) : Ok Try.prog 48 [boolC neg, natC a, natC b] (fracC (redF neg a b)) := by
  have hg0 : 0 < Nat.gcd a b := Nat.gcd_pos_of_pos_right _ h0
  have hg1 : Nat.gcd a b ≤ b := Nat.gcd_le_right _ h0
  have hlb : (limbs b).length ≤ 1 := limbs_length_le (k := 1) (by omega)
  refine Ok.enter Try.func48 rfl _ Try.ntmps48 rfl ?_
  intro S w
  have e0 : redF neg a b = ⟨neg && decide (a / Nat.gcd a b ≠ 0), a / Nat.gcd a b, b / Nat.gcd a b⟩ := rfl
  rw [e0]
  clear e0
  have h1 := Gcd_small a b hb hl
  generalize Nat.gcd a b = g at *
  (refine St.seq ?_; refine St.regionK (fun K hK => ?_); refine Ops.alloc 0 rfl rfl (by with_reducible first | exact zvFrac) rfl rfl rfl ?_; refine Ops.nil (hK _ _ ?_); clear hK K; refine Fin.then ?_; refine St.seq ?_; refine St.regionK (fun K hK => ?_); refine Ops.move rfl rfl rfl ?_; refine Ops.move rfl rfl rfl ?_)
  refine Ops.call goGcd h1 rfl rfl rfl rfl ?_
  (refine Ops.assign rfl rfl rfl ?_; refine Ops.nil (hK _ _ ?_); clear hK K; refine Fin.then ?_; refine St.seq ?_; refine St.regionK (fun K hK => ?_); refine Ops.move rfl rfl rfl ?_; refine Ops.move rfl rfl rfl ?_)
  refine Ops.call goDivMod (DivMod_small a g hg0 (by omega) hl) rfl rfl rfl rfl ?_
  (refine Ops.move rfl rfl rfl ?_; refine Ops.extract rfl rfl rfl rfl ?_; refine Ops.extract rfl rfl rfl rfl ?_; refine Ops.extract rfl rfl rfl rfl ?_; refine Ops.assign rfl rfl rfl ?_; refine Ops.assign rfl rfl rfl ?_; refine Ops.assign rfl rfl rfl ?_; refine Ops.nil (hK _ _ ?_); clear hK K; refine Fin.then ?_; refine St.seq ?_; refine St.regionK (fun K hK => ?_); refine Ops.move rfl rfl rfl ?_; refine Ops.move rfl rfl rfl ?_)
  refine Ops.call goDivMod (DivMod_small b g hg0 (by omega) (by omega)) rfl rfl rfl rfl ?_
  (refine Ops.move rfl rfl rfl ?_; refine Ops.extract rfl rfl rfl rfl ?_; refine Ops.extract rfl rfl rfl rfl ?_; refine Ops.extract rfl rfl rfl rfl ?_; refine Ops.assign rfl rfl rfl ?_; refine Ops.assign rfl rfl rfl ?_; refine Ops.assign rfl rfl rfl ?_; refine Ops.nil (hK _ _ ?_); clear hK K; refine Fin.then ?_; refine St.seq ?_; refine St.regionK (fun K hK => ?_); refine Ops.move rfl rfl rfl ?_; refine Ops.move rfl rfl rfl ?_)
  refine Ops.split 32 rfl (fun h => ?_) (fun h => ?_)
  · (refine Ops.move rfl rfl rfl ?_; refine Ops.lenF rfl rfl (by with_reducible first | exact sNat.und | exact sInts.und) (List.length_map ..) rfl ?_; refine Ops.ibin igtr rfl rfl rfl rfl ?_; refine Ops.pickT rfl rfl rfl rfl ?_; refine Ops.move rfl rfl rfl ?_; refine Ops.move rfl rfl rfl ?_)
    refine Ops.build rfl (by with_reducible exact bFrac) rfl (.one rfl rfl rfl rfl (.one rfl rfl rfl rfl (.one rfl rfl rfl rfl .nil))) rfl ?_
    (refine Ops.stWN 3 rfl rfl rfl rfl rfl (by with_reducible exact szFrac) rfl rfl ?_; refine Ops.nil (hK _ _ ?_); clear hK K; refine Fin.then ?_; refine St.ret ?_)
    refine Fin.ret [_] rfl (AllRes.cellN (n := 3) rfl rfl (by with_reducible exact lFrac) rfl AllRes.nil) (by rw [← limbs_len_posI, h]; rfl) rfl
  · (refine Ops.skip rfl rfl rfl ?_; refine Ops.skip rfl rfl rfl ?_; refine Ops.skip rfl rfl rfl ?_; refine Ops.pickF rfl rfl rfl rfl ?_; refine Ops.move rfl rfl rfl ?_; refine Ops.move rfl rfl rfl ?_)
    refine Ops.build rfl (by with_reducible exact bFrac) rfl (.one rfl rfl rfl rfl (.one rfl rfl rfl rfl (.one rfl rfl rfl rfl .nil))) rfl ?_
    (refine Ops.stWN 3 rfl rfl rfl rfl rfl (by with_reducible exact szFrac) rfl rfl ?_; refine Ops.nil (hK _ _ ?_); clear hK K; refine Fin.then ?_; refine St.ret ?_)
    refine Fin.ret [_] rfl (AllRes.cellN (n := 3) rfl rfl (by with_reducible exact lFrac) rfl AllRes.nil) (by rw [h]; rfl) rfl
theorem goreduced : InGo Try.prog 48 := InGo.of Try.func48 (by kernel_rfl) (by kernel_rfl)

theorem checked_ok (f : Fr) (hx : (limbs f.num).length ≤ 64) (hy : (limbs f.den).length ≤ 64) (hd : 0 < f.den) (hn : f.neg = true → f.num ≠ 0) : Ok Try.prog 55 [fracC f] (.fr (tupT [fracC f, intC 0])) := by
  refine Ok.enter Try.func55 rfl _ Try.ntmps55 rfl ?_
  intro S w
  have hv : fvalidL f.neg (limbs f.num) (limbs f.den) = true := by
    unfold fvalidL
    rw [validL_limbs (by omega), validL_limbs (by omega)]
    have := limbs_len_pos (n := f.den)
    have := limbs_len_pos (n := f.num)
    cases hh : f.neg
    · simp; omega
    · have := hn hh
      simp; constructor
      · omega
      · intro h; exact this (limbs_nil h)
  have h1 := FValid_list f.neg (limbs f.num) (limbs f.den) (by omega) (by omega)
  rw [hv] at h1
  (refine St.seq ?_; refine St.regionK (fun K hK => ?_); refine Ops.boxN 0 rfl rfl rfl rfl rfl rfl rfl ?_; refine Ops.alloc 1 rfl rfl (by with_reducible first | exact zvFrac) rfl rfl rfl ?_; refine Ops.assign rfl rfl rfl ?_; refine Ops.nil (hK _ _ ?_); clear hK K; refine Fin.then ?_; refine St.seq ?_; refine St.seq ?_; refine St.regionK (fun K hK => ?_); refine Ops.ldNO (n := 3) rfl rfl rfl rfl rfl (by with_reducible exact lFrac) rfl ?_)
  refine Ops.call goFValid h1 rfl rfl rfl rfl ?_
  (refine Ops.inot rfl rfl rfl ?_; refine Ops.nil (hK _ _ ?_); clear hK K; refine Fin.then ?_; refine St.condF rfl ?_; refine St.skip ?_; refine Fin.then ?_; refine St.seq ?_; refine St.regionK (fun K hK => ?_); refine Ops.ldNO (n := 3) rfl rfl rfl rfl rfl (by with_reducible exact lFrac) rfl ?_; refine Ops.stWN 3 rfl rfl rfl rfl rfl (by with_reducible exact szFrac) rfl rfl ?_; refine Ops.assign rfl rfl rfl ?_; refine Ops.nil (hK _ _ ?_); clear hK K; refine Fin.then ?_; refine St.ret ?_)
  refine Fin.ret [_, _] rfl (AllRes.cellN (n := 3) rfl rfl (by with_reducible exact lFrac) rfl (AllRes.tmp rfl AllRes.nil)) rfl rfl
theorem gochecked : InGo Try.prog 55 := InGo.of Try.func55 (by kernel_rfl) (by kernel_rfl)

end Go.Proofs.Ytgpkpmhdfcopgaa
