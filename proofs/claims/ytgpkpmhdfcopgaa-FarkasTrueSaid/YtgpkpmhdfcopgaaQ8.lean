/-
  Walks: routescoperef03.Order, Compare, Floor (twelfths); routescoperef34.Equal.
-/
import Derived.Test.YtgpkpmhdfcopgaaQ7
import Derived.Test.YtgpkpmhdfcopgaaN18
namespace Go.Proofs.Ytgpkpmhdfcopgaa
open Go.Own Go.Limbs
attribute [local irreducible] St Ops Go.Own.Fin Ok

theorem tw_opp (m : Int) : -(tw m) = tw (-m) := by unfold tw; rw [Rat.neg_mkRat]
theorem rOpposite_tw (m : Int) : Ok Try.prog 57 [twC m] (twC (-m)) := by
  have h := rOpposite_ok (tf m)
  unfold tf at h
  rw [oppF_q, tw_opp] at h; exact h
theorem Tb.len {m : Int} (h : Tb m) : (limbs (tf m).num).length ≤ 1000 := Nat.le_trans h.sz (by decide)
theorem tf_lend (m : Int) : (limbs (tf m).den).length ≤ 1000 := Nat.le_trans (tf_szd m) (by decide)
theorem rsum_tw (a b : Int) (ha : Tb a) (hb : Tb b) : Ok Try.prog 56 [twC a, twC b] (twC (a + b)) := by
  have h := rsum_ok (tf a) (tf b) ha.len (tf_lend a) hb.len (tf_lend b) (tf_den a).1 (tf_den b).1
  unfold tf at h
  rw [add_redF, tw_add] at h; exact h

set_option maxHeartbeats 2000000 in
theorem rFOrder_tw (a b : Int) (ha : Tb a) (hb : Tb b) : Ok Try.prog 33 [twC a, twC b] (intC (cmpI a b)) := by
  have h1 := rOpposite_tw b
  have h2 := rsum_tw a (-b) ha (by unfold Tb at *; omega)
  have hn := tf_neg (a + -b)
  have hz := tf_num_zero (a + -b)
  have hp := limbs_len_pos (n := (tf (a + -b)).num)
  refine Ok.enter Try.func33 rfl _ Try.ntmps33 rfl ?_
  intro S w
  (refine St.seq ?_; refine St.regionK (fun K hK => ?_); refine Ops.boxN 0 rfl rfl rfl rfl rfl rfl rfl ?_; refine Ops.boxN 1 rfl rfl rfl rfl rfl rfl rfl ?_; refine Ops.assign rfl rfl rfl ?_; refine Ops.nil (hK _ _ ?_); clear hK K; refine Fin.then ?_; refine St.seq ?_)
  refine St.drawK (by with_reducible exact mixed) 5 (.f 0 (.f 1 (.fork 2 (.fork 3 (.m 4 (.a 5 .done)) 4 (.m 3 (.a 5 .done))) 4 (.m 2 (.m 3 (.a 5 .done)))))) (by kernel_rfl) (fun K hK => ?_)
  (refine Ops.ldNO (n := 3) rfl rfl rfl rfl rfl (by with_reducible exact lFrac) rfl ?_; refine Ops.ldNO (n := 3) rfl rfl rfl rfl rfl (by with_reducible exact lFrac) rfl ?_)
  refine Ops.fork ?_ ?_
  · refine Ops.call gorOpposite h1 rfl rfl rfl rfl ?_
    refine Ops.fork ?_ ?_
    · refine Ops.call gorsum h2 rfl rfl rfl rfl ?_
      (refine Ops.alloc 2 rfl rfl (by with_reducible first | exact zvFrac) rfl rfl rfl ?_; refine Ops.stWN 3 rfl rfl rfl rfl rfl (by with_reducible exact szFrac) rfl rfl ?_; refine Ops.nil (hK _ _ ?_); clear hK K; refine Fin.then ?_; refine St.seq ?_; refine St.seq ?_; refine St.regionK (fun K hK => ?_); refine Ops.fldO rfl rfl rfl (by with_reducible first | exact fF0 | exact fF1 | exact fF2 | exact fR0 | exact fR1) rfl ?_; refine Ops.ld1A rfl rfl rfl rfl rfl (by with_reducible first | exact lInt | exact lNat | exact lBool | exact lInts) rfl ?_; refine Ops.nil (hK _ _ ?_); clear hK K; refine Fin.then ?_)
      refine St.condB rfl (fun g => ?_) (fun g => ?_)
      · have g' : a < b := by rw [hn] at g; simp at g; omega
        (refine St.seq ?_; refine St.regionK (fun K hK => ?_); refine Ops.assign rfl rfl rfl ?_; refine Ops.nil (hK _ _ ?_); clear hK K; refine Fin.then ?_; refine St.ret ?_; refine Fin.thenRet ?_)
        refine Fin.ret [_] rfl (AllRes.tmp rfl AllRes.nil) (by rw [cmpI_eq, if_pos g']; rfl) rfl
      · have g' : ¬ a < b := by rw [hn] at g; simp at g; omega
        (refine St.skip ?_; refine Fin.then ?_; refine St.seq ?_; refine St.regionK (fun K hK => ?_); refine Ops.fldO rfl rfl rfl (by with_reducible first | exact fF0 | exact fF1 | exact fF2 | exact fR0 | exact fR1) rfl ?_; refine Ops.ld1A rfl rfl rfl rfl rfl (by with_reducible first | exact lInt | exact lNat | exact lBool | exact lInts) rfl ?_; refine Ops.lenF rfl rfl (by with_reducible first | exact sNat.und | exact sInts.und) (List.length_map ..) rfl ?_; refine Ops.min2 rfl rfl rfl rfl ?_; refine Ops.assign rfl rfl rfl ?_; refine Ops.nil (hK _ _ ?_); clear hK K; refine Fin.then ?_; refine St.ret ?_)
        refine Fin.ret [_] rfl (AllRes.tmp rfl AllRes.nil) (by
          rw [cmpI_eq, if_neg g', show (if b < a then (1 : Int) else 0) = min ((limbs (tf (a + -b)).num).length : Int) 1 by split <;> omega]; rfl) rfl
    · (refine Ops.alloc 2 rfl rfl (by with_reducible first | exact zvFrac) rfl rfl rfl ?_)
      refine Ops.call gorsum h2 rfl rfl rfl rfl ?_
      (refine Ops.stWN 3 rfl rfl rfl rfl rfl (by with_reducible exact szFrac) rfl rfl ?_; refine Ops.nil (hK _ _ ?_); clear hK K; refine Fin.then ?_; refine St.seq ?_; refine St.seq ?_; refine St.regionK (fun K hK => ?_); refine Ops.fldO rfl rfl rfl (by with_reducible first | exact fF0 | exact fF1 | exact fF2 | exact fR0 | exact fR1) rfl ?_; refine Ops.ld1A rfl rfl rfl rfl rfl (by with_reducible first | exact lInt | exact lNat | exact lBool | exact lInts) rfl ?_; refine Ops.nil (hK _ _ ?_); clear hK K; refine Fin.then ?_)
      refine St.condB rfl (fun g => ?_) (fun g => ?_)
      · have g' : a < b := by rw [hn] at g; simp at g; omega
        (refine St.seq ?_; refine St.regionK (fun K hK => ?_); refine Ops.assign rfl rfl rfl ?_; refine Ops.nil (hK _ _ ?_); clear hK K; refine Fin.then ?_; refine St.ret ?_; refine Fin.thenRet ?_)
        refine Fin.ret [_] rfl (AllRes.tmp rfl AllRes.nil) (by rw [cmpI_eq, if_pos g']; rfl) rfl
      · have g' : ¬ a < b := by rw [hn] at g; simp at g; omega
        (refine St.skip ?_; refine Fin.then ?_; refine St.seq ?_; refine St.regionK (fun K hK => ?_); refine Ops.fldO rfl rfl rfl (by with_reducible first | exact fF0 | exact fF1 | exact fF2 | exact fR0 | exact fR1) rfl ?_; refine Ops.ld1A rfl rfl rfl rfl rfl (by with_reducible first | exact lInt | exact lNat | exact lBool | exact lInts) rfl ?_; refine Ops.lenF rfl rfl (by with_reducible first | exact sNat.und | exact sInts.und) (List.length_map ..) rfl ?_; refine Ops.min2 rfl rfl rfl rfl ?_; refine Ops.assign rfl rfl rfl ?_; refine Ops.nil (hK _ _ ?_); clear hK K; refine Fin.then ?_; refine St.ret ?_)
        refine Fin.ret [_] rfl (AllRes.tmp rfl AllRes.nil) (by
          rw [cmpI_eq, if_neg g', show (if b < a then (1 : Int) else 0) = min ((limbs (tf (a + -b)).num).length : Int) 1 by split <;> omega]; rfl) rfl
  · (refine Ops.alloc 2 rfl rfl (by with_reducible first | exact zvFrac) rfl rfl rfl ?_)
    refine Ops.call gorOpposite h1 rfl rfl rfl rfl ?_
    refine Ops.call gorsum h2 rfl rfl rfl rfl ?_
    (refine Ops.stWN 3 rfl rfl rfl rfl rfl (by with_reducible exact szFrac) rfl rfl ?_; refine Ops.nil (hK _ _ ?_); clear hK K; refine Fin.then ?_; refine St.seq ?_; refine St.seq ?_; refine St.regionK (fun K hK => ?_); refine Ops.fldO rfl rfl rfl (by with_reducible first | exact fF0 | exact fF1 | exact fF2 | exact fR0 | exact fR1) rfl ?_; refine Ops.ld1A rfl rfl rfl rfl rfl (by with_reducible first | exact lInt | exact lNat | exact lBool | exact lInts) rfl ?_; refine Ops.nil (hK _ _ ?_); clear hK K; refine Fin.then ?_)
    refine St.condB rfl (fun g => ?_) (fun g => ?_)
    · have g' : a < b := by rw [hn] at g; simp at g; omega
      (refine St.seq ?_; refine St.regionK (fun K hK => ?_); refine Ops.assign rfl rfl rfl ?_; refine Ops.nil (hK _ _ ?_); clear hK K; refine Fin.then ?_; refine St.ret ?_; refine Fin.thenRet ?_)
      refine Fin.ret [_] rfl (AllRes.tmp rfl AllRes.nil) (by rw [cmpI_eq, if_pos g']; rfl) rfl
    · have g' : ¬ a < b := by rw [hn] at g; simp at g; omega
      (refine St.skip ?_; refine Fin.then ?_; refine St.seq ?_; refine St.regionK (fun K hK => ?_); refine Ops.fldO rfl rfl rfl (by with_reducible first | exact fF0 | exact fF1 | exact fF2 | exact fR0 | exact fR1) rfl ?_; refine Ops.ld1A rfl rfl rfl rfl rfl (by with_reducible first | exact lInt | exact lNat | exact lBool | exact lInts) rfl ?_; refine Ops.lenF rfl rfl (by with_reducible first | exact sNat.und | exact sInts.und) (List.length_map ..) rfl ?_; refine Ops.min2 rfl rfl rfl rfl ?_; refine Ops.assign rfl rfl rfl ?_; refine Ops.nil (hK _ _ ?_); clear hK K; refine Fin.then ?_; refine St.ret ?_)
      refine Fin.ret [_] rfl (AllRes.tmp rfl AllRes.nil) (by
        rw [cmpI_eq, if_neg g', show (if b < a then (1 : Int) else 0) = min ((limbs (tf (a + -b)).num).length : Int) 1 by split <;> omega]; rfl) rfl
theorem gorFOrder : InGo Try.prog 33 := InGo.of Try.func33 (by kernel_rfl) (by kernel_rfl)

theorem rFCompare_tw (a b : Int) (ha : Tb a) (hb : Tb b) : Ok Try.prog 13 [twC a, twC b] (.fr (tupT [intC (cmpI a b), intC 0])) := by
  refine Ok.enter Try.func13 rfl _ Try.ntmps13 rfl ?_
  intro S w
  (refine St.seq ?_; refine St.regionK (fun K hK => ?_); refine Ops.boxN 0 rfl rfl rfl rfl rfl rfl rfl ?_; refine Ops.boxN 1 rfl rfl rfl rfl rfl rfl rfl ?_; refine Ops.assign rfl rfl rfl ?_; refine Ops.assign rfl rfl rfl ?_; refine Ops.nil (hK _ _ ?_); clear hK K; refine Fin.then ?_; refine St.seq ?_; refine St.regionK (fun K hK => ?_); refine Ops.ldNO (n := 3) rfl rfl rfl rfl rfl (by with_reducible exact lFrac) rfl ?_; refine Ops.ldNO (n := 3) rfl rfl rfl rfl rfl (by with_reducible exact lFrac) rfl ?_)
  refine Ops.call gorFOrder (rFOrder_tw a b ha hb) rfl rfl rfl rfl ?_
  (refine Ops.assign rfl rfl rfl ?_; refine Ops.assign rfl rfl rfl ?_; refine Ops.nil (hK _ _ ?_); clear hK K; refine Fin.then ?_; refine St.ret ?_)
  refine Fin.ret [_, _] rfl (AllRes.tmp rfl (AllRes.tmp rfl AllRes.nil)) rfl rfl
theorem gorFCompare : InGo Try.prog 13 := InGo.of Try.func13 (by kernel_rfl) (by kernel_rfl)

set_option maxHeartbeats 2000000 in
theorem rFloor_ok (f : Fr) (h1 : f.num < 4611686018427387904) (h2 : 0 < f.den) (h3 : (limbs f.den).length ≤ 1000) : Ok Try.prog 16 [fracC f] (.fr (tupT [intC (sg f.neg f.num / (f.den : Int)), intC 0])) := by
  have ln : (limbs f.num).length ≤ 3 := limbs_length_le (k := 3) (by omega)
  have hle := Nat.div_le_self f.num f.den
  have lq : (limbs (f.num / f.den)).length ≤ 3 := limbs_length_le (k := 3) (by omega)
  have e0 := floor_sg f.neg f.num f.den h2
  have e11 : natC 1 = .fr (sliceT 1 [[intC 1]]) := by show intsC (limbs 1) = _; rw [limbs_one (by decide) (by decide)]; rfl
  have l1 : (limbs 1).length = 1 := by rw [limbs_one (by decide) (by decide)]; rfl
  refine Ok.enter Try.func16 rfl _ Try.ntmps16 rfl ?_
  intro S w
  (refine St.seq ?_; refine St.regionK (fun K hK => ?_); refine Ops.boxN 0 rfl rfl rfl rfl rfl rfl rfl ?_; refine Ops.assign rfl rfl rfl ?_; refine Ops.assign rfl rfl rfl ?_; refine Ops.nil (hK _ _ ?_); clear hK K; refine Fin.then ?_; refine St.seq ?_; refine St.regionK (fun K hK => ?_); refine Ops.fldO rfl rfl rfl (by with_reducible first | exact fF0 | exact fF1 | exact fF2 | exact fR0 | exact fR1) rfl ?_; refine Ops.ld1A rfl rfl rfl rfl rfl (by with_reducible first | exact lInt | exact lNat | exact lBool | exact lInts) rfl ?_; refine Ops.fldO rfl rfl rfl (by with_reducible first | exact fF0 | exact fF1 | exact fF2 | exact fR0 | exact fR1) rfl ?_; refine Ops.ld1A rfl rfl rfl rfl rfl (by with_reducible first | exact lInt | exact lNat | exact lBool | exact lInts) rfl ?_)
  refine Ops.call gorSplit (rSplit_ok f.num f.den h2 (by omega) (by omega)) rfl rfl rfl rfl ?_
  (refine Ops.move rfl rfl rfl ?_; refine Ops.extract rfl rfl rfl rfl ?_; refine Ops.extract rfl rfl rfl rfl ?_; refine Ops.assign rfl rfl rfl ?_; refine Ops.assign rfl rfl rfl ?_; refine Ops.nil (hK _ _ ?_); clear hK K; refine Fin.then ?_; refine St.seq ?_; refine St.seq ?_; refine St.regionK (fun K hK => ?_); refine Ops.fldO rfl rfl rfl (by with_reducible first | exact fF0 | exact fF1 | exact fF2 | exact fR0 | exact fR1) rfl ?_; refine Ops.ld1A rfl rfl rfl rfl rfl (by with_reducible first | exact lInt | exact lNat | exact lBool | exact lInts) rfl ?_; refine Ops.move rfl rfl rfl ?_)
  refine Ops.split 18 rfl (fun g => ?_) (fun g => ?_)
  · rw [g] at e0
    (refine Ops.move rfl rfl rfl ?_; refine Ops.lenF rfl rfl (by with_reducible first | exact sNat.und | exact sInts.und) (List.length_map ..) rfl ?_; refine Ops.ibin igtr rfl rfl rfl rfl ?_; refine Ops.pickT rfl rfl rfl rfl ?_; refine Ops.nil (hK _ _ ?_); clear hK K; refine Fin.then ?_)
    refine St.condP rfl (fun h => ?_) (fun h => ?_)
    · have hr : f.num % f.den ≠ 0 := limbs_len_pos.mp (by omega)
      have er : rnd f.num f.den true = f.num / f.den + 1 := by unfold rnd; rw [if_pos ⟨rfl, hr⟩]
      (refine St.regionK (fun K hK => ?_); refine Ops.move rfl rfl rfl ?_)
      refine Ops.lit1 rfl rfl (by with_reducible exact sNat) rfl rfl rfl ?_
      rw [← e11]
      refine Ops.call gorPlus (rPlus_ok (f.num / f.den) 1 (by omega) (by omega)) rfl rfl rfl rfl ?_
      (refine Ops.assign rfl rfl rfl ?_; refine Ops.nil (hK _ _ ?_); clear hK K; refine Fin.then ?_; refine St.seq ?_; refine St.regionK (fun K hK => ?_); refine Ops.move rfl rfl rfl ?_)
      refine Ops.call gorInt (rInt_ok (f.num / f.den + 1) (by omega)) rfl rfl rfl rfl ?_
      (refine Ops.move rfl rfl rfl ?_; refine Ops.extract rfl rfl rfl rfl ?_; refine Ops.extract rfl rfl rfl rfl ?_; refine Ops.assign rfl rfl rfl ?_; refine Ops.assign rfl rfl rfl ?_; refine Ops.nil (hK _ _ ?_); clear hK K; refine Fin.then ?_; refine St.seq ?_; refine St.seq ?_; refine St.regionK (fun K hK => ?_); refine Ops.move rfl rfl rfl ?_; refine Ops.ibin ineq rfl rfl rfl rfl ?_; refine Ops.nil (hK _ _ ?_); clear hK K; refine Fin.then ?_; refine St.condF rfl ?_; refine St.skip ?_; refine Fin.then ?_; refine St.seq ?_; refine St.seq ?_; refine St.regionK (fun K hK => ?_); refine Ops.fldO rfl rfl rfl (by with_reducible first | exact fF0 | exact fF1 | exact fF2 | exact fR0 | exact fR1) rfl ?_; refine Ops.ld1A rfl rfl rfl rfl rfl (by with_reducible first | exact lInt | exact lNat | exact lBool | exact lInts) rfl ?_; refine Ops.nil (hK _ _ ?_); clear hK K; refine Fin.then ?_)
      refine St.condB rfl (fun g2 => ?_) (fun g2 => ?_)
      · (refine St.regionK (fun K hK => ?_); refine Ops.move rfl rfl rfl ?_)
        refine Ops.ineg rfl rfl (by omega) (by omega) rfl ?_
        (refine Ops.assign rfl rfl rfl ?_; refine Ops.nil (hK _ _ ?_); clear hK K; refine Fin.then ?_; refine St.seq ?_; refine St.regionK (fun K hK => ?_); refine Ops.move rfl rfl rfl ?_; refine Ops.assign rfl rfl rfl ?_; refine Ops.assign rfl rfl rfl ?_; refine Ops.nil (hK _ _ ?_); clear hK K; refine Fin.then ?_; refine St.ret ?_)
        refine Fin.ret [_, _] rfl (AllRes.tmp rfl (AllRes.tmp rfl AllRes.nil)) (by rw [g, ← e0, er]; rfl) rfl
      · rw [g] at g2; cases g2
    · have hr : ¬ (f.num % f.den ≠ 0) := fun h' => h (by have := limbs_len_pos.mpr h'; omega)
      have er : rnd f.num f.den true = f.num / f.den := by unfold rnd; rw [if_neg (fun h' => hr h'.2)]
      (refine St.skip ?_; refine Fin.then ?_; refine St.seq ?_; refine St.regionK (fun K hK => ?_); refine Ops.move rfl rfl rfl ?_)
      refine Ops.call gorInt (rInt_ok (f.num / f.den) (by omega)) rfl rfl rfl rfl ?_
      (refine Ops.move rfl rfl rfl ?_; refine Ops.extract rfl rfl rfl rfl ?_; refine Ops.extract rfl rfl rfl rfl ?_; refine Ops.assign rfl rfl rfl ?_; refine Ops.assign rfl rfl rfl ?_; refine Ops.nil (hK _ _ ?_); clear hK K; refine Fin.then ?_; refine St.seq ?_; refine St.seq ?_; refine St.regionK (fun K hK => ?_); refine Ops.move rfl rfl rfl ?_; refine Ops.ibin ineq rfl rfl rfl rfl ?_; refine Ops.nil (hK _ _ ?_); clear hK K; refine Fin.then ?_; refine St.condF rfl ?_; refine St.skip ?_; refine Fin.then ?_; refine St.seq ?_; refine St.seq ?_; refine St.regionK (fun K hK => ?_); refine Ops.fldO rfl rfl rfl (by with_reducible first | exact fF0 | exact fF1 | exact fF2 | exact fR0 | exact fR1) rfl ?_; refine Ops.ld1A rfl rfl rfl rfl rfl (by with_reducible first | exact lInt | exact lNat | exact lBool | exact lInts) rfl ?_; refine Ops.nil (hK _ _ ?_); clear hK K; refine Fin.then ?_)
      refine St.condB rfl (fun g2 => ?_) (fun g2 => ?_)
      · (refine St.regionK (fun K hK => ?_); refine Ops.move rfl rfl rfl ?_)
        refine Ops.ineg rfl rfl (by omega) (by omega) rfl ?_
        (refine Ops.assign rfl rfl rfl ?_; refine Ops.nil (hK _ _ ?_); clear hK K; refine Fin.then ?_; refine St.seq ?_; refine St.regionK (fun K hK => ?_); refine Ops.move rfl rfl rfl ?_; refine Ops.assign rfl rfl rfl ?_; refine Ops.assign rfl rfl rfl ?_; refine Ops.nil (hK _ _ ?_); clear hK K; refine Fin.then ?_; refine St.ret ?_)
        refine Fin.ret [_, _] rfl (AllRes.tmp rfl (AllRes.tmp rfl AllRes.nil)) (by rw [g, ← e0, er]; rfl) rfl
      · rw [g] at g2; cases g2
  · rw [g] at e0
    have er : rnd f.num f.den false = f.num / f.den := by unfold rnd; rw [if_neg (fun h' => by cases h'.1)]
    (refine Ops.skip rfl rfl rfl ?_; refine Ops.skip rfl rfl rfl ?_; refine Ops.skip rfl rfl rfl ?_; refine Ops.pickF rfl rfl rfl rfl ?_; refine Ops.nil (hK _ _ ?_); clear hK K; refine Fin.then ?_; refine St.condF rfl ?_; refine St.skip ?_; refine Fin.then ?_; refine St.seq ?_; refine St.regionK (fun K hK => ?_); refine Ops.move rfl rfl rfl ?_)
    refine Ops.call gorInt (rInt_ok (f.num / f.den) (by omega)) rfl rfl rfl rfl ?_
    (refine Ops.move rfl rfl rfl ?_; refine Ops.extract rfl rfl rfl rfl ?_; refine Ops.extract rfl rfl rfl rfl ?_; refine Ops.assign rfl rfl rfl ?_; refine Ops.assign rfl rfl rfl ?_; refine Ops.nil (hK _ _ ?_); clear hK K; refine Fin.then ?_; refine St.seq ?_; refine St.seq ?_; refine St.regionK (fun K hK => ?_); refine Ops.move rfl rfl rfl ?_; refine Ops.ibin ineq rfl rfl rfl rfl ?_; refine Ops.nil (hK _ _ ?_); clear hK K; refine Fin.then ?_; refine St.condF rfl ?_; refine St.skip ?_; refine Fin.then ?_; refine St.seq ?_; refine St.seq ?_; refine St.regionK (fun K hK => ?_); refine Ops.fldO rfl rfl rfl (by with_reducible first | exact fF0 | exact fF1 | exact fF2 | exact fR0 | exact fR1) rfl ?_; refine Ops.ld1A rfl rfl rfl rfl rfl (by with_reducible first | exact lInt | exact lNat | exact lBool | exact lInts) rfl ?_; refine Ops.nil (hK _ _ ?_); clear hK K; refine Fin.then ?_)
    refine St.condB rfl (fun g2 => ?_) (fun g2 => ?_)
    · rw [g] at g2; cases g2
    · (refine St.skip ?_; refine Fin.then ?_; refine St.seq ?_; refine St.regionK (fun K hK => ?_); refine Ops.move rfl rfl rfl ?_; refine Ops.assign rfl rfl rfl ?_; refine Ops.assign rfl rfl rfl ?_; refine Ops.nil (hK _ _ ?_); clear hK K; refine Fin.then ?_; refine St.ret ?_)
      refine Fin.ret [_, _] rfl (AllRes.tmp rfl (AllRes.tmp rfl AllRes.nil)) (by rw [g, ← e0, er]; rfl) rfl
theorem gorFloor : InGo Try.prog 16 := InGo.of Try.func16 (by kernel_rfl) (by kernel_rfl)
theorem rFloor_tw (m : Int) (hm : m.natAbs < 4611686018427387904) : Ok Try.prog 16 [twC m] (.fr (tupT [intC (m / 12), intC 0])) := by
  have h := rFloor_ok (tf m) (Nat.lt_of_le_of_lt (tf_num_le m) hm) (tf_den m).1 (tf_lend m)
  have e : sg (tf m).neg (tf m).num / ((tf m).den : Int) = m / 12 := by
    obtain ⟨g, hg, ea, ed⟩ := tf_sg m
    have ed1 : (12 : Int) = (tf m).den * g := by exact_mod_cast ed
    conv => rhs; rw [ea, ed1]
    rw [Int.mul_ediv_mul_of_pos_left _ _ (by omega)]
  rw [e] at h; exact h

end Go.Proofs.Ytgpkpmhdfcopgaa
