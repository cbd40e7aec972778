/-
  Walks: routescoperef03.From, Opposite, sum, Order, Compare.
-/
import Derived.Test.YtgpkpmhdfcopgaaQ6
namespace Go.Proofs.Ytgpkpmhdfcopgaa
open Go.Own Go.Limbs
attribute [local irreducible] St Ops Go.Own.Fin Ok

theorem zBool : (Try.prog.info? 4).map (·.size) = some 1 := by kernel_rfl

set_option maxHeartbeats 2000000 in
theorem rFrom_ok (n d : Int) (h1 : -9223372036854775808 ≤ n) (h2 : n ≤ 9223372036854775807) (h3 : -9223372036854775808 ≤ d) (h4 : d ≤ 9223372036854775807) (h0 : d ≠ 0) : Ok Try.prog 22 [intC n, intC d] (.fr (tupT [ratC (Rat.divInt n d), intC 0])) := by
  have hl : (limbs n.natAbs).length ≤ 3 := limbs_length_le (k := 3) (by omega)
  have hl2 : (limbs d.natAbs).length ≤ 3 := limbs_length_le (k := 3) (by omega)
  rw [show ratC (Rat.divInt n d) = fracC (redF (decide (n < 0) != decide (d < 0)) n.natAbs d.natAbs) from by rw [from_redF n d h0]]
  refine Ok.enter Try.func22 rfl _ Try.ntmps22 rfl ?_
  intro S w
  (refine St.seq ?_; refine St.regionK (fun K hK => ?_); refine Ops.alloc 0 rfl rfl (by with_reducible first | exact zvFrac) rfl rfl rfl ?_; refine Ops.assign rfl rfl rfl ?_; refine Ops.nil (hK _ _ ?_); clear hK K; refine Fin.then ?_; refine St.seq ?_; refine St.seq ?_; refine St.regionK (fun K hK => ?_); refine Ops.move rfl rfl rfl ?_; refine Ops.ibin ieql rfl rfl rfl rfl ?_; refine Ops.nil (hK _ _ ?_); clear hK K; refine Fin.then ?_)
  refine St.condP rfl (fun h => absurd h h0) (fun h => ?_)
  (refine St.skip ?_; refine Fin.then ?_; refine St.seq ?_; refine St.regionK (fun K hK => ?_); refine Ops.move rfl rfl rfl ?_; refine Ops.ibin ilss rfl rfl rfl rfl ?_; refine Ops.move rfl rfl rfl ?_; refine Ops.ibin ilss rfl rfl rfl rfl ?_)
  refine Ops.bne rfl rfl rfl (by with_reducible exact uBool) rfl ?_
  rw [dne]
  (refine Ops.move rfl rfl rfl ?_)
  refine Ops.call gormagnitude (rmagnitude_ok n h1 h2) rfl rfl rfl rfl ?_
  (refine Ops.move rfl rfl rfl ?_)
  refine Ops.call gormagnitude (rmagnitude_ok d h3 h4) rfl rfl rfl rfl ?_
  refine Ops.call gorreduced (rreduced_ok _ n.natAbs d.natAbs (by omega) (by omega) (by omega)) rfl rfl rfl rfl ?_
  (refine Ops.stWN 3 rfl rfl rfl rfl rfl (by with_reducible exact szFrac) rfl rfl ?_; refine Ops.assign rfl rfl rfl ?_; refine Ops.nil (hK _ _ ?_); clear hK K; refine Fin.then ?_; refine St.ret ?_)
  refine Fin.ret [_, _] rfl (AllRes.cellN (n := 3) rfl rfl (by with_reducible exact lFrac) rfl (AllRes.tmp rfl AllRes.nil)) rfl rfl
theorem gorFrom : InGo Try.prog 22 := InGo.of Try.func22 (by kernel_rfl) (by kernel_rfl)

def oppF (f : Fr) : Fr := ⟨!f.neg && decide (f.num ≠ 0), f.num, f.den⟩
theorem oppF_q (q : Rat) : oppF (ofQ q) = ofQ (-q) := by
  unfold oppF ofQ
  simp only [Rat.neg_num, Rat.neg_den, Int.natAbs_neg]
  congr 1
  by_cases h : q.num < 0
  · rw [decide_eq_true h, decide_eq_false (show ¬ (-q.num < 0) by omega)]; rfl
  · rw [decide_eq_false h, Bool.not_false, Bool.true_and, decide_eq_decide]; omega

set_option maxHeartbeats 2000000 in
theorem rOpposite_ok (f : Fr) : Ok Try.prog 57 [fracC f] (fracC (oppF f)) := by
  refine Ok.enter Try.func57 rfl _ Try.ntmps57 rfl ?_
  intro S w
  (refine St.seq ?_; refine St.regionK (fun K hK => ?_); refine Ops.boxN 0 rfl rfl rfl rfl rfl rfl rfl ?_; refine Ops.alloc 1 rfl rfl (by with_reducible first | exact zvFrac) rfl rfl rfl ?_; refine Ops.nil (hK _ _ ?_); clear hK K; refine Fin.then ?_; refine St.seq ?_; refine St.regionK (fun K hK => ?_); refine Ops.fldO rfl rfl rfl (by with_reducible first | exact fF0 | exact fF1 | exact fF2 | exact fR0 | exact fR1) rfl ?_; refine Ops.ld1A rfl rfl rfl rfl rfl (by with_reducible first | exact lInt | exact lNat | exact lBool | exact lInts) rfl ?_; refine Ops.inot rfl rfl rfl ?_; refine Ops.move rfl rfl rfl ?_)
  refine Ops.split 6 rfl (fun h => ?_) (fun h => ?_)
  · (refine Ops.fldO rfl rfl rfl (by with_reducible first | exact fF0 | exact fF1 | exact fF2 | exact fR0 | exact fR1) rfl ?_; refine Ops.ld1A rfl rfl rfl rfl rfl (by with_reducible first | exact lInt | exact lNat | exact lBool | exact lInts) rfl ?_; refine Ops.lenF rfl rfl (by with_reducible first | exact sNat.und | exact sInts.und) (List.length_map ..) rfl ?_; refine Ops.ibin igtr rfl rfl rfl rfl ?_; refine Ops.pickT rfl rfl rfl rfl ?_; refine Ops.fldO rfl rfl rfl (by with_reducible first | exact fF0 | exact fF1 | exact fF2 | exact fR0 | exact fR1) rfl ?_)
    refine Ops.st1A rfl rfl rfl rfl rfl (by with_reducible exact zBool) (Nat.zero_lt_succ _) ?_
    (refine Ops.nil (hK _ _ ?_); clear hK K; refine Fin.then ?_; refine St.seq ?_; refine St.regionK (fun K hK => ?_); refine Ops.ldNO (n := 3) rfl rfl rfl rfl rfl (by with_reducible exact lFrac) rfl ?_; refine Ops.stWN 3 rfl rfl rfl rfl rfl (by with_reducible exact szFrac) rfl rfl ?_; refine Ops.nil (hK _ _ ?_); clear hK K; refine Fin.then ?_; refine St.ret ?_)
    refine Fin.ret [_] rfl (AllRes.cellN (n := 3) rfl rfl (by with_reducible exact lFrac) rfl AllRes.nil) (by unfold oppF; rw [h, ← limbs_len_posI]; rfl) rfl
  · (refine Ops.skip rfl rfl rfl ?_; refine Ops.skip rfl rfl rfl ?_; refine Ops.skip rfl rfl rfl ?_; refine Ops.skip rfl rfl rfl ?_; refine Ops.pickF rfl rfl rfl rfl ?_; refine Ops.fldO rfl rfl rfl (by with_reducible first | exact fF0 | exact fF1 | exact fF2 | exact fR0 | exact fR1) rfl ?_)
    refine Ops.st1A rfl rfl rfl rfl rfl (by with_reducible exact zBool) (Nat.zero_lt_succ _) ?_
    (refine Ops.nil (hK _ _ ?_); clear hK K; refine Fin.then ?_; refine St.seq ?_; refine St.regionK (fun K hK => ?_); refine Ops.ldNO (n := 3) rfl rfl rfl rfl rfl (by with_reducible exact lFrac) rfl ?_; refine Ops.stWN 3 rfl rfl rfl rfl rfl (by with_reducible exact szFrac) rfl rfl ?_; refine Ops.nil (hK _ _ ?_); clear hK K; refine Fin.then ?_; refine St.ret ?_)
    refine Fin.ret [_] rfl (AllRes.cellN (n := 3) rfl rfl (by with_reducible exact lFrac) rfl AllRes.nil) (by unfold oppF; rw [h]; rfl) rfl
theorem gorOpposite : InGo Try.prog 57 := InGo.of Try.func57 (by kernel_rfl) (by kernel_rfl)

set_option maxHeartbeats 4000000 in
theorem rsum_ok (f h : Fr) (l1 : (limbs f.num).length ≤ 1000) (l2 : (limbs f.den).length ≤ 1000) (l3 : (limbs h.num).length ≤ 1000) (l4 : (limbs h.den).length ≤ 1000) (d1 : 0 < f.den) (d2 : 0 < h.den) :
    Ok Try.prog 56 [fracC f, fracC h] (fracC (redF (sumS f.neg (f.num * h.den) h.neg (h.num * f.den)) (sumN f.neg (f.num * h.den) h.neg (h.num * f.den)) (f.den * h.den))) := by
  have m1 := mul_len l1 l4
  have m2 := mul_len l3 l2
  have m3 := mul_len l2 l4
  have hp := Nat.mul_pos d1 d2
  have m4 := sumN_len (n1 := f.neg) (n2 := h.neg) m1 m2
  have hr := rreduced_ok (sumS f.neg (f.num * h.den) h.neg (h.num * f.den)) (sumN f.neg (f.num * h.den) h.neg (h.num * f.den)) (f.den * h.den) hp (by omega) (by omega)
  refine Ok.enter Try.func56 rfl _ Try.ntmps56 rfl ?_
  intro S w
  generalize redF (sumS f.neg (f.num * h.den) h.neg (h.num * f.den)) (sumN f.neg (f.num * h.den) h.neg (h.num * f.den)) (f.den * h.den) = rr at *
  (refine St.seq ?_; refine St.regionK (fun K hK => ?_); refine Ops.boxN 0 rfl rfl rfl rfl rfl rfl rfl ?_; refine Ops.boxN 1 rfl rfl rfl rfl rfl rfl rfl ?_; refine Ops.alloc 2 rfl rfl (by with_reducible first | exact zvFrac) rfl rfl rfl ?_; refine Ops.nil (hK _ _ ?_); clear hK K; refine Fin.then ?_; refine St.seq ?_)
  refine St.drawK (by with_reducible exact mixed) 18 (.p 0 (.p 2 (.p 5 (.p 7 (.p 10 (.p 12 (.f 1 (.f 3 (.f 6 (.f 8 (.f 11 (.f 13 (.m 4 (.m 9 (.m 14 (.p 15 (.p 16 (.p 17 .done)))))))))))))))))) (by kernel_rfl) (fun K hK => ?_)
  (refine Ops.fldO rfl rfl rfl (by with_reducible first | exact fF0 | exact fF1 | exact fF2 | exact fR0 | exact fR1) rfl ?_; refine Ops.fldO rfl rfl rfl (by with_reducible first | exact fF0 | exact fF1 | exact fF2 | exact fR0 | exact fR1) rfl ?_; refine Ops.fldO rfl rfl rfl (by with_reducible first | exact fF0 | exact fF1 | exact fF2 | exact fR0 | exact fR1) rfl ?_; refine Ops.fldO rfl rfl rfl (by with_reducible first | exact fF0 | exact fF1 | exact fF2 | exact fR0 | exact fR1) rfl ?_; refine Ops.fldO rfl rfl rfl (by with_reducible first | exact fF0 | exact fF1 | exact fF2 | exact fR0 | exact fR1) rfl ?_; refine Ops.fldO rfl rfl rfl (by with_reducible first | exact fF0 | exact fF1 | exact fF2 | exact fR0 | exact fR1) rfl ?_; refine Ops.ld1A rfl rfl rfl rfl rfl (by with_reducible first | exact lInt | exact lNat | exact lBool | exact lInts) rfl ?_; refine Ops.ld1A rfl rfl rfl rfl rfl (by with_reducible first | exact lInt | exact lNat | exact lBool | exact lInts) rfl ?_; refine Ops.ld1A rfl rfl rfl rfl rfl (by with_reducible first | exact lInt | exact lNat | exact lBool | exact lInts) rfl ?_; refine Ops.ld1A rfl rfl rfl rfl rfl (by with_reducible first | exact lInt | exact lNat | exact lBool | exact lInts) rfl ?_; refine Ops.ld1A rfl rfl rfl rfl rfl (by with_reducible first | exact lInt | exact lNat | exact lBool | exact lInts) rfl ?_; refine Ops.ld1A rfl rfl rfl rfl rfl (by with_reducible first | exact lInt | exact lNat | exact lBool | exact lInts) rfl ?_)
  refine Ops.call gorTimes (rTimes_ok f.num h.den (by omega)) rfl rfl rfl rfl ?_
  skip
  refine Ops.call gorTimes (rTimes_ok h.num f.den (by omega)) rfl rfl rfl rfl ?_
  skip
  refine Ops.call gorTimes (rTimes_ok f.den h.den (by omega)) rfl rfl rfl rfl ?_
  (refine Ops.assign rfl rfl rfl ?_; refine Ops.assign rfl rfl rfl ?_; refine Ops.assign rfl rfl rfl ?_; refine Ops.nil (hK _ _ ?_); clear hK K; refine Fin.then ?_; refine St.seq ?_; refine St.seq ?_; refine St.regionK (fun K hK => ?_); refine Ops.fldO rfl rfl rfl (by with_reducible first | exact fF0 | exact fF1 | exact fF2 | exact fR0 | exact fR1) rfl ?_; refine Ops.ld1A rfl rfl rfl rfl rfl (by with_reducible first | exact lInt | exact lNat | exact lBool | exact lInts) rfl ?_; refine Ops.fldO rfl rfl rfl (by with_reducible first | exact fF0 | exact fF1 | exact fF2 | exact fR0 | exact fR1) rfl ?_; refine Ops.ld1A rfl rfl rfl rfl rfl (by with_reducible first | exact lInt | exact lNat | exact lBool | exact lInts) rfl ?_)
  refine Ops.beq rfl rfl rfl (by with_reducible exact uBool) rfl ?_
  (refine Ops.nil (hK _ _ ?_); clear hK K; refine Fin.then ?_)
  refine St.condB rfl (fun g => ?_) (fun g => ?_)
  · have g' : f.neg = h.neg := by simpa using g
    have e1 : sumN f.neg (f.num * h.den) h.neg (h.num * f.den) = f.num * h.den + h.num * f.den := by unfold sumN; rw [if_pos g']
    have e2 : sumS f.neg (f.num * h.den) h.neg (h.num * f.den) = f.neg := by unfold sumS; rw [if_pos g']
    rw [e1, e2] at hr
    (refine St.seq ?_)
    refine St.drawK (by with_reducible exact mixed) 7 (.p 0 (.p 2 (.p 3 (.p 5 (.f 1 (.m 4 (.m 6 (.a 7 .done)))))))) (by kernel_rfl) (fun K hK => ?_)
    (refine Ops.fldO rfl rfl rfl (by with_reducible first | exact fF0 | exact fF1 | exact fF2 | exact fR0 | exact fR1) rfl ?_; refine Ops.move rfl rfl rfl ?_; refine Ops.move rfl rfl rfl ?_; refine Ops.move rfl rfl rfl ?_; refine Ops.ld1A rfl rfl rfl rfl rfl (by with_reducible first | exact lInt | exact lNat | exact lBool | exact lInts) rfl ?_)
    refine Ops.call gorPlus (rPlus_ok (f.num * h.den) (h.num * f.den) (by omega) (by omega)) rfl rfl rfl rfl ?_
    refine Ops.call gorreduced hr rfl rfl rfl rfl ?_
    (refine Ops.stWN 3 rfl rfl rfl rfl rfl (by with_reducible exact szFrac) rfl rfl ?_; refine Ops.nil (hK _ _ ?_); clear hK K; refine Fin.then ?_; refine St.ret ?_; refine Fin.thenRet ?_)
    refine Fin.ret [_] rfl (AllRes.cellN (n := 3) rfl rfl (by with_reducible exact lFrac) rfl AllRes.nil) rfl rfl
  · have g' : ¬ f.neg = h.neg := by simpa using g
    (refine St.skip ?_; refine Fin.then ?_; refine St.seq ?_; refine St.seq ?_; refine St.regionK (fun K hK => ?_); refine Ops.move rfl rfl rfl ?_; refine Ops.move rfl rfl rfl ?_)
    refine Ops.call gorCompare (rCompare_ok (f.num * h.den) (h.num * f.den) (by omega) (by omega)) rfl rfl rfl rfl ?_
    (refine Ops.ibin igeq rfl rfl rfl rfl ?_; refine Ops.nil (hK _ _ ?_); clear hK K; refine Fin.then ?_)
    refine St.condP rfl (fun g2 => ?_) (fun g2 => ?_)
    · have hle : h.num * f.den ≤ f.num * h.den := by have := cmpI_neg (a := ((f.num * h.den : Nat) : Int)) (b := ((h.num * f.den : Nat) : Int)); omega
      have e1 : sumN f.neg (f.num * h.den) h.neg (h.num * f.den) = f.num * h.den - h.num * f.den := by unfold sumN; rw [if_neg g', if_neg (by omega)]
      have e2 : sumS f.neg (f.num * h.den) h.neg (h.num * f.den) = f.neg := by unfold sumS; rw [if_neg g', if_neg (by omega)]
      rw [e1, e2] at hr
      (refine St.seq ?_)
      refine St.drawK (by with_reducible exact mixed) 7 (.p 0 (.p 2 (.p 3 (.p 5 (.f 1 (.m 4 (.m 6 (.a 7 .done)))))))) (by kernel_rfl) (fun K hK => ?_)
      (refine Ops.fldO rfl rfl rfl (by with_reducible first | exact fF0 | exact fF1 | exact fF2 | exact fR0 | exact fR1) rfl ?_; refine Ops.move rfl rfl rfl ?_; refine Ops.move rfl rfl rfl ?_; refine Ops.move rfl rfl rfl ?_; refine Ops.ld1A rfl rfl rfl rfl rfl (by with_reducible first | exact lInt | exact lNat | exact lBool | exact lInts) rfl ?_)
      refine Ops.call gorLess (rLess_ok (f.num * h.den) (h.num * f.den) hle (by omega)) rfl rfl rfl rfl ?_
      refine Ops.call gorreduced hr rfl rfl rfl rfl ?_
      (refine Ops.stWN 3 rfl rfl rfl rfl rfl (by with_reducible exact szFrac) rfl rfl ?_; refine Ops.nil (hK _ _ ?_); clear hK K; refine Fin.then ?_; refine St.ret ?_; refine Fin.thenRet ?_)
      refine Fin.ret [_] rfl (AllRes.cellN (n := 3) rfl rfl (by with_reducible exact lFrac) rfl AllRes.nil) rfl rfl
    · have hlt : f.num * h.den < h.num * f.den := by have := cmpI_neg (a := ((f.num * h.den : Nat) : Int)) (b := ((h.num * f.den : Nat) : Int)); omega
      have e1 : sumN f.neg (f.num * h.den) h.neg (h.num * f.den) = h.num * f.den - f.num * h.den := by unfold sumN; rw [if_neg g', if_pos hlt]
      have e2 : sumS f.neg (f.num * h.den) h.neg (h.num * f.den) = h.neg := by unfold sumS; rw [if_neg g', if_pos hlt]
      rw [e1, e2] at hr
      (refine St.skip ?_; refine Fin.then ?_; refine St.seq ?_)
      refine St.drawK (by with_reducible exact mixed) 7 (.p 0 (.p 2 (.p 3 (.p 5 (.f 1 (.m 4 (.m 6 (.a 7 .done)))))))) (by kernel_rfl) (fun K hK => ?_)
      (refine Ops.fldO rfl rfl rfl (by with_reducible first | exact fF0 | exact fF1 | exact fF2 | exact fR0 | exact fR1) rfl ?_; refine Ops.move rfl rfl rfl ?_; refine Ops.move rfl rfl rfl ?_; refine Ops.move rfl rfl rfl ?_; refine Ops.ld1A rfl rfl rfl rfl rfl (by with_reducible first | exact lInt | exact lNat | exact lBool | exact lInts) rfl ?_)
      refine Ops.call gorLess (rLess_ok (h.num * f.den) (f.num * h.den) (by omega) (by omega)) rfl rfl rfl rfl ?_
      refine Ops.call gorreduced hr rfl rfl rfl rfl ?_
      (refine Ops.stWN 3 rfl rfl rfl rfl rfl (by with_reducible exact szFrac) rfl rfl ?_; refine Ops.nil (hK _ _ ?_); clear hK K; refine Fin.then ?_; refine St.ret ?_)
      refine Fin.ret [_] rfl (AllRes.cellN (n := 3) rfl rfl (by with_reducible exact lFrac) rfl AllRes.nil) rfl rfl
theorem gorsum : InGo Try.prog 56 := InGo.of Try.func56 (by kernel_rfl) (by kernel_rfl)

end Go.Proofs.Ytgpkpmhdfcopgaa
